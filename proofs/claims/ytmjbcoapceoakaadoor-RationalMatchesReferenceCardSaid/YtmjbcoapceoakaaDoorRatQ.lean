/- Rational: the parts of what the operations return, and the plain laws of sums and products. -/
import Derived.Test.YtmjbcoapceoakaaDoorRatP
import Derived.Test.YtmjbcoapceoakaaDoorRatF
namespace Go.Proofs.YtmjbcoapceoakaaDoor
open Go.RowKit

def adE (an ad bn bd : Int) : Int := if vR an ad && vR bn bd then mkE (an * bd + bn * ad) (ad * bd) else 1
def adN (an ad bn bd : Int) : Int := if vR an ad && vR bn bd then mkN (an * bd + bn * ad) (ad * bd) else 0
def adD (an ad bn bd : Int) : Int := if vR an ad && vR bn bd then mkD (an * bd + bn * ad) (ad * bd) else 0
theorem addV_eq (an ad bn bd : Int) : addV an ad bn bd = .tuple #[.agg #[.int .i64 (adN an ad bn bd), .int .i64 (adD an ad bn bd)], .int .i64 (adE an ad bn bd)] := by
  unfold addV adN adD adE
  cases vR an ad && vR bn bd <;> rfl

def suE (an ad bn bd : Int) : Int := if vR an ad && vR bn bd then mkE (an * bd - bn * ad) (ad * bd) else 1
def suN (an ad bn bd : Int) : Int := if vR an ad && vR bn bd then mkN (an * bd - bn * ad) (ad * bd) else 0
def suD (an ad bn bd : Int) : Int := if vR an ad && vR bn bd then mkD (an * bd - bn * ad) (ad * bd) else 0
theorem subV_eq (an ad bn bd : Int) : subV an ad bn bd = .tuple #[.agg #[.int .i64 (suN an ad bn bd), .int .i64 (suD an ad bn bd)], .int .i64 (suE an ad bn bd)] := by
  unfold subV suN suD suE
  cases vR an ad && vR bn bd <;> rfl
/- with 20 -/

def muE (an ad bn bd : Int) : Int := if vR an ad && vR bn bd then mkE (an * bn) (ad * bd) else 1
def muN (an ad bn bd : Int) : Int := if vR an ad && vR bn bd then mkN (an * bn) (ad * bd) else 0
def muD (an ad bn bd : Int) : Int := if vR an ad && vR bn bd then mkD (an * bn) (ad * bd) else 0
theorem mulV_eq (an ad bn bd : Int) : mulV an ad bn bd = .tuple #[.agg #[.int .i64 (muN an ad bn bd), .int .i64 (muD an ad bn bd)], .int .i64 (muE an ad bn bd)] := by
  unfold mulV muN muD muE
  cases vR an ad && vR bn bd <;> rfl
/- with 22 -/

def diE (an ad bn bd : Int) : Int := if vR an ad && vR bn bd then mkE (an * bd) (ad * bn) else 1
def diN (an ad bn bd : Int) : Int := if vR an ad && vR bn bd then mkN (an * bd) (ad * bn) else 0
def diD (an ad bn bd : Int) : Int := if vR an ad && vR bn bd then mkD (an * bd) (ad * bn) else 0
theorem divV_eq (an ad bn bd : Int) : divV an ad bn bd = .tuple #[.agg #[.int .i64 (diN an ad bn bd), .int .i64 (diD an ad bn bd)], .int .i64 (diE an ad bn bd)] := by
  unfold divV diN diD diE
  cases vR an ad && vR bn bd <;> rfl
/- with 23 -/

theorem ad_comm (an ad bn bd : Int) : adE an ad bn bd = adE bn bd an ad ∧ adN an ad bn bd = adN bn bd an ad ∧ adD an ad bn bd = adD bn bd an ad := by
  unfold adE adN adD
  rw [Bool.and_comm (vR an ad), Int.add_comm (an * bd), Int.mul_comm ad]
  exact ⟨rfl, rfl, rfl⟩

theorem mu_comm (an ad bn bd : Int) : muE an ad bn bd = muE bn bd an ad ∧ muN an ad bn bd = muN bn bd an ad ∧ muD an ad bn bd = muD bn bd an ad := by
  unfold muE muN muD
  rw [Bool.and_comm (vR an ad), Int.mul_comm an, Int.mul_comm ad]
  exact ⟨rfl, rfl, rfl⟩
/- with 22 -/

/-- A result that is a number: its operands are, it is, and its value. -/
theorem ad_spec {an ad bn bd : Int} (h : adE an ad bn bd = 0) : vR an ad = true ∧ vR bn bd = true ∧ vR (adN an ad bn bd) (adD an ad bn bd) = true ∧ adN an ad bn bd * (ad * bd) = (an * bd + bn * ad) * adD an ad bn bd := by
  unfold adE at h
  cases hv : vR an ad && vR bn bd
  · rw [hv] at h; simp at h
  · rw [hv, if_pos rfl] at h
    obtain ⟨_, h1, h2⟩ := mk_spec h
    simp only [Bool.and_eq_true] at hv
    simp only [adN, adD, hv.1, hv.2, Bool.and_self, if_true]
    exact ⟨trivial, trivial, h1, h2⟩

theorem su_spec {an ad bn bd : Int} (h : suE an ad bn bd = 0) : vR an ad = true ∧ vR bn bd = true ∧ vR (suN an ad bn bd) (suD an ad bn bd) = true ∧ suN an ad bn bd * (ad * bd) = (an * bd - bn * ad) * suD an ad bn bd := by
  unfold suE at h
  cases hv : vR an ad && vR bn bd
  · rw [hv] at h; simp at h
  · rw [hv, if_pos rfl] at h
    obtain ⟨_, h1, h2⟩ := mk_spec h
    simp only [Bool.and_eq_true] at hv
    simp only [suN, suD, hv.1, hv.2, Bool.and_self, if_true]
    exact ⟨trivial, trivial, h1, h2⟩
/- with 20 -/

theorem mu_spec {an ad bn bd : Int} (h : muE an ad bn bd = 0) : vR an ad = true ∧ vR bn bd = true ∧ vR (muN an ad bn bd) (muD an ad bn bd) = true ∧ muN an ad bn bd * (ad * bd) = (an * bn) * muD an ad bn bd := by
  unfold muE at h
  cases hv : vR an ad && vR bn bd
  · rw [hv] at h; simp at h
  · rw [hv, if_pos rfl] at h
    obtain ⟨_, h1, h2⟩ := mk_spec h
    simp only [Bool.and_eq_true] at hv
    simp only [muN, muD, hv.1, hv.2, Bool.and_self, if_true]
    exact ⟨trivial, trivial, h1, h2⟩
/- with 22 -/

theorem den_pos {n d : Int} (h : vR n d = true) : 0 < d := by have := (v_of h).1; omega
theorem cancel {x y k : Int} (hk : 0 < k) (h : x * k = y * k) : x = y := Int.eq_of_mul_eq_mul_right (by omega) h
theorem mul_ne {a b : Int} (ha : 0 < a) (hb : 0 < b) : a * b ≠ 0 := by have := Int.mul_pos ha hb; omega
/-- Two numbers with one value are the same. -/
theorem same_val {n1 d1 n2 d2 s k : Int} (hk : 0 < k) (v1 : vR n1 d1 = true) (v2 : vR n2 d2 = true) (h1 : n1 * k = s * d1) (h2 : n2 * k = s * d2) : n1 = n2 ∧ d1 = d2 :=
  vR_eq v1 v2 (cancel hk (by grind))

theorem sub_add {an ad bn bd : Int} (h : adE an ad bn bd = 0) :
    suE (adN an ad bn bd) (adD an ad bn bd) bn bd = 0 ∧ suN (adN an ad bn bd) (adD an ad bn bd) bn bd = an ∧ suD (adN an ad bn bd) (adD an ad bn bd) bn bd = ad := by
  obtain ⟨va, vb, vx, ex⟩ := ad_spec h
  generalize adN an ad bn bd = xn at *
  generalize adD an ad bn bd = xd at *
  have pa := den_pos va
  have pb := den_pos vb
  have px := den_pos vx
  have hm := mk_of (n := xn * bd - bn * xd) (d := xd * bd) (mul_ne px pb) va (cancel (Int.mul_pos pa pb) (by grind))
  simp only [suE, suN, suD, vx, vb, Bool.and_self, if_true]
  exact hm
/- with 20 -/

theorem add_assoc' {an ad bn bd cn cd : Int} (h1 : adE an ad bn bd = 0) (h2 : adE bn bd cn cd = 0) (h3 : adE (adN an ad bn bd) (adD an ad bn bd) cn cd = 0) (h4 : adE an ad (adN bn bd cn cd) (adD bn bd cn cd) = 0) :
    adN (adN an ad bn bd) (adD an ad bn bd) cn cd = adN an ad (adN bn bd cn cd) (adD bn bd cn cd) ∧ adD (adN an ad bn bd) (adD an ad bn bd) cn cd = adD an ad (adN bn bd cn cd) (adD bn bd cn cd) := by
  obtain ⟨va, vb, vx, ex⟩ := ad_spec h1
  obtain ⟨_, vc, vz, ez⟩ := ad_spec h2
  obtain ⟨_, _, vl, el⟩ := ad_spec h3
  obtain ⟨_, _, vr, er⟩ := ad_spec h4
  generalize adN (adN an ad bn bd) (adD an ad bn bd) cn cd = ln at *
  generalize adD (adN an ad bn bd) (adD an ad bn bd) cn cd = ld at *
  generalize adN an ad (adN bn bd cn cd) (adD bn bd cn cd) = rn at *
  generalize adD an ad (adN bn bd cn cd) (adD bn bd cn cd) = rd at *
  generalize adN an ad bn bd = xn at *
  generalize adD an ad bn bd = xd at *
  generalize adN bn bd cn cd = zn at *
  generalize adD bn bd cn cd = zd at *
  have pa := den_pos va
  have pb := den_pos vb
  have pc := den_pos vc
  have px := den_pos vx
  have pz := den_pos vz
  refine same_val (s := an * bd * cd + bn * ad * cd + cn * ad * bd) (k := ad * bd * cd) (Int.mul_pos (Int.mul_pos pa pb) pc) vl vr ?_ ?_
  · exact cancel px (by grind)
  · exact cancel pz (by grind)

theorem div_mul {an ad bn bd : Int} (h : muE an ad bn bd = 0) (hb : bn ≠ 0) :
    diE (muN an ad bn bd) (muD an ad bn bd) bn bd = 0 ∧ diN (muN an ad bn bd) (muD an ad bn bd) bn bd = an ∧ diD (muN an ad bn bd) (muD an ad bn bd) bn bd = ad := by
  obtain ⟨va, vb, vx, ex⟩ := mu_spec h
  generalize muN an ad bn bd = xn at *
  generalize muD an ad bn bd = xd at *
  have pa := den_pos va
  have pb := den_pos vb
  have px := den_pos vx
  have hm := mk_of (n := xn * bd) (d := xd * bn) (Int.mul_ne_zero (by omega) hb) va (by grind)
  simp only [diE, diN, diD, vx, vb, Bool.and_self, if_true]
  exact hm
/- with 23 22 -/

theorem mul_assoc' {an ad bn bd cn cd : Int} (h1 : muE an ad bn bd = 0) (h2 : muE bn bd cn cd = 0) (h3 : muE (muN an ad bn bd) (muD an ad bn bd) cn cd = 0) (h4 : muE an ad (muN bn bd cn cd) (muD bn bd cn cd) = 0) :
    muN (muN an ad bn bd) (muD an ad bn bd) cn cd = muN an ad (muN bn bd cn cd) (muD bn bd cn cd) ∧ muD (muN an ad bn bd) (muD an ad bn bd) cn cd = muD an ad (muN bn bd cn cd) (muD bn bd cn cd) := by
  obtain ⟨va, vb, vx, ex⟩ := mu_spec h1
  obtain ⟨_, vc, vz, ez⟩ := mu_spec h2
  obtain ⟨_, _, vl, el⟩ := mu_spec h3
  obtain ⟨_, _, vr, er⟩ := mu_spec h4
  generalize muN (muN an ad bn bd) (muD an ad bn bd) cn cd = ln at *
  generalize muD (muN an ad bn bd) (muD an ad bn bd) cn cd = ld at *
  generalize muN an ad (muN bn bd cn cd) (muD bn bd cn cd) = rn at *
  generalize muD an ad (muN bn bd cn cd) (muD bn bd cn cd) = rd at *
  generalize muN an ad bn bd = xn at *
  generalize muD an ad bn bd = xd at *
  generalize muN bn bd cn cd = zn at *
  generalize muD bn bd cn cd = zd at *
  have pa := den_pos va
  have pb := den_pos vb
  have pc := den_pos vc
  have px := den_pos vx
  have pz := den_pos vz
  refine same_val (s := an * bn * cn) (k := ad * bd * cd) (Int.mul_pos (Int.mul_pos pa pb) pc) vl vr ?_ ?_
  · exact cancel px (by grind)
  · exact cancel pz (by grind)
/- with 22 -/

/-- Mul distributes over Add: x = a b, s = b + c, l = a s, p = a c, q = x + p. -/
theorem distrib' {an ad bn bd cn cd : Int} (h1 : muE an ad bn bd = 0) (h2 : adE bn bd cn cd = 0) (h3 : muE an ad (adN bn bd cn cd) (adD bn bd cn cd) = 0) (h4 : muE an ad cn cd = 0)
    (h5 : adE (muN an ad bn bd) (muD an ad bn bd) (muN an ad cn cd) (muD an ad cn cd) = 0) :
    muN an ad (adN bn bd cn cd) (adD bn bd cn cd) = adN (muN an ad bn bd) (muD an ad bn bd) (muN an ad cn cd) (muD an ad cn cd) ∧ muD an ad (adN bn bd cn cd) (adD bn bd cn cd) = adD (muN an ad bn bd) (muD an ad bn bd) (muN an ad cn cd) (muD an ad cn cd) := by
  obtain ⟨va, vb, vx, ex⟩ := mu_spec h1
  obtain ⟨_, vc, vs, es⟩ := ad_spec h2
  obtain ⟨_, _, vl, el⟩ := mu_spec h3
  obtain ⟨_, _, vp, ep⟩ := mu_spec h4
  obtain ⟨_, _, vq, eq⟩ := ad_spec h5
  generalize adN (muN an ad bn bd) (muD an ad bn bd) (muN an ad cn cd) (muD an ad cn cd) = qn at *
  generalize adD (muN an ad bn bd) (muD an ad bn bd) (muN an ad cn cd) (muD an ad cn cd) = qd at *
  generalize muN an ad (adN bn bd cn cd) (adD bn bd cn cd) = ln at *
  generalize muD an ad (adN bn bd cn cd) (adD bn bd cn cd) = ld at *
  generalize muN an ad bn bd = xn at *
  generalize muD an ad bn bd = xd at *
  generalize muN an ad cn cd = pn at *
  generalize muD an ad cn cd = pd at *
  generalize adN bn bd cn cd = sn at *
  generalize adD bn bd cn cd = sd at *
  have pa := den_pos va
  have pb := den_pos vb
  have pc := den_pos vc
  have px := den_pos vx
  have ps := den_pos vs
  have pp := den_pos vp
  refine same_val (s := an * bn * cd + an * cn * bd) (k := ad * bd * cd) (Int.mul_pos (Int.mul_pos pa pb) pc) vl vq ?_ ?_
  · exact cancel ps (by grind)
  · refine cancel (Int.mul_pos (Int.mul_pos px pp) pa) ?_
    have e1 : qn * (ad * bd * cd) * (xd * pd * ad) = (qn * (xd * pd)) * (ad * bd * cd * ad) := by grind
    have e2 : (an * bn * cd + an * cn * bd) * qd * (xd * pd * ad) = ((an * bn) * xd * (cd * ad) * pd + (an * cn) * pd * (bd * ad) * xd) * qd := by grind
    rw [e1, eq, e2, ← ex, ← ep]
    grind
/- with 22 -/

end Go.Proofs.YtmjbcoapceoakaaDoor
