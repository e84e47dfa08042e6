/- Rational: the parts of what the operations return, and the plain laws of sums and products. -/
import Derived.Test.YtehifkdfbiebfaaDoorK05
import Derived.Test.YtehifkdfbiebfaaDoorK13
namespace Go.Proofs.YtehifkdfbiebfaaDoor
open Go.RowKit

def adE (an ad bn bd : Int) : Int := if vR an ad && vR bn bd then mkE (an * bd + bn * ad) (ad * bd) else 1
def adN (an ad bn bd : Int) : Int := if vR an ad && vR bn bd then mkN (an * bd + bn * ad) (ad * bd) else 0
def adD (an ad bn bd : Int) : Int := if vR an ad && vR bn bd then mkD (an * bd + bn * ad) (ad * bd) else 0
theorem addV_eq (an ad bn bd : Int) : addV an ad bn bd = .tuple #[.agg #[.int .i64 (adN an ad bn bd), .int .i64 (adD an ad bn bd)], .int .i64 (adE an ad bn bd)] := by
  unfold addV adN adD adE
  cases vR an ad && vR bn bd <;> rfl

def suE (an ad bn bd : Int) : Int := if vR an ad && vR bn bd then mkE (an * bd - bn * ad) (ad * bd) else 1
def suN (an ad bn bd : Int) : Int := if vR an ad && vR bn bd then mkN (an * bd - bn * ad) (ad * bd) else 0
def suD (an ad bn bd : Int) : Int := if vR an ad && vR bn bd then mkD (an * bd - bn * ad) (ad * bd) else 0
theorem subV_eq (an ad bn bd : Int) : subV an ad bn bd = .tuple #[.agg #[.int .i64 (suN an ad bn bd), .int .i64 (suD an ad bn bd)], .int .i64 (suE an ad bn bd)] := by
  unfold subV suN suD suE
  cases vR an ad && vR bn bd <;> rfl
/- with 19 -/

def muE (an ad bn bd : Int) : Int := if vR an ad && vR bn bd then mkE (an * bn) (ad * bd) else 1
def muN (an ad bn bd : Int) : Int := if vR an ad && vR bn bd then mkN (an * bn) (ad * bd) else 0
def muD (an ad bn bd : Int) : Int := if vR an ad && vR bn bd then mkD (an * bn) (ad * bd) else 0

def diE (an ad bn bd : Int) : Int := if vR an ad && vR bn bd then mkE (an * bd) (ad * bn) else 1
def diN (an ad bn bd : Int) : Int := if vR an ad && vR bn bd then mkN (an * bd) (ad * bn) else 0
def diD (an ad bn bd : Int) : Int := if vR an ad && vR bn bd then mkD (an * bd) (ad * bn) else 0
theorem divV_eq (an ad bn bd : Int) : divV an ad bn bd = .tuple #[.agg #[.int .i64 (diN an ad bn bd), .int .i64 (diD an ad bn bd)], .int .i64 (diE an ad bn bd)] := by
  unfold divV diN diD diE
  cases vR an ad && vR bn bd <;> rfl
/- with 13 -/

theorem ad_comm (an ad bn bd : Int) : adE an ad bn bd = adE bn bd an ad ∧ adN an ad bn bd = adN bn bd an ad ∧ adD an ad bn bd = adD bn bd an ad := by
  unfold adE adN adD
  rw [Bool.and_comm (vR an ad), Int.add_comm (an * bd), Int.mul_comm ad]
  exact ⟨rfl, rfl, rfl⟩



/-- A result that is a number: its operands are, it is, and its value. -/
theorem ad_spec {an ad bn bd : Int} (h : adE an ad bn bd = 0) : vR an ad = true ∧ vR bn bd = true ∧ vR (adN an ad bn bd) (adD an ad bn bd) = true ∧ adN an ad bn bd * (ad * bd) = (an * bd + bn * ad) * adD an ad bn bd := by
  unfold adE at h
  cases hv : vR an ad && vR bn bd
  · rw [hv] at h; simp at h
  · rw [hv, if_pos rfl] at h
    obtain ⟨_, h1, h2⟩ := mk_spec h
    simp only [Bool.and_eq_true] at hv
    simp only [adN, adD, hv.1, hv.2, Bool.and_self, if_true]
    exact ⟨trivial, trivial, h1, h2⟩

theorem su_spec {an ad bn bd : Int} (h : suE an ad bn bd = 0) : vR an ad = true ∧ vR bn bd = true ∧ vR (suN an ad bn bd) (suD an ad bn bd) = true ∧ suN an ad bn bd * (ad * bd) = (an * bd - bn * ad) * suD an ad bn bd := by
  unfold suE at h
  cases hv : vR an ad && vR bn bd
  · rw [hv] at h; simp at h
  · rw [hv, if_pos rfl] at h
    obtain ⟨_, h1, h2⟩ := mk_spec h
    simp only [Bool.and_eq_true] at hv
    simp only [suN, suD, hv.1, hv.2, Bool.and_self, if_true]
    exact ⟨trivial, trivial, h1, h2⟩
/- with 19 -/



theorem den_pos {n d : Int} (h : vR n d = true) : 0 < d := by have := (v_of h).1; omega
theorem cancel {x y k : Int} (hk : 0 < k) (h : x * k = y * k) : x = y := Int.eq_of_mul_eq_mul_right (by omega) h
theorem mul_ne {a b : Int} (ha : 0 < a) (hb : 0 < b) : a * b ≠ 0 := by have := Int.mul_pos ha hb; omega
/-- Two numbers with one value are the same. -/
theorem same_val {n1 d1 n2 d2 s k : Int} (hk : 0 < k) (v1 : vR n1 d1 = true) (v2 : vR n2 d2 = true) (h1 : n1 * k = s * d1) (h2 : n2 * k = s * d2) : n1 = n2 ∧ d1 = d2 :=
  vR_eq v1 v2 (cancel hk (by grind))

theorem sub_add {an ad bn bd : Int} (h : adE an ad bn bd = 0) :
    suE (adN an ad bn bd) (adD an ad bn bd) bn bd = 0 ∧ suN (adN an ad bn bd) (adD an ad bn bd) bn bd = an ∧ suD (adN an ad bn bd) (adD an ad bn bd) bn bd = ad := by
  obtain ⟨va, vb, vx, ex⟩ := ad_spec h
  generalize adN an ad bn bd = xn at *
  generalize adD an ad bn bd = xd at *
  have pa := den_pos va
  have pb := den_pos vb
  have px := den_pos vx
  have hm := mk_of (n := xn * bd - bn * xd) (d := xd * bd) (mul_ne px pb) va (cancel (Int.mul_pos pa pb) (by grind))
  simp only [suE, suN, suD, vx, vb, Bool.and_self, if_true]
  exact hm
/- with 19 -/

theorem add_assoc' {an ad bn bd cn cd : Int} (h1 : adE an ad bn bd = 0) (h2 : adE bn bd cn cd = 0) (h3 : adE (adN an ad bn bd) (adD an ad bn bd) cn cd = 0) (h4 : adE an ad (adN bn bd cn cd) (adD bn bd cn cd) = 0) :
    adN (adN an ad bn bd) (adD an ad bn bd) cn cd = adN an ad (adN bn bd cn cd) (adD bn bd cn cd) ∧ adD (adN an ad bn bd) (adD an ad bn bd) cn cd = adD an ad (adN bn bd cn cd) (adD bn bd cn cd) := by
  obtain ⟨va, vb, vx, ex⟩ := ad_spec h1
  obtain ⟨_, vc, vz, ez⟩ := ad_spec h2
  obtain ⟨_, _, vl, el⟩ := ad_spec h3
  obtain ⟨_, _, vr, er⟩ := ad_spec h4
  generalize adN (adN an ad bn bd) (adD an ad bn bd) cn cd = ln at *
  generalize adD (adN an ad bn bd) (adD an ad bn bd) cn cd = ld at *
  generalize adN an ad (adN bn bd cn cd) (adD bn bd cn cd) = rn at *
  generalize adD an ad (adN bn bd cn cd) (adD bn bd cn cd) = rd at *
  generalize adN an ad bn bd = xn at *
  generalize adD an ad bn bd = xd at *
  generalize adN bn bd cn cd = zn at *
  generalize adD bn bd cn cd = zd at *
  have pa := den_pos va
  have pb := den_pos vb
  have pc := den_pos vc
  have px := den_pos vx
  have pz := den_pos vz
  refine same_val (s := an * bd * cd + bn * ad * cd + cn * ad * bd) (k := ad * bd * cd) (Int.mul_pos (Int.mul_pos pa pb) pc) vl vr ?_ ?_
  · exact cancel px (by grind)
  · exact cancel pz (by grind)







end Go.Proofs.YtehifkdfbiebfaaDoor
