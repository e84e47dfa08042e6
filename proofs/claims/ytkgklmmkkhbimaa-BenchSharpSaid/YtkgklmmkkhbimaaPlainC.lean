/- The frequencies of two lists of numbers by which the steps are off: where they agree and where they differ. -/
import Derived.Test.YtkgklmmkkhbimaaPlainB
import Derived.Test.YtkgklmmkkhbimaaPlainA
namespace Go.Proofs.Ytkgklmmkkhbimaa
open Go.RowKit

theorem mo_inj_off {fn fd p q s sd o od u ud : Int} (h : moE fn fd p q s sd o od = 0) (k : moE fn fd p q s sd u ud = 0) (hx : moX fn fd p q s sd o od = moX fn fd p q s sd u ud) (hy : moY fn fd p q s sd o od = moY fn fd p q s sd u ud) : o = u ∧ od = ud := by
  obtain ⟨a1, a2, a3, a4, a5, a6, a7⟩ := mo_val h
  obtain ⟨_, _, _, _, b5, _, b7⟩ := mo_val k
  obtain ⟨_, _, fp⟩ := sd_pos a1
  obtain ⟨_, _, yp⟩ := sd_pos a6
  have sp := den_pos a4
  rw [← hx, ← hy] at b7
  generalize moX fn fd p q s sd o od = X at *
  generalize moY fn fd p q s sd o od = Y at *
  refine vR_eq a5 b5 ?_
  have K : 0 < sd * fd * Y := Int.mul_pos (Int.mul_pos sp fp) yp
  refine cancel K ?_
  have e1 : X * (q * fd * sd * od) * ud = X * (q * fd * sd * ud) * od := by grind
  rw [a7, b7] at e1
  grind
theorem mo_inj_f {fn fd gn gd p q s sd o od : Int} (h : moE fn fd p q s sd o od = 0) (k : moE gn gd p q s sd o od = 0) (hx : moX fn fd p q s sd o od = moX gn gd p q s sd o od) (hy : moY fn fd p q s sd o od = moY gn gd p q s sd o od) : fn = gn ∧ fd = gd := by
  obtain ⟨a1, a2, a3, a4, a5, a6, a7⟩ := mo_val h
  obtain ⟨b1, _, _, _, _, _, b7⟩ := mo_val k
  obtain ⟨vf, _, fp⟩ := sd_pos a1
  obtain ⟨vg, _, gp⟩ := sd_pos b1
  obtain ⟨_, _, yp⟩ := sd_pos a6
  have sp := den_pos a4
  have op := den_pos a5
  have p0 : 0 < p := by unfold ptV at a2; simp only [Bool.and_eq_true, decide_eq_true_eq] at a2; omega
  rw [← hx, ← hy] at b7
  generalize moX fn fd p q s sd o od = X at *
  generalize moY fn fd p q s sd o od = Y at *
  refine vR_eq vf vg ?_
  have K : 0 < p * sd * od * Y := Int.mul_pos (Int.mul_pos (Int.mul_pos p0 sp) op) yp
  refine cancel K ?_
  have e1 : X * (q * fd * sd * od) * gd = X * (q * gd * sd * od) * fd := by grind
  rw [a7, b7] at e1
  grind

/-- What a step sets from f. -/
def stepE (f : Int × Int) (b : Bt) (o : Int × Int) : Int := moE f.1 f.2 b.p b.q (sgn b.ab b.rn) b.rd o.1 o.2
def stepF (f : Int × Int) (b : Bt) (o : Int × Int) : Int × Int := (moX f.1 f.2 b.p b.q (sgn b.ab b.rn) b.rd o.1 o.2, moY f.1 f.2 b.p b.q (sgn b.ab b.rn) b.rd o.1 o.2)
theorem getD_of {l : List Bt} {k : Nat} {b : Bt} (h : l[k]? = some b) : l.getD k default = b := by rw [List.getD_eq_getElem?_getD, h]; rfl
/-- The frequencies are what the steps set, each from the final frequency of its first item. -/
theorem play_fix {n : Int} {l : List Bt} {f0 : Int × Int} {off : Nat → Int × Int} (hv : vld n l = true) : ∀ {k : Nat} {g : Nat → Int × Int}, k ≤ l.length → plO l f0 off k = some g →
    g 0 = f0 ∧ ∀ i b, i < k → l[i]? = some b → stepE (g b.fr.toNat) b (off i) = 0 ∧ g b.to.toNat = stepF (g b.fr.toNat) b (off i)
  | 0, g, _, h => by
    simp only [plO, Option.some.injEq] at h
    subst h
    exact ⟨by simp, fun i b hi => absurd hi (by omega)⟩
  | k + 1, g', hk, h => by
    simp only [plO, Option.bind_eq_some_iff] at h
    obtain ⟨g, hg, h⟩ := h
    obtain ⟨c, hc⟩ : ∃ c, l[k]? = some c := ⟨l[k], by simp⟩
    rw [getD_of hc] at h
    obtain ⟨i0, ih⟩ := play_fix hv (by omega) hg
    have hp := (ok_parts (vld_at hv hc)).2.2.2
    split at h
    case isFalse => cases h
    case isTrue e1 =>
      simp only [Option.some.injEq] at h
      subst h
      have hno := stF_none.1 hp.2.2.1
      have hfr : ∀ i b, i ≤ k → l[i]? = some b → b.fr.toNat ≠ c.to.toNat := by
        intro i b hi hb
        have hq := (ok_parts (vld_at hv hb)).2.2.2.2.2.2
        rcases hq with h0 | ⟨h0, _, h1⟩
        · omega
        · obtain ⟨y, hy, ht⟩ := stF_get h1
          have hm : y ∈ l.take k := by
            have := (List.getElem?_eq_some_iff.1 hy)
            obtain ⟨hl, he⟩ := this
            rw [List.length_take] at hl
            rw [List.mem_take_iff_getElem]
            refine ⟨(stF (l.take i) b.fr).toNat, by omega, ?_⟩
            rw [← he, List.getElem_take]
          have := hno y hm
          omega
      refine ⟨?_, fun i b hi hb => ?_⟩
      · have : ¬ 0 = c.to.toNat := by omega
        simp only [this, if_false]
        exact i0
      · have h1 := hfr i b (by omega) hb
        simp only [h1, if_false]
        by_cases hik : i = k
        · subst hik
          rw [hc] at hb
          obtain rfl := Option.some.inj hb
          simp only [if_true]
          exact ⟨e1, rfl⟩
        · have hm : b ∈ l.take k := by
            rw [List.mem_take_iff_getElem]
            have := (List.getElem?_eq_some_iff.1 hb)
            obtain ⟨hl, he⟩ := this
            exact ⟨i, by omega, he⟩
          have h2 := hno b hm
          have h3 := (ok_parts (vld_at hv hb)).2.2.2
          have h4 : ¬ b.to.toNat = c.to.toNat := by omega
          simp only [h4, if_false]
          exact ih i b (by omega) hb

section
variable {n : Int} {l : List Bt} {f0 : Int × Int} {off by_ : Nat → Int × Int} {p q : Nat → Int × Int}
theorem step_same (hv : vld n l = true) (hp : plO l f0 off l.length = some p) (hq : plO l f0 by_ l.length = some q) {x : Int} (h0 : 0 ≤ x) (hn : x < n) {k : Nat} (hk : k < wayK l x) :
    (off (stF l (itL l x k)).toNat = by_ (stF l (itL l x k)).toNat → (p (itL l x (k + 1)).toNat = q (itL l x (k + 1)).toNat ↔ p (itL l x k).toNat = q (itL l x k).toNat)) ∧
    (off (stF l (itL l x k)).toNat ≠ by_ (stF l (itL l x k)).toNat → p (itL l x (k + 1)).toNat = q (itL l x (k + 1)).toNat → p (itL l x k).toNat ≠ q (itL l x k).toNat) := by
  obtain ⟨_, hw⟩ := way_spec hv h0 hn
  obtain ⟨w1, w2⟩ := hw k hk
  obtain ⟨b, hb, ht, hf, _⟩ := fr_spec hv w1 w2
  have hi := (List.getElem?_eq_some_iff.1 hb).1
  obtain ⟨e1, g1⟩ := (play_fix hv (Nat.le_refl _) hp).2 _ b hi hb
  obtain ⟨e2, g2⟩ := (play_fix hv (Nat.le_refl _) hq).2 _ b hi hb
  have e : itL l x (k + 1) = b.fr := hf.symm
  rw [e]
  rw [ht] at g1 g2
  rw [g1, g2]
  generalize p b.fr.toNat = F at *
  generalize q b.fr.toNat = G at *
  generalize off (stF l (itL l x k)).toNat = O at *
  generalize by_ (stF l (itL l x k)).toNat = U at *
  unfold stepE at e1 e2
  unfold stepF
  refine ⟨fun hO => ?_, fun hO hF hh => ?_⟩
  · subst hO
    constructor
    · intro h; rw [h]
    · intro h
      simp only [Prod.mk.injEq] at h
      obtain ⟨a, b⟩ := mo_inj_f e1 e2 h.1 h.2
      exact Prod.ext a b
  · subst hF
    simp only [Prod.mk.injEq] at hh
    obtain ⟨a, b⟩ := mo_inj_off e1 e2 hh.1 hh.2
    exact hO (Prod.ext a b)
theorem same_down (hv : vld n l = true) (hp : plO l f0 off l.length = some p) (hq : plO l f0 by_ l.length = some q) {x : Int} (h0 : 0 ≤ x) (hn : x < n) :
    ∀ m, m ≤ wayK l x → (∀ k, wayK l x - m ≤ k → k < wayK l x → off (stF l (itL l x k)).toNat = by_ (stF l (itL l x k)).toNat) → p (itL l x (wayK l x - m)).toNat = q (itL l x (wayK l x - m)).toNat
  | 0, _, _ => by
    have hz := (way_spec hv h0 hn).1
    rw [Nat.sub_zero, hz]
    show p 0 = q 0
    rw [(play_fix hv (Nat.le_refl _) hp).1, (play_fix hv (Nat.le_refl _) hq).1]
  | m + 1, hm, hk => by
    have ih := same_down hv hp hq h0 hn m (by omega) (fun k h1 h2 => hk k (by omega) h2)
    have hs := (step_same hv hp hq h0 hn (k := wayK l x - (m + 1)) (by omega)).1 (hk _ (Nat.le_refl _) (by omega))
    rw [show wayK l x - (m + 1) + 1 = wayK l x - m by omega] at hs
    exact hs.1 ih
theorem diff_down (hv : vld n l = true) (hp : plO l f0 off l.length = some p) (hq : plO l f0 by_ l.length = some q) {x : Int} (h0 : 0 ≤ x) (hn : x < n) {k0 : Nat} (hk0 : k0 < wayK l x)
    (hd : p (itL l x k0).toNat ≠ q (itL l x k0).toNat) (hs : ∀ k, k < k0 → off (stF l (itL l x k)).toNat = by_ (stF l (itL l x k)).toNat) : ∀ m, m ≤ k0 → p (itL l x (k0 - m)).toNat ≠ q (itL l x (k0 - m)).toNat
  | 0, _ => hd
  | m + 1, hm => by
    have ih := diff_down hv hp hq h0 hn hk0 hd hs m (by omega)
    have hh := (step_same hv hp hq h0 hn (k := k0 - (m + 1)) (by omega)).1 (hs _ (by omega))
    rw [show k0 - (m + 1) + 1 = k0 - m by omega] at hh
    intro h
    exact ih (hh.2 h)
/-- The steps in which the two lists differ. -/
def wrS (off by_ : Nat → Int × Int) (i : Nat) : Bool := !(off i == by_ i)
theorem bad_sel (off by_ : Nat → Int × Int) {L j : Nat} (hj : j < L) : badF (selF (wrS off by_) L) j = wrS off by_ j := by
  unfold badF
  cases h : wrS off by_ j
  · rw [List.any_eq_false]
    intro z hz
    rw [sel_mem] at hz
    obtain ⟨i, h1, h2, rfl⟩ := hz
    intro he
    have he' : (i : Int) = j := by simpa using he
    have : i = j := by omega
    rw [this, h] at h2
    cases h2
  · rw [List.any_eq_true]
    exact ⟨j, (sel_mem _ _ _).2 ⟨j, hj, h, rfl⟩, by simp⟩
theorem wr_false {i : Nat} (h : wrS off by_ i = false) : off i = by_ i := by
  unfold wrS at h
  simpa using h
theorem wr_true {i : Nat} (h : wrS off by_ i = true) : off i ≠ by_ i := by
  unfold wrS at h
  simpa using h
theorem repairs_law (hv : vld n l = true) (hp : plO l f0 off l.length = some p) (hq : plO l f0 by_ l.length = some q) (i : Nat) (b : Bt) (hb : l[i]? = some b) :
    0 ≤ b.to ∧ b.to < n ∧ (repS l (selF (wrS off by_) l.length) i = false → p b.to.toNat = q b.to.toNat) ∧ (repS l (selF (wrS off by_) l.length) i = true → (selF (wrS off by_) l.length).length = 1 → p b.to.toNat ≠ q b.to.toNat) := by
  have ho := (ok_parts (vld_at hv hb)).2.2.2
  have h0 : 0 ≤ b.to := by omega
  have hn : b.to < n := ho.2.1
  obtain ⟨_, hw⟩ := way_spec hv h0 hn
  have hlt : ∀ k, k < wayK l b.to → 0 ≤ stF l (itL l b.to k) ∧ (stF l (itL l b.to k)).toNat < l.length := fun k hk => by
    have := all_set hv (hw k hk).1 (hw k hk).2
    have := stF_lt l (itL l b.to k)
    omega
  refine ⟨h0, hn, fun hr => ?_, fun hr h1 => ?_⟩
  · unfold repS hitB hitK at hr
    rw [getD_of hb, List.any_eq_false] at hr
    have := same_down hv hp hq h0 hn (wayK l b.to) (Nat.le_refl _) (fun k _ hk => by
      have h2 := hr k (by simp [hk])
      rw [bad_sel off by_ (hlt k hk).2] at h2
      exact wr_false (by simpa using h2))
    rw [Nat.sub_self] at this
    exact this
  · unfold repS hitB hitK at hr
    rw [getD_of hb, List.any_eq_true] at hr
    obtain ⟨k0, hk0, hbad⟩ := hr
    have hk0 : k0 < wayK l b.to := by simpa using hk0
    rw [bad_sel off by_ (hlt k0 hk0).2] at hbad
    have uniq : ∀ k, k < wayK l b.to → k ≠ k0 → off (stF l (itL l b.to k)).toNat = by_ (stF l (itL l b.to k)).toNat := by
      intro k hk hne
      refine wr_false ?_
      cases hw2 : wrS off by_ (stF l (itL l b.to k)).toNat with
      | false => rfl
      | true =>
        exfalso
        have m1 := (sel_mem (wrS off by_) l.length _).2 ⟨_, (hlt k hk).2, hw2, rfl⟩
        have m2 := (sel_mem (wrS off by_) l.length _).2 ⟨_, (hlt k0 hk0).2, hbad, rfl⟩
        obtain ⟨z, hz⟩ := List.length_eq_one_iff.1 h1
        rw [hz, List.mem_singleton] at m1 m2
        have e1 := (hlt k hk).1
        have e2 := (hlt k0 hk0).1
        rcases Nat.lt_or_gt_of_ne hne with h | h
        · have := way_down hv h0 hn h hk0
          omega
        · have := way_down hv h0 hn h hk
          omega
    have s1 := same_down hv hp hq h0 hn (wayK l b.to - (k0 + 1)) (by omega) (fun k h2 h3 => uniq k h3 (by omega))
    rw [show wayK l b.to - (wayK l b.to - (k0 + 1)) = k0 + 1 by omega] at s1
    have s2 := (step_same hv hp hq h0 hn hk0).2 (wr_true hbad) s1
    have s3 := diff_down hv hp hq h0 hn hk0 s2 (fun k hk => uniq k (by omega) (by omega)) k0 (Nat.le_refl _)
    rw [Nat.sub_self] at s3
    exact s3
end
end Go.Proofs.Ytkgklmmkkhbimaa
