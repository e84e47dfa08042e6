/- Rational: Simple. -/
import Derived.Test.YtmjbcoapceoakaaDoorRatG
import Derived.Test.YtmjbcoapceoakaaDoorRange
namespace Go.Proofs.YtmjbcoapceoakaaDoor
open Go.RowKit

def smG (aN aD bN bD : Int) : Bool := vR aN aD && (vR bN bD && decide (aN * bD ≤ bN * aD))
/-- s is the simplest number from a to b. -/
def Simp (aN aD bN bD sN sD : Int) : Prop := vR sN sD = true ∧ aN * sD ≤ sN * aD ∧ sN * bD ≤ bN * sD ∧ ∀ x y : Int, 0 < y → aN * y ≤ x * aD → x * bD ≤ bN * y → sD ≤ y ∧ sN.natAbs ≤ x.natAbs
/-- What Simple leaves. -/
def SimP (aN aD bN bD : Int) (w : World) (e : Ending) (w' : World) : Prop := Below w.heap.size w w' ∧
  ((smG aN aD bN bD = false ∧ e = .returned (.tuple #[.agg #[.int .i64 0, .int .i64 0], .int .i64 1])) ∨
    (smG aN aD bN bD = true ∧ ∃ sN sD : Int, e = .returned (.tuple #[.agg #[.int .i64 sN, .int .i64 sD], .int .i64 0]) ∧ Simp aN aD bN bD sN sD))

/-- The least one is in lowest terms. -/
theorem least_gcd {aN aD bN bD sN sD : Int} (h : Least aN aD bN bD sN sD) : Nat.gcd (absF sN) (absF sD) = 1 := by
  show Int.gcd sN sD = 1
  obtain ⟨h1, h2, h3, h4, h5⟩ := h
  have hg0 : 0 < Int.gcd sN sD := Int.gcd_pos_of_ne_zero_left _ (by omega)
  obtain ⟨u, hu⟩ := Int.gcd_dvd_left (a := sN) (b := sD)
  obtain ⟨v, hv⟩ := Int.gcd_dvd_right (a := sN) (b := sD)
  generalize Int.gcd sN sD = g at *
  have hg : (0 : Int) < g := by omega
  have hv0 : 0 < v := by
    rcases Int.lt_or_le 0 v with h | h
    · exact h
    · have := Int.mul_nonneg (show 0 ≤ -v by omega) (Int.le_of_lt hg)
      rw [Int.neg_mul, Int.mul_comm] at this
      omega
  have q1 : aN * v ≤ u * aD := mul_le_of hg (by
    have e1 : aN * v * g = aN * sD := by rw [hv]; grind
    have e2 : u * aD * g = sN * aD := by rw [hu]; grind
    rw [e1, e2]
    exact h3)
  have q2 : u * bD ≤ bN * v := mul_le_of hg (by
    have e1 : u * bD * g = sN * bD := by rw [hu]; grind
    have e2 : bN * v * g = bN * sD := by rw [hv]; grind
    rw [e1, e2]
    exact h4)
  have := (h5 u v hv0 q1 q2).2
  have h6 : (g : Int) * v ≤ 1 * v := by omega
  have := mul_le_of hv0 h6
  omega
theorem blkNew' (w : World) (t : TypeId) (cs : Array Value) (g : Nat) (h : g = w.heap.size) : Blk (w.alloc (.cells cs t)) g t cs := by
  subst h
  exact Blk.new _ _ _
theorem simp_pos {aN aD bN bD sN sD : Int} (a1 : 0 < aN) (a2 : aN ≤ 1000000000) (a3 : 0 < aD) (a4 : aD ≤ 1000000000) (hab : aN * bD ≤ bN * aD) (h : Least aN aD bN bD sN sD) : Simp aN aD bN bD sN sD := by
  have hg := least_gcd h
  obtain ⟨h1, h2, h3, h4, h5⟩ := h
  obtain ⟨t1, t2⟩ := h5 aN aD a3 (Int.le_refl _) hab
  refine ⟨v_mk ⟨by omega, hg⟩ (by omega) (by unfold absF; omega), h3, h4, fun x y hy p1 p2 => ?_⟩
  obtain ⟨q1, q2⟩ := h5 x y hy p1 p2
  exact ⟨q2, by omega⟩
theorem simp_neg {aN aD bN bD sN sD : Int} (b1 : bN < 0) (b2 : -1000000000 ≤ bN) (b3 : 0 < bD) (b4 : bD ≤ 1000000000) (hab : aN * bD ≤ bN * aD) (h : Least (-bN) bD (-aN) aD sN sD) : Simp aN aD bN bD (-sN) sD := by
  have hg := least_gcd h
  obtain ⟨h1, h2, h3, h4, h5⟩ := h
  obtain ⟨t1, t2⟩ := h5 (-bN) bD b3 (Int.le_refl _) (by rw [Int.neg_mul, Int.neg_mul]; omega)
  rw [Int.neg_mul] at h3 h4
  refine ⟨v_mk ⟨by omega, by unfold absF at hg ⊢; rw [Int.natAbs_neg]; exact hg⟩ (by omega) (by unfold absF; omega), by rw [Int.neg_mul]; omega, by rw [Int.neg_mul]; omega, fun x y hy p1 p2 => ?_⟩
  obtain ⟨q1, q2⟩ := h5 (-x) y hy (by rw [Int.neg_mul, Int.neg_mul]; omega) (by rw [Int.neg_mul, Int.neg_mul]; omega)
  exact ⟨q2, by omega⟩
theorem simp_zero {aN aD bN bD : Int} (a1 : aN ≤ 0) (b1 : 0 ≤ bN) : Simp aN aD bN bD 0 1 :=
  ⟨by decide, by omega, by omega, fun x y hy _ _ => ⟨by omega, by omega⟩⟩

theorem simple1_panic (r e : Nat) (n : Int) (older : List PanicEntry) (w : World) (a b c : Value) (h1 : w.cell? ⟨r, 0, none⟩ = some a) (h2 : w.cell? ⟨r, 1, none⟩ = some b) (h3 : w.cell? ⟨e, 0, none⟩ = some c)
    (f1 : w.frozen? ⟨r, 0, none⟩ = false) (f2 : w.frozen? ⟨r, 1, none⟩ = false) (f3 : w.frozen? ⟨e, 0, none⟩ = false) (hne : r < e) :
    CallsD Tryd.prog 47 #[.pointer (some ⟨r, 0, none⟩), .pointer (some ⟨e, 0, none⟩)] (.panicking ({ v := .iface 26 (.int .i64 n), recovered := false } :: older)) w fun en u' w' =>
      en = .returned (.tuple #[]) ∧ u' = .panicking ({ v := .iface 26 (.int .i64 n), recovered := true } :: older) ∧ w' = ((w.setCell ⟨r, 0, none⟩ (.int .i64 0)).setCell ⟨r, 1, none⟩ (.int .i64 0)).setCell ⟨e, 0, none⟩ (.int .i64 n) := by
  have C := caught_some r e n w a b c h1 h2 h3 f1 f2 f3 hne
  refine callsD_of_wpS Tryd.func47 rfl fun c₀ cs hu => ?_
  apply wpS_region
  simp [wpOpsS, go_sem, recoverD, hu, Tryd.ntmps47]
  refine C.mono ?_
  rintro en w' ⟨rfl, rfl⟩
  simp [bodyPostS, results, Tryd.results47]

theorem simple1_idle (r e : Nat) (w : World) :
    CallsD Tryd.prog 47 #[.pointer (some ⟨r, 0, none⟩), .pointer (some ⟨e, 0, none⟩)] .returning w fun en u' w' => en = .returned (.tuple #[]) ∧ u' = .returning ∧ w' = w := by
  have C := caught_nil r e w
  refine callsD_of_wpS Tryd.func47 rfl fun c₀ cs hu => ?_
  apply wpS_region
  simp [wpOpsS, go_sem, recoverD, hu, Tryd.ntmps47]
  refine C.mono ?_
  rintro en w' ⟨rfl, rfl⟩
  cases c₀
  simp_all [bodyPostS, results, Tryd.results47]


set_option maxRecDepth 100000 in
set_option maxHeartbeats 2000000 in
theorem Simple_c (aN aD bN bD : Int) (w : World) : Calls Tryd.prog 17 #[.agg #[.int .i64 aN, .int .i64 aD], .agg #[.int .i64 bN, .int .i64 bD]] w (SimP aN aD bN bD w) := by
  have hmf := hmkf
  have hways : (∃ u v : Int, (∀ w, Calls Tryd.prog 18 #[.agg #[.int .i64 aN, .int .i64 aD], .agg #[.int .i64 bN, .int .i64 bD]] w (Ret (.tuple #[.int .i64 u, .int .i64 v]) w)) ∧ smG aN aD bN bD = false ∧ (v = 1 ∨ (v = 0 ∧ 0 < u))) ∨
      (∃ u : Int, (∀ w, Calls Tryd.prog 18 #[.agg #[.int .i64 aN, .int .i64 aD], .agg #[.int .i64 bN, .int .i64 bD]] w (Ret (.tuple #[.int .i64 u, .int .i64 0]) w)) ∧ smG aN aD bN bD = true ∧ u ≤ 0 ∧ vR aN aD = true ∧ vR bN bD = true ∧ aN * bD ≤ bN * aD) := by
    have HC := fun w => Cmp_c aN aD bN bD w
    cases h : (vR aN aD && vR bN bD)
    · rw [cmp_bad h] at HC
      refine Or.inl ⟨0, 1, HC, ?_, Or.inl rfl⟩
      unfold smG
      rw [← Bool.and_assoc, h]
      rfl
    · rw [cmp_good h] at HC
      have h' : vR aN aD = true ∧ vR bN bD = true := by simpa using h
      obtain ⟨h1, h2⟩ := h'
      rcases sg_ways (aN * bD - bN * aD) with ⟨g, hs⟩ | ⟨g, hs⟩ | ⟨g, hs⟩
      · exact Or.inr ⟨_, HC, by unfold smG; rw [h1, h2, decide_eq_true (by omega)]; rfl, by omega, h1, h2, by omega⟩
      · exact Or.inl ⟨_, _, HC, by unfold smG; rw [h1, h2, decide_eq_false (by omega)]; rfl, Or.inr ⟨rfl, by omega⟩⟩
      · exact Or.inr ⟨_, HC, by unfold smG; rw [h1, h2, decide_eq_true (by omega)]; rfl, by omega, h1, h2, by omega⟩
  rcases hways with ⟨u, v, hC, hg, hv⟩ | ⟨u, hC, hg, hu, ha, hb, hab⟩
  · have HC := Lib.hid hC
    have HG := Lib.hid hg
    clear hC hg
    rcases hv with rfl | ⟨rfl, hu⟩
    all_goals
      go_enter_defers Tryd.func17, Tryd.ntmps17
      go_wp2_with (first | (go_at_call 18; ((with_reducible refine (HC.out _).mono ?_); rintro e w' ⟨rfl, hb⟩; obtain ⟨hz, hc, hf⟩ := bcl hb (by first | (simp; rfl) | rfl))) | (go_at_call 45; refine (fail_c _ _).mono ?_; rintro e w' ⟨rfl, hb⟩; obtain ⟨hz, hc, hf⟩ := bcl hb (by first | (simp; rfl) | rfl)))
      refine leaves_cons (f := 47) (args := #[.pointer (some ⟨w.heap.size + 1 + 1, 0, none⟩), .pointer (some ⟨w.heap.size + 1 + 1 + 1, 0, none⟩)]) (by simp) (by simp [go_sem]) ?_
      refine (simple1_panic (w.heap.size + 1 + 1) (w.heap.size + 1 + 1 + 1) 1 [] _ (.int .i64 0) (.int .i64 0) (.int .i64 0) ?_ ?_ ?_ ?_ ?_ ?_ (by omega)).mono ?_
      · go_simp
      · go_simp
      · go_simp
      · go_simp
      · go_simp
      · go_simp
      rintro e u' w'' ⟨rfl, rfl, rfl⟩
      refine ⟨.tuple #[.agg #[.int .i64 0, .int .i64 0], .int .i64 1], ?_, ?_⟩
      · simp only [results, Tryd.results17]
        go_simp
      · refine ⟨?_, Or.inl ⟨HG.out, rfl⟩⟩
        (repeat (first | (with_reducible exact bl_refl _) | (with_reducible refine bl_drew ?_) | (with_reducible refine bl_alloc ?_ _) | (with_reducible refine bl_set' ?_ ?_; · (first | omega | (simp; done) | (simp; omega))) | (with_reducible refine bl_last (by assumption) ?_) | (with_reducible refine bl_drewN ?_ _)))
  have HC := Lib.hid hC
  have HG := Lib.hid hg
  obtain ⟨a1, a2, a3, a4⟩ := rg_of ha
  obtain ⟨b1, b2, b3, b4⟩ := rg_of hb
  clear hC hg ha hb
  by_cases ha0 : 0 < aN
  · have hb0 : 0 < bN := by
      rcases Int.lt_or_le 0 bN with h | h
      · exact h
      · have p1 := Int.mul_pos ha0 (show 0 < bD by omega)
        have p2 := Int.mul_nonneg (show 0 ≤ -bN by omega) (show 0 ≤ aD by omega)
        rw [Int.neg_mul] at p2
        omega
    have HB := Lib.hid (fun w => between_c (aD + bD).toNat aN aD bN bD w (by omega) ha0 a2 (by omega) a4 hb0 b2 (by omega) b4 hab)
    have HS := Lib.hid (fun sN sD h => simp_pos (sN := sN) (sD := sD) ha0 a2 (by omega) a4 hab h)
    clear hab
    go_enter_defers Tryd.func17, Tryd.ntmps17
    go_wp2_with (go_at_call 18; ((with_reducible refine (HC.out _).mono ?_); rintro e w' ⟨rfl, hb⟩; obtain ⟨hz, hc, hf⟩ := bcl hb (by first | (simp; rfl) | rfl)))
    refine (HB.out _).mono ?_
    rintro e w2 ⟨hb2, sN, sD, rfl, hL⟩
    obtain ⟨hz2, hc2, hf2⟩ := bcl hb2 (by first | (simp; rfl) | rfl)
    have HSS := Lib.hid (HS.out sN sD hL)
    clear hL
    go_wp2
    refine leaves_cons (f := 47) (args := #[.pointer (some ⟨w.heap.size + 1 + 1, 0, none⟩), .pointer (some ⟨w.heap.size + 1 + 1 + 1, 0, none⟩)]) (by simp) (by simp [go_sem]) ?_
    refine (simple1_idle (w.heap.size + 1 + 1) (w.heap.size + 1 + 1 + 1) _).mono ?_
    rintro e u' w'' ⟨rfl, rfl, rfl⟩
    refine ⟨.tuple #[.agg #[.int .i64 sN, .int .i64 sD], .int .i64 0], ?_, ?_⟩
    · simp only [results, Tryd.results17]
      go_simp
    · refine ⟨?_, Or.inr ⟨HG.out, sN, sD, rfl, HSS.out⟩⟩
      (repeat (first | (with_reducible exact bl_refl _) | (with_reducible refine bl_drew ?_) | (with_reducible refine bl_alloc ?_ _) | (with_reducible refine bl_set' ?_ ?_; · (first | omega | (simp; done) | (simp; omega))) | (with_reducible refine bl_last (by assumption) ?_) | (with_reducible refine bl_drewN ?_ _)))
  by_cases hb0 : bN < 0
  · have ha1 : aN < 0 := by
      rcases Int.lt_or_le aN 0 with h | h
      · exact h
      · have p1 := Int.mul_nonneg h (show 0 ≤ bD by omega)
        have p2 := Int.mul_pos (show 0 < -bN by omega) (show 0 < aD by omega)
        rw [Int.neg_mul] at p2
        omega
    have HB := Lib.hid (fun w => between_c (bD + aD).toNat (-bN) bD (-aN) aD w (by omega) (by omega) (by omega) (by omega) b4 (by omega) (by omega) (by omega) a4 (by rw [Int.neg_mul, Int.neg_mul]; omega))
    have HS := Lib.hid (fun sN sD h => simp_neg (sN := sN) (sD := sD) hb0 b1 (by omega) b4 hab h)
    have HBd := Lib.hid (fun sN sD (h : Least (-bN) bD (-aN) aD sN sD) => (h.2.2.2.2 (-bN) bD (by omega) (Int.le_refl _) (by rw [Int.neg_mul, Int.neg_mul]; omega)).1)
    clear hab
    go_enter_defers Tryd.func17, Tryd.ntmps17
    go_wp2_with (go_at_call 18; ((with_reducible refine (HC.out _).mono ?_); rintro e w' ⟨rfl, hb⟩; obtain ⟨hz, hc, hf⟩ := bcl hb (by first | (simp; rfl) | rfl)))
    refine (HB.out _).mono ?_
    rintro e w2 ⟨hb2, sN, sD, rfl, hL⟩
    obtain ⟨hz2, hc2, hf2⟩ := bcl hb2 (by first | (simp; rfl) | rfl)
    have HSS := Lib.hid (HS.out sN sD hL)
    have hs0 := hL.1
    have hs1 := HBd.out sN sD hL
    clear hL
    go_wp2
    refine leaves_cons (f := 47) (args := #[.pointer (some ⟨w.heap.size + 1 + 1, 0, none⟩), .pointer (some ⟨w.heap.size + 1 + 1 + 1, 0, none⟩)]) (by simp) (by simp [go_sem]) ?_
    refine (simple1_idle (w.heap.size + 1 + 1) (w.heap.size + 1 + 1 + 1) _).mono ?_
    rintro e u' w'' ⟨rfl, rfl, hw⟩
    have hBr : Blk w2 (w.heap.size + 1 + 1) 25 #[.int .i64 0, .int .i64 0] := (((blkNew' _ _ _ _ (by simp)).alloc _).below hb (by simp)).below hb2 (by omega)
    have hBe : Blk w2 (w.heap.size + 1 + 1 + 1) 26 #[.int .i64 0] := ((blkNew' _ _ _ _ (by simp)).below hb (by simp)).below hb2 (by omega)
    have hBR := ((((hBr.set_ 0 (.int .i64 sN)).set_ 1 (.int .i64 sD)).set_ 0 (.int .i64 (-sN))).set_ 1 (.int .i64 sD)).far (p := ⟨w.heap.size + 1 + 1 + 1, 0, none⟩) (by show _ ≠ w.heap.size + 1 + 1 + 1; omega) (.int .i64 0)
    have hBE := ((((hBe.far (p := ⟨w.heap.size + 1 + 1, 0, none⟩) (by show _ ≠ w.heap.size + 1 + 1; omega) (.int .i64 sN)).far (p := ⟨w.heap.size + 1 + 1, 1, none⟩) (by show _ ≠ w.heap.size + 1 + 1; omega) (.int .i64 sD)).far (p := ⟨w.heap.size + 1 + 1, 0, none⟩) (by show _ ≠ w.heap.size + 1 + 1; omega) (.int .i64 (-sN))).far (p := ⟨w.heap.size + 1 + 1, 1, none⟩) (by show _ ≠ w.heap.size + 1 + 1; omega) (.int .i64 sD)).set_ 0 (.int .i64 0)
    have d0 := hBR.cell 0
    have d1 := hBR.cell 1
    have d2 := hBE.cell 0
    rw [← hw] at d0 d1 d2
    simp at d0 d1 d2
    have HW := Lib.hid hw
    clear hw hBR hBE hBr hBe
    refine ⟨.tuple #[.agg #[.int .i64 (-sN), .int .i64 sD], .int .i64 0], ?_, ?_⟩
    · simp only [results, Tryd.results17]
      go_simp
    · refine ⟨?_, Or.inr ⟨HG.out, -sN, sD, rfl, HSS.out⟩⟩
      rw [HW.out]
      (repeat (first | (with_reducible exact bl_refl _) | (with_reducible refine bl_drew ?_) | (with_reducible refine bl_alloc ?_ _) | (with_reducible refine bl_set' ?_ ?_; · (first | omega | (simp; done) | (simp; omega))) | (with_reducible refine bl_last (by assumption) ?_) | (with_reducible refine bl_drewN ?_ _)))
  · have HSS := Lib.hid (simp_zero (aN := aN) (aD := aD) (bN := bN) (bD := bD) (by omega) (by omega))
    clear hab
    go_enter_defers Tryd.func17, Tryd.ntmps17
    go_wp2_with (go_at_call 18; ((with_reducible refine (HC.out _).mono ?_); rintro e w' ⟨rfl, hb⟩; obtain ⟨hz, hc, hf⟩ := bcl hb (by first | (simp; rfl) | rfl)))
    refine leaves_cons (f := 47) (args := #[.pointer (some ⟨w.heap.size + 1 + 1, 0, none⟩), .pointer (some ⟨w.heap.size + 1 + 1 + 1, 0, none⟩)]) (by simp) (by simp [go_sem]) ?_
    refine (simple1_idle (w.heap.size + 1 + 1) (w.heap.size + 1 + 1 + 1) _).mono ?_
    rintro e u' w'' ⟨rfl, rfl, rfl⟩
    refine ⟨.tuple #[.agg #[.int .i64 0, .int .i64 1], .int .i64 0], ?_, ?_⟩
    · simp only [results, Tryd.results17]
      go_simp
    · refine ⟨?_, Or.inr ⟨HG.out, 0, 1, rfl, HSS.out⟩⟩
      (repeat (first | (with_reducible exact bl_refl _) | (with_reducible refine bl_drew ?_) | (with_reducible refine bl_alloc ?_ _) | (with_reducible refine bl_set' ?_ ?_; · (first | omega | (simp; done) | (simp; omega))) | (with_reducible refine bl_last (by assumption) ?_) | (with_reducible refine bl_drewN ?_ _)))
end Go.Proofs.YtmjbcoapceoakaaDoor
