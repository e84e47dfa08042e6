/- Horns: Valid. -/
import Derived.Test.YtehifkdfbiebfaaDoorK22
import Derived.Test.YtehifkdfbiebfaaDoorK23
import Derived.Deep.CutRange
namespace Go.Proofs.YtehifkdfbiebfaaDoor
open Go Go.RowKit

/-- Whether a valve lowers. -/
def vlOk (g : Nat → Nat → Int) (k : Nat) : Bool := decide (pcE (g k 0) (g k 1) (g k 2) (g k 3) (g k 4) (g k 5) 0 0 0 0 0 0 = 0) && decide (0 < pcN (g k 0) (g k 1) (g k 2) (g k 3) (g k 4) (g k 5) 0 0 0 0 0 0)
def hvG (b0 b1 b2 b3 b4 b5 : Int) (n : Nat) (mo tl : Int) : Bool := pV b0 b1 b2 b3 b4 b5 576 && (decide (n ≤ 4) && (decide (1 ≤ mo) && (decide (mo ≤ 16) && (decide (0 ≤ tl) && decide (tl ≤ 50000)))))
/-- Whether a horn is valid. -/
def hvV (b0 b1 b2 b3 b4 b5 : Int) (n : Nat) (g : Nat → Nat → Int) (mo tl : Int) : Bool := hvG b0 b1 b2 b3 b4 b5 n mo tl && (List.range n).all (vlOk g)
theorem hv_ways (b0 b1 b2 b3 b4 b5 : Int) (n : Nat) (mo tl : Int) :
    (pV b0 b1 b2 b3 b4 b5 576 = false ∧ hvG b0 b1 b2 b3 b4 b5 n mo tl = false) ∨ (pV b0 b1 b2 b3 b4 b5 576 = true ∧ 4 < n ∧ hvG b0 b1 b2 b3 b4 b5 n mo tl = false) ∨
    (pV b0 b1 b2 b3 b4 b5 576 = true ∧ n ≤ 4 ∧ mo < 1 ∧ hvG b0 b1 b2 b3 b4 b5 n mo tl = false) ∨ (pV b0 b1 b2 b3 b4 b5 576 = true ∧ n ≤ 4 ∧ 1 ≤ mo ∧ 16 < mo ∧ hvG b0 b1 b2 b3 b4 b5 n mo tl = false) ∨
    (pV b0 b1 b2 b3 b4 b5 576 = true ∧ n ≤ 4 ∧ 1 ≤ mo ∧ mo ≤ 16 ∧ tl < 0 ∧ hvG b0 b1 b2 b3 b4 b5 n mo tl = false) ∨ (pV b0 b1 b2 b3 b4 b5 576 = true ∧ n ≤ 4 ∧ 1 ≤ mo ∧ mo ≤ 16 ∧ 0 ≤ tl ∧ 50000 < tl ∧ hvG b0 b1 b2 b3 b4 b5 n mo tl = false) ∨
    (pV b0 b1 b2 b3 b4 b5 576 = true ∧ n ≤ 4 ∧ 1 ≤ mo ∧ mo ≤ 16 ∧ 0 ≤ tl ∧ tl ≤ 50000 ∧ hvG b0 b1 b2 b3 b4 b5 n mo tl = true) := by
  unfold hvG
  cases pV b0 b1 b2 b3 b4 b5 576
  · simp
  by_cases h1 : n ≤ 4
  · by_cases h2 : 1 ≤ mo
    · by_cases h3 : mo ≤ 16
      · by_cases h4 : 0 ≤ tl
        · by_cases h5 : tl ≤ 50000
          · simp [h1, h2, h3, h4, h5]
          · have : 50000 < tl := by omega
            simp [h1, h2, h3, h4, h5, this]
        · have : tl < 0 := by omega
          simp [h1, h2, h3, h4, this]
      · have : 16 < mo := by omega
        simp [h1, h2, h3, this]
    · have : mo < 1 := by omega
      simp [h1, h2, this]
  · have : 4 < n := by omega
    simp [h1, this]
theorem hvG_of {b0 b1 b2 b3 b4 b5 : Int} {n : Nat} {mo tl : Int} (h : hvG b0 b1 b2 b3 b4 b5 n mo tl = true) : pV b0 b1 b2 b3 b4 b5 576 = true ∧ n ≤ 4 ∧ 1 ≤ mo ∧ mo ≤ 16 ∧ 0 ≤ tl ∧ tl ≤ 50000 := by
  simpa [hvG] using h
theorem all_range {p : Nat → Bool} {n : Nat} : (List.range n).all p = true ↔ ∀ k, k < n → p k = true := by simp

set_option maxRecDepth 100000 in
set_option maxHeartbeats 8000000 in
theorem BValid_c (b0 b1 b2 b3 b4 b5 : Int) (A : Option Addr) (n cap : Nat) (g : Nat → Nat → Int) (mo tl : Int) (w : World) (hv : VecsR w w.heap.size A n g) (hP : PR w) (hn : n ≤ 9223372036854775807) :
    Calls Tryd.prog 77 #[.agg #[.int .i64 b0, .int .i64 b1, .int .i64 b2, .int .i64 b3, .int .i64 b4, .int .i64 b5, .slice A n cap, .int .i64 mo, .int .i64 tl]] w (Ret (.bool (hvV b0 b1 b2 b3 b4 b5 n g mo tl)) w) := by
  have HV := Lib.hid hv
  have HP := Lib.hid hP
  have hVd := fun w => PVld_c b0 b1 b2 b3 b4 b5 w
  clear hv hP
  unfold hvV
  rcases hv_ways b0 b1 b2 b3 b4 b5 n mo tl with ⟨h0, hg⟩ | ⟨h0, h1, hg⟩ | ⟨h0, h1, h2, hg⟩ | ⟨h0, h1, h2, h3, hg⟩ | ⟨h0, h1, h2, h3, h4, hg⟩ | ⟨h0, h1, h2, h3, h4, h5, hg⟩ | ⟨h0, h1, h2, h3, h4, h5, hg⟩
  · rw [hg, Bool.false_and]
    rw [h0] at hVd
    have HVd := Lib.hid hVd
    clear hg h0 hVd
    go_enter Tryd.func77, Tryd.ntmps77
    go_wp2_with (go_at_call 80; ((with_reducible refine (HVd.out _).mono ?_); rintro e w' ⟨rfl, hb⟩; obtain ⟨hz, hc, hf⟩ := bcl hb (by first | (simp; rfl) | rfl)))
    go_ret
    exact ⟨rfl, by (repeat (first | (with_reducible exact bl_refl _) | (with_reducible refine bl_drew ?_) | (with_reducible refine bl_alloc ?_ _) | (with_reducible refine bl_set' ?_ ?_; · (first | omega | (simp; done) | (simp; omega))) | (with_reducible refine bl_last (by assumption) ?_) | (with_reducible refine bl_drewN ?_ _)))⟩
  -- walks
  · rw [hg, Bool.false_and]
    rw [h0] at hVd
    have HVd := Lib.hid hVd
    have q1 : decide ((4 : Int) < (n : Int)) = true := decide_eq_true (by omega)
    clear hg h0 hVd h1
    go_enter Tryd.func77, Tryd.ntmps77
    go_wp2_with (go_at_call 80; ((with_reducible refine (HVd.out _).mono ?_); rintro e w' ⟨rfl, hb⟩; obtain ⟨hz, hc, hf⟩ := bcl hb (by first | (simp; rfl) | rfl)))
    go_ret
    exact ⟨rfl, by (repeat (first | (with_reducible exact bl_refl _) | (with_reducible refine bl_drew ?_) | (with_reducible refine bl_alloc ?_ _) | (with_reducible refine bl_set' ?_ ?_; · (first | omega | (simp; done) | (simp; omega))) | (with_reducible refine bl_last (by assumption) ?_) | (with_reducible refine bl_drewN ?_ _)))⟩
  · rw [hg, Bool.false_and]
    rw [h0] at hVd
    have HVd := Lib.hid hVd
    have q1 : decide ((4 : Int) < (n : Int)) = false := decide_eq_false (by omega)
    have q2 : decide (mo < 1) = true := decide_eq_true (by omega)
    clear hg h0 hVd h1 h2
    go_enter Tryd.func77, Tryd.ntmps77
    go_wp2_with (go_at_call 80; ((with_reducible refine (HVd.out _).mono ?_); rintro e w' ⟨rfl, hb⟩; obtain ⟨hz, hc, hf⟩ := bcl hb (by first | (simp; rfl) | rfl)))
    go_ret
    exact ⟨rfl, by (repeat (first | (with_reducible exact bl_refl _) | (with_reducible refine bl_drew ?_) | (with_reducible refine bl_alloc ?_ _) | (with_reducible refine bl_set' ?_ ?_; · (first | omega | (simp; done) | (simp; omega))) | (with_reducible refine bl_last (by assumption) ?_) | (with_reducible refine bl_drewN ?_ _)))⟩
  · rw [hg, Bool.false_and]
    rw [h0] at hVd
    have HVd := Lib.hid hVd
    have q1 : decide ((4 : Int) < (n : Int)) = false := decide_eq_false (by omega)
    have q2 : decide (mo < 1) = false := decide_eq_false (by omega)
    have q3 : decide (16 < mo) = true := decide_eq_true (by omega)
    clear hg h0 hVd h1 h2 h3
    go_enter Tryd.func77, Tryd.ntmps77
    go_wp2_with (go_at_call 80; ((with_reducible refine (HVd.out _).mono ?_); rintro e w' ⟨rfl, hb⟩; obtain ⟨hz, hc, hf⟩ := bcl hb (by first | (simp; rfl) | rfl)))
    go_ret
    exact ⟨rfl, by (repeat (first | (with_reducible exact bl_refl _) | (with_reducible refine bl_drew ?_) | (with_reducible refine bl_alloc ?_ _) | (with_reducible refine bl_set' ?_ ?_; · (first | omega | (simp; done) | (simp; omega))) | (with_reducible refine bl_last (by assumption) ?_) | (with_reducible refine bl_drewN ?_ _)))⟩
  · rw [hg, Bool.false_and]
    rw [h0] at hVd
    have HVd := Lib.hid hVd
    have q1 : decide ((4 : Int) < (n : Int)) = false := decide_eq_false (by omega)
    have q2 : decide (mo < 1) = false := decide_eq_false (by omega)
    have q3 : decide (16 < mo) = false := decide_eq_false (by omega)
    have q4 : decide (tl < 0) = true := decide_eq_true (by omega)
    clear hg h0 hVd h1 h2 h3 h4
    go_enter Tryd.func77, Tryd.ntmps77
    go_wp2_with (go_at_call 80; ((with_reducible refine (HVd.out _).mono ?_); rintro e w' ⟨rfl, hb⟩; obtain ⟨hz, hc, hf⟩ := bcl hb (by first | (simp; rfl) | rfl)))
    go_ret
    exact ⟨rfl, by (repeat (first | (with_reducible exact bl_refl _) | (with_reducible refine bl_drew ?_) | (with_reducible refine bl_alloc ?_ _) | (with_reducible refine bl_set' ?_ ?_; · (first | omega | (simp; done) | (simp; omega))) | (with_reducible refine bl_last (by assumption) ?_) | (with_reducible refine bl_drewN ?_ _)))⟩
  · rw [hg, Bool.false_and]
    rw [h0] at hVd
    have HVd := Lib.hid hVd
    have q1 : decide ((4 : Int) < (n : Int)) = false := decide_eq_false (by omega)
    have q2 : decide (mo < 1) = false := decide_eq_false (by omega)
    have q3 : decide (16 < mo) = false := decide_eq_false (by omega)
    have q4 : decide (tl < 0) = false := decide_eq_false (by omega)
    have q5 : decide (50000 < tl) = true := decide_eq_true (by omega)
    clear hg h0 hVd h1 h2 h3 h4 h5
    go_enter Tryd.func77, Tryd.ntmps77
    go_wp2_with (go_at_call 80; ((with_reducible refine (HVd.out _).mono ?_); rintro e w' ⟨rfl, hb⟩; obtain ⟨hz, hc, hf⟩ := bcl hb (by first | (simp; rfl) | rfl)))
    go_ret
    exact ⟨rfl, by (repeat (first | (with_reducible exact bl_refl _) | (with_reducible refine bl_drew ?_) | (with_reducible refine bl_alloc ?_ _) | (with_reducible refine bl_set' ?_ ?_; · (first | omega | (simp; done) | (simp; omega))) | (with_reducible refine bl_last (by assumption) ?_) | (with_reducible refine bl_drewN ?_ _)))⟩
  · rw [hg, Bool.true_and]
    rw [h0] at hVd
    have HVd := Lib.hid hVd
    have q1 : decide ((4 : Int) < (n : Int)) = false := decide_eq_false (by omega)
    have q2 : decide (mo < 1) = false := decide_eq_false (by omega)
    have q3 : decide (16 < mo) = false := decide_eq_false (by omega)
    have q4 : decide (tl < 0) = false := decide_eq_false (by omega)
    have q5 : decide (50000 < tl) = false := decide_eq_false (by omega)
    clear hg h0 hVd h2 h3 h4 h5
    go_enter Tryd.func77, Tryd.ntmps77
    go_upto_region 3 with (go_at_call 80; ((with_reducible refine (HVd.out _).mono ?_); rintro e w' ⟨rfl, hb⟩; obtain ⟨hz, hc, hf⟩ := bcl hb (by first | (simp; rfl) | rfl)))
    have hB0 : Below w.heap.size w w' := by
      refine bl_last (by assumption) ?_
      (repeat (first | (with_reducible exact bl_refl _) | (with_reducible refine bl_drew ?_) | (with_reducible refine bl_alloc ?_ _) | (with_reducible refine bl_set' ?_ ?_; · (first | omega | (simp; done) | (simp; omega))) | (with_reducible refine bl_last (by assumption) ?_) | (with_reducible refine bl_drewN ?_ _)))
    have HB0 := Lib.hid hB0
    clear hB0 q1 q2 q3 q4 q5
    go_wp2
    go_loopw [40] (fun i wr => ∃ k : Nat, k ≤ n ∧ i = .int .i64 (k : Int) ∧ Hid (∀ j, j < k → vlOk g j = true) ∧ Hid (Below w.heap.size w wr)) (fun i _ => n - (intOf i).toNat)
    case atStart => exact ⟨0, Nat.zero_le _, rfl, Lib.hid (fun j hj => absurd hj (by omega)), HB0⟩
    case round =>
      clear hb hz hc hf
      obtain ⟨k, hk, rfl, HI, HB⟩ := hrel
      by_cases hlt : k < n
      · obtain ⟨bv, ov, rfl, hbv, g0, g1, g2, g3, g4, g5⟩ := VecsR.cells (HV.out.below HB.out) hlt
        have zv : bv < wr.heap.size := by have := HB.out.size; omega
        have hki : (k : Int) < (n : Int) := by omega
        have wk : IntKind.i64.wrap ((k : Int) + 1) = (k : Int) + 1 := by rw [IntKind.wrap_i64]; omega
        have HCm : Hid (∀ X, Below w.heap.size w X → Calls Tryd.prog 92 #[.agg #[.int .i64 (g k 0), .int .i64 (g k 1), .int .i64 (g k 2), .int .i64 (g k 3), .int .i64 (g k 4), .int .i64 (g k 5)], .agg #[.int .i64 0, .int .i64 0, .int .i64 0, .int .i64 0, .int .i64 0, .int .i64 0]] X (Ret (.tuple #[.int .i64 (pcN (g k 0) (g k 1) (g k 2) (g k 3) (g k 4) (g k 5) 0 0 0 0 0 0), .int .i64 (pcE (g k 0) (g k 1) (g k 2) (g k 3) (g k 4) (g k 5) 0 0 0 0 0 0)]) X)) :=
          Lib.hid (fun X hX => PCmp_c _ _ _ _ _ _ _ _ _ _ _ _ X (HP.out.up hX))
        have HOk : Hid (vlOk g k = (decide (pcE (g k 0) (g k 1) (g k 2) (g k 3) (g k 4) (g k 5) 0 0 0 0 0 0 = 0) && decide (0 < pcN (g k 0) (g k 1) (g k 2) (g k 3) (g k 4) (g k 5) 0 0 0 0 0 0))) := Lib.hid rfl
        have hbw := HB.out
        generalize pcE (g k 0) (g k 1) (g k 2) (g k 3) (g k 4) (g k 5) 0 0 0 0 0 0 = ce at *
        generalize pcN (g k 0) (g k 1) (g k 2) (g k 3) (g k 4) (g k 5) 0 0 0 0 0 0 = cn at *
        generalize g k 0 = x0 at *
        generalize g k 1 = x1 at *
        generalize g k 2 = x2 at *
        generalize g k 3 = x3 at *
        generalize g k 4 = x4 at *
        generalize g k 5 = x5 at *
        go_wp2_with fail
        refine calls_letter ?_
        intro W1 hW1
        have b1 : Below w.heap.size w W1 := by
          rw [hW1]
          have hsz := hbw.size
          (repeat (first | (with_reducible exact bl_refl _) | (with_reducible refine bl_drew ?_) | (with_reducible refine bl_alloc ?_ _) | (with_reducible refine bl_set' ?_ ?_; · (first | omega | (simp; done) | (simp; omega))) | (with_reducible refine bl_last (by assumption) ?_) | (with_reducible refine bl_drewN ?_ _)))
        have HB1 := Lib.hid b1
        clear hW1 hbw b1 g0 g1 g2 g3 g4 g5 zv hbv
        (with_reducible refine (HCm.out _ HB1.out).mono ?_)
        rintro e W2 ⟨rfl, hb2⟩
        have HB2 := Lib.hid (bl_trans HB1.out hb2)
        clear hb2
        by_cases he : ce = 0
        · have p1 : (ce != 0) = false := by rw [he]; rfl
          by_cases hcn : 0 < cn
          · have p2 : decide (cn ≤ 0) = false := decide_eq_false (by omega)
            have hI2 : Hid (∀ j, j < k + 1 → vlOk g j = true) := Lib.hid (fun j hj => by
              by_cases ej : j = k
              · rw [ej, HOk.out, he]; simp [hcn]
              · exact HI.out j (by omega))
            clear he hcn
            go_wp2
            go_roundw
            case rel => exact ⟨k + 1, by omega, by go_num, hI2, HB2⟩
            case measure => simp [intOf]; omega
          · have p2 : decide (cn ≤ 0) = true := decide_eq_true (by omega)
            have hv : (List.range n).all (vlOk g) = false := by
              rw [← Bool.not_eq_true, all_range]
              intro h
              have := h k hlt
              rw [HOk.out] at this
              simp [hcn] at this
            have HVv := Lib.hid hv
            clear he hcn hv
            go_wp2
            go_ret
            exact ⟨by rw [HVv.out]; rfl, HB2.out⟩
        · have p1 : (ce != 0) = true := by simpa using he
          have hv : (List.range n).all (vlOk g) = false := by
            rw [← Bool.not_eq_true, all_range]
            intro h
            have := h k hlt
            rw [HOk.out] at this
            simp [he] at this
          have HVv := Lib.hid hv
          clear he hv
          go_wp2
          go_ret
          exact ⟨by rw [HVv.out]; rfl, HB2.out⟩
      · obtain rfl : n = k := by omega
        have hv : (List.range n).all (vlOk g) = true := all_range.2 HI.out
        have HVv := Lib.hid hv
        clear hv
        go_wp2
        go_ret
        exact ⟨by rw [HVv.out]; rfl, HB.out⟩
end Go.Proofs.YtehifkdfbiebfaaDoor
