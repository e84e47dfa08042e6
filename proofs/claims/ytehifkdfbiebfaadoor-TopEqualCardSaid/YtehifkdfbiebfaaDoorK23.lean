/- TopEqual: pitches with one coordinate: compare, raised, inside. TopEqual: the closure of Octave, last, Octave of a pitch with one coordinate. -/
import Derived.Test.YtehifkdfbiebfaaDoorK22
import Derived.Deep.Cut
namespace Go.Proofs.YtehifkdfbiebfaaDoor
open Go Go.RowKit

/-- A pitch with one coordinate. -/
abbrev one6 (x : Int) : Value := .agg #[.int .i64 x, .int .i64 0, .int .i64 0, .int .i64 0, .int .i64 0, .int .i64 0]
theorem pV_one {x B : Int} (hB : 0 ≤ B) : pV x 0 0 0 0 0 B = true ↔ -B ≤ x ∧ x ≤ B := by
  constructor
  · intro h
    exact wi_of (pV_of h).1
  · intro h
    have h0 : wi 0 B = true := by unfold wi; simp [hB]
    refine pV_mk ?_ h0 h0 h0 h0 h0
    unfold wi
    simp [h]
theorem cmP_one (x y : Int) : cmP x 0 0 0 0 0 y 0 0 0 0 0 = ordZ x y := by
  unfold cmP
  have hu : upN (x - y) (0 - 0) (0 - 0) (0 - 0) (0 - 0) (0 - 0) = pwF 2 (x - y) := by
    simp [upN, prodF, sgE, prm, pex, pwF]
  have hd : dnN (x - y) (0 - 0) (0 - 0) (0 - 0) (0 - 0) (0 - 0) = pwF 2 (y - x) := by
    have : -1 * (x - y) = y - x := by omega
    simp [dnN, prodF, sgE, prm, pex, pwF, this]
  rw [hu, hd]
  unfold pwF
  by_cases h1 : x < y
  · rw [if_neg (by omega), if_pos (by omega)]
    have h2 : 1 < 2 ^ (y - x).toNat := Nat.one_lt_two_pow (by omega)
    unfold ordZ
    rw [if_pos h1, if_pos (by omega)]
  · by_cases h2 : y < x
    · rw [if_pos (by omega), if_neg (by omega)]
      have h3 : 1 < 2 ^ (x - y).toNat := Nat.one_lt_two_pow (by omega)
      unfold ordZ
      rw [if_neg h1, if_pos h2, if_neg (by omega), if_pos (by omega)]
    · rw [if_neg (by omega), if_neg (by omega)]
      unfold ordZ
      rw [if_neg h1, if_neg h2]
      simp
theorem PCmp1_c (x y : Int) (w : World) (hP : PR w) (hx : -576 ≤ x ∧ x ≤ 576) (hy : -576 ≤ y ∧ y ≤ 576) : Calls Tryd.prog 92 #[one6 x, one6 y] w (Ret (.tuple #[.int .i64 (ordZ x y), .int .i64 0]) w) := by
  have h := PCmp_c x 0 0 0 0 0 y 0 0 0 0 0 w hP
  have hg : cbG x 0 0 0 0 0 y 0 0 0 0 0 = true := by
    unfold cbG
    rw [(pV_one (by omega)).2 hx, (pV_one (by omega)).2 hy]
    rfl
  unfold pcV pcN pcE at h
  rw [if_pos hg, if_pos hg, cmP_one] at h
  exact h
set_option maxRecDepth 100000 in
theorem cmp1_c (x y : Int) (w : World) (hP : PR w) (hx : -576 ≤ x ∧ x ≤ 576) (hy : -576 ≤ y ∧ y ≤ 576) : Calls Tryd.prog 97 #[one6 x, one6 y] w (Ret (.int .i64 (ordZ x y)) w) := by
  have HC := Lib.hid (fun X (hX : Below w.heap.size w X) => PCmp1_c x y X (hP.up hX) hx hy)
  generalize ordZ x y = z at *
  go_enter Tryd.func97, Tryd.ntmps97
  go_wp2_with fail
  (with_reducible refine (HC.out _ (by (repeat (first | (with_reducible exact bl_refl _) | (with_reducible refine bl_drew ?_) | (with_reducible refine bl_alloc ?_ _) | (with_reducible refine bl_set' ?_ ?_; · (first | omega | (simp; done) | (simp; omega))) | (with_reducible refine bl_last (by assumption) ?_) | (with_reducible refine bl_drewN ?_ _))))).mono ?_)
  rintro e w2 ⟨rfl, hb2⟩
  simp only
  go_wp2
  go_ret
  exact ⟨rfl, bl_trans (by (repeat (first | (with_reducible exact bl_refl _) | (with_reducible refine bl_drew ?_) | (with_reducible refine bl_alloc ?_ _) | (with_reducible refine bl_set' ?_ ?_; · (first | omega | (simp; done) | (simp; omega))) | (with_reducible refine bl_last (by assumption) ?_) | (with_reducible refine bl_drewN ?_ _)))) hb2⟩
set_option maxRecDepth 100000 in
theorem raised_c (x o : Int) (w : World) (h1 : IntKind.i64.wrap (12 * o) = 12 * o) (h2 : IntKind.i64.wrap (x + 12 * o) = x + 12 * o) : Calls Tryd.prog 124 #[one6 x, .int .i64 o] w (Ret (one6 (x + 12 * o)) w) := by
  go_enter Tryd.func124, Tryd.ntmps124
  go_wp2
  (refine bodyPost_ret (v := one6 (x + 12 * o)) (by simp only [results, Tryd.results124]; go_simp) rfl ⟨rfl, ?_⟩)
  (repeat (first | (with_reducible exact bl_refl _) | (with_reducible refine bl_drew ?_) | (with_reducible refine bl_alloc ?_ _) | (with_reducible refine bl_set' ?_ ?_; · (first | omega | (simp; done) | (simp; omega))) | (with_reducible refine bl_last (by assumption) ?_) | (with_reducible refine bl_drewN ?_ _)))
set_option maxRecDepth 100000 in
theorem inside_c (x : Int) (w : World) (hP : PR w) (hx : -576 ≤ x ∧ x ≤ 576) : Calls Tryd.prog 125 #[one6 x] w (Ret (.bool (decide (0 ≤ x) && decide (x < 12))) w) := by
  have H0 := Lib.hid (fun X (hX : Below w.heap.size w X) => cmp1_c x 0 X (hP.up hX) hx (by omega))
  have H1 := Lib.hid (fun X (hX : Below w.heap.size w X) => cmp1_c x 12 X (hP.up hX) hx (by omega))
  by_cases h0 : 0 ≤ x
  · have q0 : decide ((0 : Int) ≤ ordZ x 0) = true := decide_eq_true (by unfold ordZ; rw [if_neg (by omega)]; split <;> omega)
    by_cases h1 : x < 12
    · have q1 : decide (ordZ x 12 < 0) = true := decide_eq_true (by unfold ordZ; rw [if_pos h1]; omega)
      have e : (decide (0 ≤ x) && decide (x < 12)) = true := by simp [h0, h1]
      rw [e]
      generalize ordZ x 0 = z0 at *
      generalize ordZ x 12 = z1 at *
      go_enter Tryd.func125, Tryd.ntmps125
      go_upto_region 1 with fail
      refine wp_letter ?_
      intro W1 hW1
      have b1 : Below w.heap.size w W1 := by rw [hW1]; exact bl_alloc (bl_refl _) _
      have P1 : Blk W1 w.heap.size 72 #[.int .i64 x, .int .i64 0, .int .i64 0, .int .i64 0, .int .i64 0, .int .i64 0] := by rw [hW1]; exact Blk.new _ _ _
      clear hW1
      have p_0 := P1.cell 0
      have p_1 := P1.cell 1
      have p_2 := P1.cell 2
      have p_3 := P1.cell 3
      have p_4 := P1.cell 4
      have p_5 := P1.cell 5
      simp only [List.getElem?_toArray, List.getElem?_cons_zero, List.getElem?_cons_succ] at p_0 p_1 p_2 p_3 p_4 p_5
      have zp := P1.lt
      have hw0 : w.heap.size ≤ W1.heap.size := b1.size
      go_wp2_with fail
      (with_reducible refine (H0.out _ b1).mono ?_)
      rintro e w2 ⟨rfl, hb2⟩
      have b2 := bl_trans b1 hb2
      have P2 := P1.below hb2 P1.lt
      clear p_0 p_1 p_2 p_3 p_4 p_5 zp
      have p_0 := P2.cell 0
      have p_1 := P2.cell 1
      have p_2 := P2.cell 2
      have p_3 := P2.cell 3
      have p_4 := P2.cell 4
      have p_5 := P2.cell 5
      simp only [List.getElem?_toArray, List.getElem?_cons_zero, List.getElem?_cons_succ] at p_0 p_1 p_2 p_3 p_4 p_5
      have zp := P2.lt
      simp only
      go_wp2_with fail
      (with_reducible refine (H1.out _ b2).mono ?_)
      rintro e w3 ⟨rfl, hb3⟩
      have b3 := bl_trans b2 hb3
      clear p_0 p_1 p_2 p_3 p_4 p_5 zp
      simp only
      go_wp2
      go_ret
      exact ⟨rfl, b3⟩
    · have q1 : decide (ordZ x 12 < 0) = false := decide_eq_false (by unfold ordZ; rw [if_neg h1]; split <;> omega)
      have e : (decide (0 ≤ x) && decide (x < 12)) = false := by simp [h1]
      rw [e]
      generalize ordZ x 0 = z0 at *
      generalize ordZ x 12 = z1 at *
      go_enter Tryd.func125, Tryd.ntmps125
      go_upto_region 1 with fail
      refine wp_letter ?_
      intro W1 hW1
      have b1 : Below w.heap.size w W1 := by rw [hW1]; exact bl_alloc (bl_refl _) _
      have P1 : Blk W1 w.heap.size 72 #[.int .i64 x, .int .i64 0, .int .i64 0, .int .i64 0, .int .i64 0, .int .i64 0] := by rw [hW1]; exact Blk.new _ _ _
      clear hW1
      have p_0 := P1.cell 0
      have p_1 := P1.cell 1
      have p_2 := P1.cell 2
      have p_3 := P1.cell 3
      have p_4 := P1.cell 4
      have p_5 := P1.cell 5
      simp only [List.getElem?_toArray, List.getElem?_cons_zero, List.getElem?_cons_succ] at p_0 p_1 p_2 p_3 p_4 p_5
      have zp := P1.lt
      have hw0 : w.heap.size ≤ W1.heap.size := b1.size
      go_wp2_with fail
      (with_reducible refine (H0.out _ b1).mono ?_)
      rintro e w2 ⟨rfl, hb2⟩
      have b2 := bl_trans b1 hb2
      have P2 := P1.below hb2 P1.lt
      clear p_0 p_1 p_2 p_3 p_4 p_5 zp
      have p_0 := P2.cell 0
      have p_1 := P2.cell 1
      have p_2 := P2.cell 2
      have p_3 := P2.cell 3
      have p_4 := P2.cell 4
      have p_5 := P2.cell 5
      simp only [List.getElem?_toArray, List.getElem?_cons_zero, List.getElem?_cons_succ] at p_0 p_1 p_2 p_3 p_4 p_5
      have zp := P2.lt
      simp only
      go_wp2_with fail
      (with_reducible refine (H1.out _ b2).mono ?_)
      rintro e w3 ⟨rfl, hb3⟩
      have b3 := bl_trans b2 hb3
      clear p_0 p_1 p_2 p_3 p_4 p_5 zp
      simp only
      go_wp2
      go_ret
      exact ⟨rfl, b3⟩
  · have q0 : decide ((0 : Int) ≤ ordZ x 0) = false := decide_eq_false (by unfold ordZ; rw [if_pos (by omega)]; omega)
    have e : (decide (0 ≤ x) && decide (x < 12)) = false := by simp [h0]
    rw [e]
    generalize ordZ x 0 = z0 at *
    go_enter Tryd.func125, Tryd.ntmps125
    go_upto_region 1 with fail
    refine wp_letter ?_
    intro W1 hW1
    have b1 : Below w.heap.size w W1 := by rw [hW1]; exact bl_alloc (bl_refl _) _
    have P1 : Blk W1 w.heap.size 72 #[.int .i64 x, .int .i64 0, .int .i64 0, .int .i64 0, .int .i64 0, .int .i64 0] := by rw [hW1]; exact Blk.new _ _ _
    clear hW1
    have p_0 := P1.cell 0
    have p_1 := P1.cell 1
    have p_2 := P1.cell 2
    have p_3 := P1.cell 3
    have p_4 := P1.cell 4
    have p_5 := P1.cell 5
    simp only [List.getElem?_toArray, List.getElem?_cons_zero, List.getElem?_cons_succ] at p_0 p_1 p_2 p_3 p_4 p_5
    have zp := P1.lt
    have hw0 : w.heap.size ≤ W1.heap.size := b1.size
    go_wp2_with fail
    (with_reducible refine (H0.out _ b1).mono ?_)
    rintro e w2 ⟨rfl, hb2⟩
    have b2 := bl_trans b1 hb2
    have P2 := P1.below hb2 P1.lt
    clear p_0 p_1 p_2 p_3 p_4 p_5 zp
    simp only
    go_wp2
    go_ret
    exact ⟨rfl, b2⟩
end Go.Proofs.YtehifkdfbiebfaaDoor
namespace Go.Proofs.YtehifkdfbiebfaaDoor
open Go Go.RowKit

abbrev arr1 (x : Int) : Array Value := #[.int .i64 x, .int .i64 0, .int .i64 0, .int .i64 0, .int .i64 0, .int .i64 0]
set_option maxRecDepth 100000 in
theorem oct1_c (x o : Int) (bp : Nat) (w : World) (hP : PR w) (hB : Blk w bp 72 (arr1 x)) (hx : -576 ≤ x ∧ x ≤ 576) (ho : -576 ≤ x - 12 * o ∧ x - 12 * o ≤ 576) :
    Calls Tryd.prog 123 #[.int .i64 o, .pointer (some ⟨bp, 0, none⟩)] w (Ret (.bool (decide (12 * o ≤ x))) w) := by
  have HR := Lib.hid (fun X => raised_c x (-o) X (by rw [IntKind.wrap_i64]; omega) (by rw [IntKind.wrap_i64]; omega))
  have e : x + 12 * -o = x - 12 * o := by omega
  rw [e] at HR
  have HC := Lib.hid (fun X (hX : Below w.heap.size w X) => cmp1_c (x - 12 * o) 0 X (hP.up hX) ho (by omega))
  have wo : IntKind.i64.wrap (-o) = -o := by rw [IntKind.wrap_i64]; omega
  have q : decide ((0 : Int) ≤ ordZ (x - 12 * o) 0) = decide (12 * o ≤ x) := by
    unfold ordZ
    by_cases h : 12 * o ≤ x
    · rw [if_neg (by omega), decide_eq_true h, decide_eq_true (by split <;> omega)]
    · rw [if_pos (by omega), decide_eq_false h]
      decide
  rw [← q]
  generalize ordZ (x - 12 * o) 0 = z at *
  generalize x - 12 * o = y at *
  have p_0 := hB.cell 0
  have p_1 := hB.cell 1
  have p_2 := hB.cell 2
  have p_3 := hB.cell 3
  have p_4 := hB.cell 4
  have p_5 := hB.cell 5
  simp only [List.getElem?_toArray, List.getElem?_cons_zero, List.getElem?_cons_succ] at p_0 p_1 p_2 p_3 p_4 p_5
  have zp := hB.lt
  clear hB q e
  go_enter Tryd.func123, Tryd.ntmps123
  go_wp2_with fail
  (with_reducible refine (HR.out _).mono ?_)
  rintro e w2 ⟨rfl, hb2⟩
  simp only
  go_wp2_with fail
  (with_reducible refine (HC.out _ hb2).mono ?_)
  rintro e w3 ⟨rfl, hb3⟩
  simp only
  go_wp2
  go_ret
  exact ⟨rfl, bl_trans hb2 hb3⟩
set_option maxRecDepth 100000 in
theorem last1_c (x lo hi : Int) (bp : Nat) (w : World) (hP : PR w) (hB : Blk w bp 72 (arr1 x)) (hx : -576 ≤ x ∧ x ≤ 576) (h1 : lo ≤ x / 12) (h2 : x / 12 ≤ hi) (h3 : -576 ≤ x - 12 * hi) (h4 : x - 12 * lo ≤ 576) :
    Calls Tryd.prog 122 #[.int .i64 lo, .int .i64 hi, .func (.func 123) #[] #[.pointer (some ⟨bp, 0, none⟩)]] w (Ret (.int .i64 (x / 12)) w) := by
  have HO := Lib.hid (fun o X (hX : Below w.heap.size w X) (ha : lo ≤ o) (hb : o ≤ hi) => oct1_c x o bp X (hP.up hX) (hB.below hX hB.lt) hx (by omega))
  clear hP hB
  go_enter Tryd.func122, Tryd.ntmps122
  go_wp2
  go_loopw [0, 1] (fun l h wr => ∃ a b : Int, l = .int .i64 a ∧ h = .int .i64 b ∧ lo ≤ a ∧ a ≤ x / 12 ∧ x / 12 ≤ b ∧ b ≤ hi ∧ Hid (Below w.heap.size w wr)) (fun l h _ => (intOf h - intOf l).toNat)
  case atStart => exact ⟨lo, hi, rfl, rfl, Int.le_refl _, h1, h2, Int.le_refl _, Lib.hid (bl_refl _)⟩
  case round =>
    obtain ⟨a, b, rfl, rfl, a1, a2, a3, a4, HB⟩ := hrel
    by_cases hlt : a < b
    · have w1 : IntKind.i64.wrap (b - a) = b - a := by rw [IntKind.wrap_i64]; omega
      have w2 : IntKind.i64.wrap (b - (b - a) / 2) = b - (b - a) / 2 := by rw [IntKind.wrap_i64]; omega
      have w3 : IntKind.i64.wrap ((b - a) / 2) = (b - a) / 2 := by rw [IntKind.wrap_i64]; omega
      have w4 : IntKind.i64.wrap (b - (b - a) / 2 - 1) = b - (b - a) / 2 - 1 := by rw [IntKind.wrap_i64]; omega
      have hO := HO.out (b - (b - a) / 2) wr HB.out (by omega) (by omega)
      have HO1 := Lib.hid hO
      by_cases hm : 12 * (b - (b - a) / 2) ≤ x
      · have q : decide (12 * (b - (b - a) / 2) ≤ x) = true := decide_eq_true hm
        rw [q] at HO1
        clear hO q
        go_wp2_with fail
        (with_reducible refine HO1.out.mono ?_)
        rintro e w2 ⟨rfl, hb2⟩
        have HB2 := Lib.hid (bl_trans HB.out hb2)
        clear hb2
        simp only
        go_wp2
        go_roundw
        case rel => exact ⟨b - (b - a) / 2, b, rfl, rfl, by omega, by omega, a3, a4, HB2⟩
        case measure => simp [intOf]; omega
      · have q : decide (12 * (b - (b - a) / 2) ≤ x) = false := decide_eq_false hm
        rw [q] at HO1
        clear hO q
        go_wp2_with fail
        (with_reducible refine HO1.out.mono ?_)
        rintro e w2 ⟨rfl, hb2⟩
        have HB2 := Lib.hid (bl_trans HB.out hb2)
        clear hb2
        simp only
        go_wp2
        go_roundw
        case rel => exact ⟨a, b - (b - a) / 2 - 1, rfl, rfl, a1, a2, by omega, by omega, HB2⟩
        case measure => simp [intOf]; omega
    · obtain rfl : a = x / 12 := by omega
      go_wp2
      go_ret
      exact ⟨rfl, HB.out⟩
end Go.Proofs.YtehifkdfbiebfaaDoor
