/- Beat: products of powers are above 0 (for the seats that have no Hertz). Beat: Pair. How often a prime divides: plain laws. -/
import Derived.Test.YtehifkdfbiebfaaDoorK10
import Derived.Test.YtehifkdfbiebfaaDoorK15
import Derived.Test.YtehifkdfbiebfaaDoorK16
import Derived.BigQuiet
namespace Go.Proofs.YtehifkdfbiebfaaDoor
open Go Go.RowKit

theorem pwF_pos {b : Nat} {e : Int} (h : 0 < b) : 0 < pwF b e := by
  unfold pwF
  split
  · exact Nat.pow_pos h
  · omega
theorem prodF_pos {fb : Nat → Nat} {fe : Nat → Int} {k : Nat} (h : ∀ j, j < k → 0 < fb j) : ∀ i, i ≤ k → 0 < prodF fb fe i
  | 0, _ => by simp [prodF]
  | i + 1, hi => Nat.mul_pos (prodF_pos h i (by omega)) (pwF_pos (h i (by omega)))
end Go.Proofs.YtehifkdfbiebfaaDoor
namespace Go.Proofs.YtehifkdfbiebfaaDoor
open Go.RowKit

def paU (a b c d e f : Int) : Nat → Nat := prodF prm (pex a b c d e f)
def paD (a b c d e f : Int) : Nat → Nat := prodF prm (fun i => -pex a b c d e f i)
def paO (a b c d e f : Int) : Bool := pV a b c d e f 48 && (decide (paU a b c d e f 6 ≤ 64) && decide (paD a b c d e f 6 ≤ 64))
def paK (a b c d e f : Int) : Int := if paO a b c d e f then 0 else if pV a b c d e f 48 then 3 else 1
def paV (a b c d e f : Int) : Value := .tuple #[.int .i64 (if paO a b c d e f then paU a b c d e f 6 else 0), .int .i64 (if paO a b c d e f then paD a b c d e f 6 else 0), .int .i64 (paK a b c d e f)]
theorem prm_pos {i : Nat} (h : i < 6) : 2 ≤ prm i ∧ prm i ≤ 13 := by
  rcases lt6 h with rfl | rfl | rfl | rfl | rfl | rfl <;> simp [prm]
theorem prodF_mono {fb : Nat → Nat} {fe : Nat → Int} {k : Nat} (h : ∀ j, j < k → 0 < fb j) : ∀ i, i ≤ k → prodF fb fe i ≤ prodF fb fe k := by
  intro i hi
  induction k with
  | zero => obtain rfl : i = 0 := by omega
            exact Nat.le_refl _
  | succ k ih =>
    by_cases e : i = k + 1
    · subst e; exact Nat.le_refl _
    · have h1 := ih (fun j hj => h j (by omega)) (by omega)
      have h2 : 0 < pwF (fb k) (fe k) := pwF_pos (h k (by omega))
      refine Nat.le_trans h1 ?_
      show prodF fb fe k ≤ prodF fb fe k * pwF (fb k) (fe k)
      exact Nat.le_mul_of_pos_right _ h2
theorem idx_prm (i : Nat) (h : i < 6) (w : World) : (Instr.index 26 (.agg #[.int .i64 2, .int .i64 3, .int .i64 5, .int .i64 7, .int .i64 11, .int .i64 13]) (.int .i64 (i : Int))).run Tryd.prog w = .ok (.int .i64 (prm i : Int)) w := by
  rcases lt6 h with rfl | rfl | rfl | rfl | rfl | rfl
  · exact idx6_0 2 3 5 7 11 13 w
  · exact idx6_1 2 3 5 7 11 13 w
  · exact idx6_2 2 3 5 7 11 13 w
  · exact idx6_3 2 3 5 7 11 13 w
  · exact idx6_4 2 3 5 7 11 13 w
  · exact idx6_5 2 3 5 7 11 13 w
theorem vec_at {W : World} {g : Nat} {t : TypeId} {a b c d e f : Int} (B : Blk W g t #[.int .i64 a, .int .i64 b, .int .i64 c, .int .i64 d, .int .i64 e, .int .i64 f]) {i : Nat} (h : i < 6) : W.cell? ⟨g, i, none⟩ = some (.int .i64 (pex a b c d e f i)) := by
  have hc := B.cell i
  rcases lt6 h with rfl | rfl | rfl | rfl | rfl | rfl <;> exact hc
theorem paU_step (a b c d e f : Int) (i : Nat) : paU a b c d e f (i + 1) = paU a b c d e f i * pwF (prm i) (pex a b c d e f i) := rfl
theorem paD_step (a b c d e f : Int) (i : Nat) : paD a b c d e f (i + 1) = paD a b c d e f i * pwF (prm i) (-pex a b c d e f i) := rfl
theorem paU_le (a b c d e f : Int) {i : Nat} (h : i ≤ 6) : paU a b c d e f i ≤ paU a b c d e f 6 := prodF_mono (fun j hj => by have := prm_pos hj; omega) i h
theorem paD_le (a b c d e f : Int) {i : Nat} (h : i ≤ 6) : paD a b c d e f i ≤ paD a b c d e f 6 := prodF_mono (fun j hj => by have := prm_pos hj; omega) i h
theorem pex_bd {a b c d e f : Int} (h : pV a b c d e f 48 = true) {i : Nat} (hi : i < 6) : -48 ≤ pex a b c d e f i ∧ pex a b c d e f i ≤ 48 := by
  obtain ⟨h1, h2, h3, h4, h5, h6⟩ := pV_of h
  rcases lt6 hi with rfl | rfl | rfl | rfl | rfl | rfl
  · exact wi_of h1
  · exact wi_of h2
  · exact wi_of h3
  · exact wi_of h4
  · exact wi_of h5
  · exact wi_of h6
set_option maxRecDepth 100000 in
set_option maxHeartbeats 8000000 in
theorem Pair_c (a b c d e f : Int) (w : World) : Calls Tryd.prog 48 #[.agg #[.int .i64 a, .int .i64 b, .int .i64 c, .int .i64 d, .int .i64 e, .int .i64 f]] w (Ret (paV a b c d e f) w) := by
  have hI := fun w => PInt_c a b c d e f w
  cases hp : pV a b c d e f 48
  · rw [hp] at hI
    have HI := Lib.hid hI
    have hV : paV a b c d e f = .tuple #[.int .i64 0, .int .i64 0, .int .i64 1] := by simp [paV, paK, paO, hp]
    rw [hV]
    clear hV hp hI
    go_enter Tryd.func48, Tryd.ntmps48
    go_wp2_with (go_at_call 15; ((with_reducible refine (HI.out _).mono ?_); rintro e w' ⟨rfl, hb⟩; obtain ⟨hz, hc, hf⟩ := bcl hb (by first | (simp; rfl) | rfl)))
    go_ret3
    exact ⟨rfl, by (repeat (first | (with_reducible exact bl_refl _) | (with_reducible refine bl_drew ?_) | (with_reducible refine bl_alloc ?_ _) | (with_reducible refine bl_set' ?_ ?_; · (first | omega | (simp; done) | (simp; omega))) | (with_reducible refine bl_last (by assumption) ?_) | (with_reducible refine bl_drewN ?_ _)))⟩
  · rw [hp] at hI
    have HI := Lib.hid hI
    have HX := Lib.hid (fun i (hi : i < 6) => pex_bd hp hi)
    have HUl := Lib.hid (fun i (hi : i ≤ 6) => paU_le a b c d e f hi)
    have HDl := Lib.hid (fun i (hi : i ≤ 6) => paD_le a b c d e f hi)
    have HUs := Lib.hid (paU_step a b c d e f)
    have HDs := Lib.hid (paD_step a b c d e f)
    have hVf : (64 < paU a b c d e f 6 ∨ 64 < paD a b c d e f 6) → paV a b c d e f = .tuple #[.int .i64 0, .int .i64 0, .int .i64 3] := by
      intro h
      have : paO a b c d e f = false := by
        unfold paO
        rw [hp, Bool.true_and]
        rcases h with h | h
        · rw [decide_eq_false (by omega), Bool.false_and]
        · rw [decide_eq_false (p := paD a b c d e f 6 ≤ 64) (by omega), Bool.and_false]
      simp [paV, paK, this, hp]
    have hVo : (paU a b c d e f 6 ≤ 64 ∧ paD a b c d e f 6 ≤ 64) → paV a b c d e f = .tuple #[.int .i64 (paU a b c d e f 6), .int .i64 (paD a b c d e f 6), .int .i64 0] := by
      intro h
      have : paO a b c d e f = true := by
        unfold paO
        rw [hp, Bool.true_and, decide_eq_true h.1, decide_eq_true h.2]
        rfl
      simp [paV, paK, this]
    have HVf := Lib.hid hVf
    have HVo := Lib.hid hVo
    have HU0 : Hid (paU a b c d e f 0 = 1) := Lib.hid rfl
    have HD0 : Hid (paD a b c d e f 0 = 1) := Lib.hid rfl
    generalize paV a b c d e f = V at *
    generalize paU a b c d e f = U at *
    generalize paD a b c d e f = D at *
    clear hp hI hVf hVo
    go_enter Tryd.func48, Tryd.ntmps48
    go_wp2_with (go_at_call 15; ((with_reducible refine (HI.out _).mono ?_); rintro e w' ⟨rfl, hb⟩; obtain ⟨hz, hc, hf⟩ := bcl hb (by first | (simp; rfl) | rfl)))
    have z0 : w.heap.size < w'.heap.size := by omega
    go_loopw [15] (fun i wr => ∃ j : Nat, j ≤ 6 ∧ i = .int .i64 (j : Int) ∧ Below w.heap.size w wr ∧ Hid (Blk wr w.heap.size 27 #[.int .i64 a, .int .i64 b, .int .i64 c, .int .i64 d, .int .i64 e, .int .i64 f]) ∧ Hid (Blk wr w'.heap.size 183 #[.int .i64 (U j : Int), .int .i64 (D j : Int)]) ∧ Hid (U j ≤ 64 ∧ D j ≤ 64)) (fun i _ => 6 - (intOf i).toNat)
    case atStart => exact ⟨0, by omega, rfl, by (repeat (first | (with_reducible exact bl_refl _) | (with_reducible refine bl_drew ?_) | (with_reducible refine bl_alloc ?_ _) | (with_reducible refine bl_set' ?_ ?_; · (first | omega | (simp; done) | (simp; omega))) | (with_reducible refine bl_last (by assumption) ?_) | (with_reducible refine bl_drewN ?_ _))), Lib.hid (((Blk.new w _ _).below hb (by simp)).alloc _), Lib.hid (by rw [HU0.out, HD0.out]; exact Blk.new _ _ _), Lib.hid (by rw [HU0.out, HD0.out]; omega)⟩
    case round =>
      obtain ⟨j, hj, rfl, hbw, HB1, HB2, HL⟩ := hrel
      have z1 : w'.heap.size < wr.heap.size := HB2.out.lt
      by_cases hlt : j < 6
      · have hidx := fun w => idx_prm j hlt w
        have hv := vec_at HB1.out hlt
        obtain ⟨x1, x2⟩ := HX.out j hlt
        have hP := prm_pos hlt
        have hUj := HUs.out j
        have hDj := HDs.out j
        have hU6 := HUl.out (j + 1) (by omega)
        have hD6 := HDl.out (j + 1) (by omega)
        generalize pex a b c d e f j = x at *
        generalize prm j = P at *
        rcases Int.lt_or_le x 0 with hx | hx
        · obtain ⟨m, hm⟩ : ∃ m : Nat, x = -(m : Int) := ⟨x.natAbs, by omega⟩
          subst hm
          have HMS : Hid (D (j + 1) = D j * P ^ m) := Lib.hid (by
            rw [hDj, pwF, if_pos (by omega), show (- -(m : Int)).toNat = m by omega])
          have HOT : Hid (U (j + 1) = U j) := Lib.hid (by rw [hUj, pwF, if_neg (by omega), Nat.mul_one])
          have HMX : Hid (∀ r, r ≤ m → D j * P ^ (m - r) ≤ D 6) := Lib.hid (fun r hr => Nat.le_trans (by
            rw [HMS.out]
            exact Nat.mul_le_mul_left _ (Nat.pow_le_pow_right (by omega) (by omega))) hD6)
          clear hUj hDj hU6 hD6
          have hx0 : -(m : Int) < 0 := hx
          go_wp2
          go_quiet (fail)
          go_wp2
          go_loopw [9] (fun n wr2 => ∃ r : Nat, r ≤ m ∧ n = .int .i64 (r : Int) ∧ Below w.heap.size w wr2 ∧ Hid (Blk wr2 w.heap.size 27 #[.int .i64 a, .int .i64 b, .int .i64 c, .int .i64 d, .int .i64 e, .int .i64 f]) ∧ Hid (Blk wr2 w'.heap.size 183 #[.int .i64 (U j : Int), .int .i64 ((D j * P ^ (m - r) : Nat) : Int)]) ∧ Hid (D j * P ^ (m - r) ≤ 64)) (fun n _ => (intOf n).toNat)
          case atStart =>
            refine ⟨m, Nat.le_refl _, rfl, by (repeat (first | (with_reducible exact bl_refl _) | (with_reducible refine bl_drew ?_) | (with_reducible refine bl_alloc ?_ _) | (with_reducible refine bl_set' ?_ ?_; · (first | omega | (simp; done) | (simp; omega))) | (with_reducible refine bl_last (by assumption) ?_) | (with_reducible refine bl_drewN ?_ _))), Lib.hid HB1.out, Lib.hid ?_, Lib.hid ?_⟩
            · rw [Nat.sub_self, Nat.pow_zero, Nat.mul_one]
              exact HB2.out
            · rw [Nat.sub_self, Nat.pow_zero, Nat.mul_one]
              exact HL.out.2
          case round =>
            clear hbw
            obtain ⟨r, hr, rfl, hbw, HC1, HC2, HC3⟩ := hrel
            have z1 : w'.heap.size < wr.heap.size := HC2.out.lt
            rcases r with _ | r
            · have hEQ : Hid (D (j + 1) = D j * P ^ (m - 0)) := Lib.hid (by rw [HMS.out, Nat.sub_zero])
              have HB3 : Hid (Blk wr w'.heap.size 183 #[.int .i64 (U (j + 1) : Int), .int .i64 (D (j + 1) : Int)]) := Lib.hid (by
                have h := HC2.out
                rw [← hEQ.out, ← HOT.out] at h
                exact h)
              have HL3 : Hid (U (j + 1) ≤ 64 ∧ D (j + 1) ≤ 64) := Lib.hid (by
                have h := HC3.out
                rw [← hEQ.out] at h
                have h2 := HL.out
                rw [← HOT.out] at h2
                exact ⟨h2.1, h⟩)
              go_wp2
              go_roundw
              case rel => exact ⟨j + 1, by omega, by go_num, by (repeat (first | (with_reducible exact bl_refl _) | (with_reducible refine bl_drew ?_) | (with_reducible refine bl_alloc ?_ _) | (with_reducible refine bl_set' ?_ ?_; · (first | omega | (simp; done) | (simp; omega))) | (with_reducible refine bl_last (by assumption) ?_) | (with_reducible refine bl_drewN ?_ _))), HC1, HB3, HL3⟩
              case measure => simp [intOf]; omega
            · rw [show ((r + 1 : Nat) : Int) = (r : Int) + 1 from rfl]
              have c1 := HC2.out.cell 1
              have c2 := HC2.out.frozen 1
              have hst : D j * P ^ (m - (r + 1)) * P = D j * P ^ (m - r) := by
                rw [Nat.mul_assoc, ← Nat.pow_succ]
                congr 2
                omega
              have hx3 := HC3.out
              have HSt := Lib.hid hst
              have HSet := fun v => Lib.hid (HC2.out.set_ 1 (.int .i64 ((v : Nat) : Int)))
              obtain ⟨X, hX⟩ : ∃ X, X = D j * P ^ (m - (r + 1)) := ⟨_, rfl⟩
              rw [← hX] at c1 hx3
              have hm1 : IntKind.i64.wrap ((X : Int) * (P : Int)) = ((X * P : Nat) : Int) := by
                have : X * P ≤ 64 * 13 := Nat.mul_le_mul hx3 hP.2
                rw [IntKind.wrap_i64, ← Int.natCast_mul]
                omega
              have HX1 := Lib.hid hX
              clear hX hst
              generalize hY : X * P = Y at *
              have HY := Lib.hid hY
              clear hY
              by_cases hbig : 64 < Y
              · have hVV := HVf.out (Or.inr (by
                  have h1 := HMX.out r (by omega)
                  rw [← HSt.out, ← HX1.out, HY.out] at h1
                  omega))
                have HVV := Lib.hid hVV
                clear hVV
                go_wp2
                go_ret3
                exact ⟨congrArg Ending.returned HVV.out.symm, by (repeat (first | (with_reducible exact bl_refl _) | (with_reducible refine bl_drew ?_) | (with_reducible refine bl_alloc ?_ _) | (with_reducible refine bl_set' ?_ ?_; · (first | omega | (simp; done) | (simp; omega))) | (with_reducible refine bl_last (by assumption) ?_) | (with_reducible refine bl_drewN ?_ _)))⟩
              · go_wp2
                go_roundw
                case rel =>
                  refine ⟨r, by omega, by go_num, by (repeat (first | (with_reducible exact bl_refl _) | (with_reducible refine bl_drew ?_) | (with_reducible refine bl_alloc ?_ _) | (with_reducible refine bl_set' ?_ ?_; · (first | omega | (simp; done) | (simp; omega))) | (with_reducible refine bl_last (by assumption) ?_) | (with_reducible refine bl_drewN ?_ _))), Lib.hid (HC1.out.far (by show w.heap.size ≠ w'.heap.size; omega) _), Lib.hid ?_, Lib.hid ?_⟩
                  · have h := (HSet Y).out
                    rw [← HSt.out, ← HX1.out, HY.out]
                    exact h
                  · rw [← HSt.out, ← HX1.out, HY.out]
                    omega
                case measure => simp [intOf]
        · obtain ⟨m, rfl⟩ : ∃ m : Nat, x = (m : Int) := ⟨x.toNat, by omega⟩
          have HMS : Hid (U (j + 1) = U j * P ^ m) := Lib.hid (by
            rw [hUj, pwF]
            split
            · rfl
            · obtain rfl : m = 0 := by omega
              rw [Nat.pow_zero])
          have HOT : Hid (D (j + 1) = D j) := Lib.hid (by rw [hDj, pwF, if_neg (by omega), Nat.mul_one])
          have HMX : Hid (∀ r, r ≤ m → U j * P ^ (m - r) ≤ U 6) := Lib.hid (fun r hr => Nat.le_trans (by
            rw [HMS.out]
            exact Nat.mul_le_mul_left _ (Nat.pow_le_pow_right (by omega) (by omega))) hU6)
          clear hUj hDj hU6 hD6
          go_wp2
          go_quiet (fail)
          go_wp2
          go_loopw [9] (fun n wr2 => ∃ r : Nat, r ≤ m ∧ n = .int .i64 (r : Int) ∧ Below w.heap.size w wr2 ∧ Hid (Blk wr2 w.heap.size 27 #[.int .i64 a, .int .i64 b, .int .i64 c, .int .i64 d, .int .i64 e, .int .i64 f]) ∧ Hid (Blk wr2 w'.heap.size 183 #[.int .i64 ((U j * P ^ (m - r) : Nat) : Int), .int .i64 (D j : Int)]) ∧ Hid (U j * P ^ (m - r) ≤ 64)) (fun n _ => (intOf n).toNat)
          case atStart =>
            refine ⟨m, Nat.le_refl _, rfl, by (repeat (first | (with_reducible exact bl_refl _) | (with_reducible refine bl_drew ?_) | (with_reducible refine bl_alloc ?_ _) | (with_reducible refine bl_set' ?_ ?_; · (first | omega | (simp; done) | (simp; omega))) | (with_reducible refine bl_last (by assumption) ?_) | (with_reducible refine bl_drewN ?_ _))), Lib.hid HB1.out, Lib.hid ?_, Lib.hid ?_⟩
            · rw [Nat.sub_self, Nat.pow_zero, Nat.mul_one]
              exact HB2.out
            · rw [Nat.sub_self, Nat.pow_zero, Nat.mul_one]
              exact HL.out.1
          case round =>
            clear hbw
            obtain ⟨r, hr, rfl, hbw, HC1, HC2, HC3⟩ := hrel
            have z1 : w'.heap.size < wr.heap.size := HC2.out.lt
            rcases r with _ | r
            · have hEQ : Hid (U (j + 1) = U j * P ^ (m - 0)) := Lib.hid (by rw [HMS.out, Nat.sub_zero])
              have HB3 : Hid (Blk wr w'.heap.size 183 #[.int .i64 (U (j + 1) : Int), .int .i64 (D (j + 1) : Int)]) := Lib.hid (by
                have h := HC2.out
                rw [← hEQ.out, ← HOT.out] at h
                exact h)
              have HL3 : Hid (U (j + 1) ≤ 64 ∧ D (j + 1) ≤ 64) := Lib.hid (by
                have h := HC3.out
                rw [← hEQ.out] at h
                have h2 := HL.out
                rw [← HOT.out] at h2
                exact ⟨h, h2.2⟩)
              go_wp2
              go_roundw
              case rel => exact ⟨j + 1, by omega, by go_num, by (repeat (first | (with_reducible exact bl_refl _) | (with_reducible refine bl_drew ?_) | (with_reducible refine bl_alloc ?_ _) | (with_reducible refine bl_set' ?_ ?_; · (first | omega | (simp; done) | (simp; omega))) | (with_reducible refine bl_last (by assumption) ?_) | (with_reducible refine bl_drewN ?_ _))), HC1, HB3, HL3⟩
              case measure => simp [intOf]; omega
            · rw [show ((r + 1 : Nat) : Int) = (r : Int) + 1 from rfl]
              have c1 := HC2.out.cell 0
              have c2 := HC2.out.frozen 0
              have hst : U j * P ^ (m - (r + 1)) * P = U j * P ^ (m - r) := by
                rw [Nat.mul_assoc, ← Nat.pow_succ]
                congr 2
                omega
              have hx3 := HC3.out
              have HSt := Lib.hid hst
              have HSet := fun v => Lib.hid (HC2.out.set_ 0 (.int .i64 ((v : Nat) : Int)))
              obtain ⟨X, hX⟩ : ∃ X, X = U j * P ^ (m - (r + 1)) := ⟨_, rfl⟩
              rw [← hX] at c1 hx3
              have hm1 : IntKind.i64.wrap ((X : Int) * (P : Int)) = ((X * P : Nat) : Int) := by
                have : X * P ≤ 64 * 13 := Nat.mul_le_mul hx3 hP.2
                rw [IntKind.wrap_i64, ← Int.natCast_mul]
                omega
              have HX1 := Lib.hid hX
              clear hX hst
              generalize hY : X * P = Y at *
              have HY := Lib.hid hY
              clear hY
              by_cases hbig : 64 < Y
              · have hVV := HVf.out (Or.inl (by
                  have h1 := HMX.out r (by omega)
                  rw [← HSt.out, ← HX1.out, HY.out] at h1
                  omega))
                have HVV := Lib.hid hVV
                clear hVV
                go_wp2
                go_ret3
                exact ⟨congrArg Ending.returned HVV.out.symm, by (repeat (first | (with_reducible exact bl_refl _) | (with_reducible refine bl_drew ?_) | (with_reducible refine bl_alloc ?_ _) | (with_reducible refine bl_set' ?_ ?_; · (first | omega | (simp; done) | (simp; omega))) | (with_reducible refine bl_last (by assumption) ?_) | (with_reducible refine bl_drewN ?_ _)))⟩
              · go_wp2
                go_roundw
                case rel =>
                  refine ⟨r, by omega, by go_num, by (repeat (first | (with_reducible exact bl_refl _) | (with_reducible refine bl_drew ?_) | (with_reducible refine bl_alloc ?_ _) | (with_reducible refine bl_set' ?_ ?_; · (first | omega | (simp; done) | (simp; omega))) | (with_reducible refine bl_last (by assumption) ?_) | (with_reducible refine bl_drewN ?_ _))), Lib.hid (HC1.out.far (by show w.heap.size ≠ w'.heap.size; omega) _), Lib.hid ?_, Lib.hid ?_⟩
                  · have h := (HSet Y).out
                    rw [← HSt.out, ← HX1.out, HY.out]
                    exact h
                  · rw [← HSt.out, ← HX1.out, HY.out]
                    omega
                case measure => simp [intOf]
      · obtain rfl : j = 6 := by omega
        have hVV := HVo.out HL.out
        have HVV := Lib.hid hVV
        clear hVV
        have c0 := HB2.out.cell 0
        have c1 := HB2.out.cell 1
        generalize U 6 = u at *
        generalize D 6 = d6 at *
        go_wp2
        go_quiet (fail)
        go_wp2
        go_ret3
        exact ⟨congrArg Ending.returned HVV.out.symm, by (repeat (first | (with_reducible exact bl_refl _) | (with_reducible refine bl_drew ?_) | (with_reducible refine bl_alloc ?_ _) | (with_reducible refine bl_set' ?_ ?_; · (first | omega | (simp; done) | (simp; omega))) | (with_reducible refine bl_last (by assumption) ?_) | (with_reducible refine bl_drewN ?_ _)))⟩
end Go.Proofs.YtehifkdfbiebfaaDoor
namespace Go.Proofs.YtehifkdfbiebfaaDoor
open Go Go.RowKit

def valF (p : Nat) : Nat → Nat → Nat
  | 0, _ => 0
  | f + 1, n => if n % p = 0 then valF p f (n / p) + 1 else 0
/-- How often p divides n. -/
def val (p n : Nat) : Nat := valF p n n
/-- What is left of n. -/
def cof (p n : Nat) : Nat := n / p ^ val p n
theorem valF_pow {p : Nat} (hp : 2 ≤ p) {c : Nat} (hc : c % p ≠ 0) : ∀ k f, k ≤ f → valF p f (c * p ^ k) = k
  | 0, 0, _ => rfl
  | 0, f + 1, _ => by
    rw [Nat.pow_zero, Nat.mul_one]
    unfold valF
    rw [if_neg hc]
  | k + 1, 0, h => by omega
  | k + 1, f + 1, h => by
    have h1 : c * p ^ (k + 1) = c * p ^ k * p := by rw [Nat.pow_succ, Nat.mul_assoc]
    unfold valF
    rw [h1, if_pos (Nat.mul_mod_left _ _), Nat.mul_div_cancel _ (by omega), valF_pow hp hc k f (by omega)]
theorem val_of {p n c k : Nat} (hp : 2 ≤ p) (h : n = c * p ^ k) (hc : c % p ≠ 0) : val p n = k ∧ cof p n = c := by
  have hc0 : 1 ≤ c := by
    rcases Nat.eq_zero_or_pos c with e | e
    · subst e; simp at hc
    · exact e
  have h1 : k < p ^ k := Nat.lt_pow_self (by omega)
  have h2 : p ^ k ≤ n := by
    rw [h]
    exact Nat.le_mul_of_pos_left _ hc0
  have hv : val p n = k := by
    unfold val
    rw [h] at *
    exact valF_pow hp hc k _ (by omega)
  refine ⟨hv, ?_⟩
  unfold cof
  rw [hv, h]
  exact Nat.mul_div_cancel _ (Nat.pow_pos (by omega))
/-- What is left behind the first i primes. -/
def chN (n : Nat) : Nat → Nat
  | 0 => n
  | i + 1 => cof (prm i) (chN n i)
def raE3 (n d : Nat) (i : Nat) : Int := (val (prm i) (chN n i) : Int) - (val (prm i) (chN d i) : Int)
theorem val_spec {p n : Nat} (hp : 2 ≤ p) (hn : 1 ≤ n) : n = cof p n * p ^ val p n ∧ cof p n % p ≠ 0 := by
  have key : ∀ m, ∀ n, n ≤ m → 1 ≤ n → ∃ c k, n = c * p ^ k ∧ c % p ≠ 0 := by
    intro m
    induction m with
    | zero => intro n h1 h2; omega
    | succ m ih =>
      intro n h1 h2
      by_cases e : n % p = 0
      · obtain ⟨q, hq⟩ : ∃ q, q = n / p := ⟨_, rfl⟩
        have e1 : n = q * p := by rw [hq]; exact (Nat.div_mul_cancel (Nat.dvd_of_mod_eq_zero e)).symm
        have e2 : q < n := by rw [hq]; exact Nat.div_lt_self (by omega) (by omega)
        have e3 : 1 ≤ q := by
          rcases Nat.eq_zero_or_pos q with g | g
          · rw [g] at e1; omega
          · exact g
        obtain ⟨c, k, h3, h4⟩ := ih q (by omega) e3
        exact ⟨c, k + 1, by rw [e1, h3, Nat.pow_succ, Nat.mul_assoc], h4⟩
      · exact ⟨n, 0, by simp, e⟩
  obtain ⟨c, k, h1, h2⟩ := key n n (Nat.le_refl _) hn
  obtain ⟨e1, e2⟩ := val_of hp h1 h2
  rw [e1, e2]
  exact ⟨h1, h2⟩
theorem cof_pos {p n : Nat} (hp : 2 ≤ p) (hn : 1 ≤ n) : 1 ≤ cof p n ∧ cof p n ≤ n := by
  obtain ⟨h1, h2⟩ := val_spec hp hn
  have h3 : 1 ≤ p ^ val p n := Nat.pow_pos (by omega)
  constructor
  · rcases Nat.eq_zero_or_pos (cof p n) with e | e
    · rw [e] at h2; simp at h2
    · exact e
  · calc cof p n ≤ cof p n * p ^ val p n := Nat.le_mul_of_pos_right _ h3
      _ = n := h1.symm
theorem val_lt {p n m : Nat} (hp : 2 ≤ p) (hn : 1 ≤ n) (h : n < 2 ^ m) : val p n < m := by
  obtain ⟨h1, h2⟩ := val_spec hp hn
  have h3 := (cof_pos hp hn).1
  have h4 : 2 ^ val p n ≤ p ^ val p n := Nat.pow_le_pow_left hp _
  have h5 : p ^ val p n ≤ n := by
    calc p ^ val p n ≤ cof p n * p ^ val p n := Nat.le_mul_of_pos_left _ h3
      _ = n := h1.symm
  exact (Nat.pow_lt_pow_iff_right (by omega)).1 (Nat.lt_of_le_of_lt (Nat.le_trans h4 h5) h)
theorem chN_pos {n : Nat} (hn : 1 ≤ n) : ∀ i, i ≤ 6 → 1 ≤ chN n i ∧ chN n i ≤ n
  | 0, _ => ⟨hn, Nat.le_refl _⟩
  | i + 1, h => by
    obtain ⟨h1, h2⟩ := chN_pos hn i (by omega)
    obtain ⟨h3, h4⟩ := cof_pos (prm_pos (show i < 6 by omega)).1 h1
    exact ⟨h3, Nat.le_trans h4 h2⟩
end Go.Proofs.YtehifkdfbiebfaaDoor
