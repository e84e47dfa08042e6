/- Beat: the reference's Prime and Pair. -/
import Derived.Test.YthlnfjllkmielaaBeatW
namespace Go.Proofs.Ythlnfjllkmielaa
open Go.RowKit

theorem RPrime_c (i : Nat) (h : i < 6) (w : World) : Calls Try.prog 45 #[.int .i64 (i : Int)] w (RetS (.int .i64 (prm i : Int)) w) := by
  rcases lt6 h with rfl | rfl | rfl | rfl | rfl | rfl
  all_goals
    simp only [prm]
    go_enter Try.func45, Try.ntmps45
    go_wp2
    go_ret
    exact ⟨rfl, rfl⟩
theorem pwF_toNat (b : Nat) (x : Int) : pwF b x = b ^ x.toNat := by
  unfold pwF
  split
  · rfl
  · rw [show x.toNat = 0 by omega, Nat.pow_zero]
theorem cap_step (x p : Nat) (hp : 1 ≤ p) : min (min x 65 * p) 65 = min (x * p) 65 := by
  rcases Nat.lt_or_ge x 65 with h | h
  · rw [show min x 65 = x by omega]
  · rw [show min x 65 = 65 by omega]
    have h1 : 65 ≤ 65 * p := Nat.le_mul_of_pos_right _ hp
    have h2 : 65 ≤ x * p := Nat.le_trans h (Nat.le_mul_of_pos_right _ hp)
    omega
set_option maxRecDepth 100000 in
set_option maxHeartbeats 8000000 in
theorem RPair_c (a b c d e f : Int) (w : World) : Calls Try.prog 17 #[.agg #[.int .i64 a, .int .i64 b, .int .i64 c, .int .i64 d, .int .i64 e, .int .i64 f]] w (Ret (paV a b c d e f) w) := by
  have hI := fun w => RPInt_c a b c d e f w
  cases hp : pV a b c d e f 48
  · rw [hp] at hI
    have HI := Lib.hid hI
    have hV : paV a b c d e f = .tuple #[.int .i64 0, .int .i64 0, .int .i64 1] := by simp [paV, paK, paO, hp]
    rw [hV]
    clear hV hp hI
    go_enter Try.func17, Try.ntmps17
    go_wp2_with (go_at_call 44; ((with_reducible refine (HI.out _).mono ?_); rintro e w' ⟨rfl, hb⟩; obtain ⟨hz, hc, hf⟩ := bcl hb (by first | (simp; rfl) | rfl)))
    go_ret3
    exact ⟨rfl, by (repeat (first | (with_reducible exact bl_refl _) | (with_reducible refine bl_drew ?_) | (with_reducible refine bl_alloc ?_ _) | (with_reducible refine bl_set' ?_ ?_; · (first | omega | (simp; done) | (simp; omega))) | (with_reducible refine bl_last (by assumption) ?_) | (with_reducible refine bl_drewN ?_ _)))⟩
  · rw [hp] at hI
    have HI := Lib.hid hI
    have HX := Lib.hid (fun i (hi : i < 6) => pex_bd hp hi)
    have HUs := Lib.hid (paU_step a b c d e f)
    have HDs := Lib.hid (paD_step a b c d e f)
    have hV : paV a b c d e f = if 64 < paU a b c d e f 6 ∨ 64 < paD a b c d e f 6 then .tuple #[.int .i64 0, .int .i64 0, .int .i64 3] else .tuple #[.int .i64 (paU a b c d e f 6), .int .i64 (paD a b c d e f 6), .int .i64 0] := by
      split
      · rename_i h
        have : paO a b c d e f = false := by
          unfold paO
          rw [hp, Bool.true_and]
          rcases h with h | h
          · rw [decide_eq_false (by omega), Bool.false_and]
          · rw [decide_eq_false (p := paD a b c d e f 6 ≤ 64) (by omega), Bool.and_false]
        simp [paV, paK, this, hp]
      · rename_i h
        have : paO a b c d e f = true := by
          unfold paO
          rw [hp, Bool.true_and, decide_eq_true (p := paU a b c d e f 6 ≤ 64) (by omega), decide_eq_true (p := paD a b c d e f 6 ≤ 64) (by omega)]
          rfl
        simp [paV, paK, this]
    have HV := Lib.hid hV
    have HU0 : Hid (paU a b c d e f 0 = 1) := Lib.hid rfl
    have HD0 : Hid (paD a b c d e f 0 = 1) := Lib.hid rfl
    generalize paV a b c d e f = V at *
    generalize paU a b c d e f = U at *
    generalize paD a b c d e f = D at *
    clear hp hI hV
    go_enter Try.func17, Try.ntmps17
    go_wp2_with (go_at_call 44; ((with_reducible refine (HI.out _).mono ?_); rintro e w' ⟨rfl, hb⟩; obtain ⟨hz, hc, hf⟩ := bcl hb (by first | (simp; rfl) | rfl)))
    have z0 : w.heap.size < w'.heap.size := by omega
    have HB : Hid (Blk w' w.heap.size 25 #[.int .i64 a, .int .i64 b, .int .i64 c, .int .i64 d, .int .i64 e, .int .i64 f]) := Lib.hid ((Blk.new w _ _).below hb (by simp))
    have HBel : Hid (Below w.heap.size w w') := Lib.hid (by (repeat (first | (with_reducible exact bl_refl _) | (with_reducible refine bl_drew ?_) | (with_reducible refine bl_alloc ?_ _) | (with_reducible refine bl_set' ?_ ?_; · (first | omega | (simp; done) | (simp; omega))) | (with_reducible refine bl_last (by assumption) ?_) | (with_reducible refine bl_drewN ?_ _))))
    clear hc hf hb
    go_loop [6, 7, 8] (fun n k i => ∃ s t j : Nat, j ≤ 6 ∧ n = .int .i64 (s : Int) ∧ k = .int .i64 (t : Int) ∧ i = .int .i64 (j : Int) ∧ Hid (s = min (U j) 65 ∧ t = min (D j) 65)) (fun _ _ i => 6 - (intOf i).toNat)
    case atStart => exact ⟨1, 1, 0, by omega, rfl, rfl, rfl, Lib.hid (by rw [HU0.out, HD0.out]; decide)⟩
    case round =>
      obtain ⟨s, t, j, hj, rfl, rfl, rfl, HS⟩ := hrel
      by_cases hlt : j < 6
      · have HP := Lib.hid (fun w => RPrime_c j hlt w)
        have hv := vec_at HB.out hlt
        obtain ⟨x1, x2⟩ := HX.out j hlt
        obtain ⟨pp, hpr⟩ := prm_pos hlt
        have hUj : Hid (U (j + 1) = U j * prm j ^ (pex a b c d e f j).toNat) := Lib.hid (by rw [HUs.out j, pwF_toNat])
        have hDj : Hid (D (j + 1) = D j * prm j ^ (-pex a b c d e f j).toNat) := Lib.hid (by rw [HDs.out j, pwF_toNat])
        generalize pex a b c d e f j = x at *
        generalize prm j = P at *
        obtain ⟨m1, hm1⟩ : ∃ m : Nat, m = x.toNat := ⟨_, rfl⟩
        obtain ⟨m2, hm2⟩ : ∃ m : Nat, m = (-x).toNat := ⟨_, rfl⟩
        have q0 : IntKind.i64.wrap (-x) = -x := by rw [IntKind.wrap_i64]; omega
        go_wp2
        go_loop [6, 9] (fun n k => ∃ u r : Nat, r ≤ m1 ∧ n = .int .i64 (u : Int) ∧ k = .int .i64 (r : Int) ∧ Hid (u = min (U j * P ^ r) 65)) (fun _ k => m1 - (intOf k).toNat)
        case atStart => exact ⟨s, 0, by omega, rfl, rfl, Lib.hid (by rw [Nat.pow_zero, Nat.mul_one]; exact HS.out.1)⟩
        case round =>
          obtain ⟨u, r, hr, rfl, rfl, HU⟩ := hrel
          by_cases hlr : r < m1
          · have hu : u ≤ 65 := by have := HU.out; omega
            have hx : (r : Int) < x := by omega
            have w1 : IntKind.i64.wrap ((r : Int) + 1) = ((r + 1 : Nat) : Int) := by rw [IntKind.wrap_i64]; omega
            obtain ⟨T, hT⟩ : ∃ T : Nat, T = u * P := ⟨_, rfl⟩
            have hT2 : T ≤ 65 * 13 := by rw [hT]; exact Nat.mul_le_mul hu hpr
            have w2 : IntKind.i64.wrap ((u : Int) * (P : Int)) = (T : Int) := by rw [hT, IntKind.wrap_i64, ← Int.natCast_mul]; rw [hT] at hT2; omega
            have HN : Hid (min T 65 = min (U j * P ^ (r + 1)) 65) := Lib.hid (by
              rw [hT, HU.out, cap_step _ _ (by omega), Nat.pow_succ, Nat.mul_assoc])
            clear hT hu hlr hT2
            have hw : ((T : Int) < 65) ∨ T = 65 ∨ (65 < (T : Int)) := by omega
            rcases hw with g | rfl | g
            · go_wp2_with (go_at_call 45; ((with_reducible refine (HP.out _).mono ?_); rintro e w' ⟨rfl, rfl⟩))
              go_round
              case rel => exact ⟨T, r + 1, by omega, by go_num, by go_num, Lib.hid (by rw [← HN.out]; omega)⟩
              case measure => simp [intOf]; omega
            · go_wp2_with (go_at_call 45; ((with_reducible refine (HP.out _).mono ?_); rintro e w' ⟨rfl, rfl⟩))
              go_round
              case rel => exact ⟨65, r + 1, by omega, by go_num, by go_num, Lib.hid (by rw [← HN.out]; omega)⟩
              case measure => simp [intOf]; omega
            · go_wp2_with (go_at_call 45; ((with_reducible refine (HP.out _).mono ?_); rintro e w' ⟨rfl, rfl⟩))
              go_round
              case rel => exact ⟨65, r + 1, by omega, by go_num, by go_num, Lib.hid (by rw [← HN.out]; omega)⟩
              case measure => simp [intOf]; omega
          · have hre : r = m1 := by omega
            have hx : ¬ (r : Int) < x ∧ True := ⟨by omega, trivial⟩
            obtain ⟨hx, _⟩ := hx
            have HU1 : Hid (u = min (U (j + 1)) 65) := Lib.hid (by rw [HU.out, hUj.out, hre, hm1])
            clear hre hlr HU
            go_wp2
            go_loop [7, 10] (fun n k => ∃ v r : Nat, r ≤ m2 ∧ n = .int .i64 (v : Int) ∧ k = .int .i64 (r : Int) ∧ Hid (v = min (D j * P ^ r) 65)) (fun _ k => m2 - (intOf k).toNat)
            case atStart => exact ⟨t, 0, by omega, rfl, rfl, Lib.hid (by rw [Nat.pow_zero, Nat.mul_one]; exact HS.out.2)⟩
            case round =>
              clear hx hr
              obtain ⟨v, r, hr, rfl, rfl, HU⟩ := hrel
              by_cases hlr : r < m2
              · have hu : v ≤ 65 := by have := HU.out; omega
                have hx : (r : Int) < -x := by omega
                have w1 : IntKind.i64.wrap ((r : Int) + 1) = ((r + 1 : Nat) : Int) := by rw [IntKind.wrap_i64]; omega
                obtain ⟨T, hT⟩ : ∃ T : Nat, T = v * P := ⟨_, rfl⟩
                have hT2 : T ≤ 65 * 13 := by rw [hT]; exact Nat.mul_le_mul hu hpr
                have w2 : IntKind.i64.wrap ((v : Int) * (P : Int)) = (T : Int) := by rw [hT, IntKind.wrap_i64, ← Int.natCast_mul]; rw [hT] at hT2; omega
                have HN : Hid (min T 65 = min (D j * P ^ (r + 1)) 65) := Lib.hid (by
                  rw [hT, HU.out, cap_step _ _ (by omega), Nat.pow_succ, Nat.mul_assoc])
                clear hT hu hlr hT2
                have hw : ((T : Int) < 65) ∨ T = 65 ∨ (65 < (T : Int)) := by omega
                rcases hw with g | rfl | g
                · go_wp2_with (go_at_call 45; ((with_reducible refine (HP.out _).mono ?_); rintro e w' ⟨rfl, rfl⟩))
                  go_round
                  case rel => exact ⟨T, r + 1, by omega, by go_num, by go_num, Lib.hid (by rw [← HN.out]; omega)⟩
                  case measure => simp [intOf]; omega
                · go_wp2_with (go_at_call 45; ((with_reducible refine (HP.out _).mono ?_); rintro e w' ⟨rfl, rfl⟩))
                  go_round
                  case rel => exact ⟨65, r + 1, by omega, by go_num, by go_num, Lib.hid (by rw [← HN.out]; omega)⟩
                  case measure => simp [intOf]; omega
                · go_wp2_with (go_at_call 45; ((with_reducible refine (HP.out _).mono ?_); rintro e w' ⟨rfl, rfl⟩))
                  go_round
                  case rel => exact ⟨65, r + 1, by omega, by go_num, by go_num, Lib.hid (by rw [← HN.out]; omega)⟩
                  case measure => simp [intOf]; omega

              · have hre : r = m2 := by omega
                have hx : ¬ (r : Int) < -x := by omega
                have HU2 : Hid (v = min (D (j + 1)) 65) := Lib.hid (by rw [HU.out, hDj.out, hre, hm2])
                have w1 : IntKind.i64.wrap ((j : Int) + 1) = ((j + 1 : Nat) : Int) := by rw [IntKind.wrap_i64]; omega
                clear hre hlr HU
                go_wp2
                go_round
                case rel => exact ⟨u, v, j + 1, by omega, by go_num, by go_num, by go_num, Lib.hid ⟨HU1.out, HU2.out⟩⟩
                case measure => simp [intOf]; omega
      · have hj6 : j = 6 := by omega
        subst hj6
        have hS := HS.out
        have hVV := HV.out
        by_cases g1 : 64 < U 6
        · have s1 : s = 65 := by omega
          rw [if_pos (Or.inl g1)] at hVV
          have HVV := Lib.hid hVV
          clear hVV hS HS g1 HV
          subst s1
          go_wp2
          go_ret3
          exact ⟨congrArg Ending.returned HVV.out.symm, HBel.out⟩
        · by_cases g2 : 64 < D 6
          · have t1 : t = 65 := by omega
            have s1 : ¬ 64 < (s : Int) := by omega
            rw [if_pos (Or.inr g2)] at hVV
            have HVV := Lib.hid hVV
            clear hVV hS HS g1 g2 HV
            subst t1
            go_wp2
            go_ret3
            exact ⟨congrArg Ending.returned HVV.out.symm, HBel.out⟩
          · have s1 : ¬ 64 < (s : Int) := by omega
            have t1 : ¬ 64 < (t : Int) := by omega
            rw [if_neg (by omega), ← show s = U 6 by omega, ← show t = D 6 by omega] at hVV
            have HVV := Lib.hid hVV
            clear hVV hS HS g1 g2 HV
            go_wp2
            go_ret3
            exact ⟨congrArg Ending.returned HVV.out.symm, HBel.out⟩
end Go.Proofs.Ythlnfjllkmielaa
