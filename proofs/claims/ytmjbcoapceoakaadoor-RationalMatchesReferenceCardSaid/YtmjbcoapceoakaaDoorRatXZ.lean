/- Rational: Near: the program's walk again, with what it picks exactly (printed from RatX). -/
import Derived.Test.YtmjbcoapceoakaaDoorRatZ
import Derived.Test.YtmjbcoapceoakaaDoorRatX
namespace Go.Proofs.YtmjbcoapceoakaaDoor
open Go.RowKit

/-- What Near leaves. -/
def NearQ (aN aD most : Int) (w : World) (e : Ending) (w' : World) : Prop := Below w.heap.size w w' ∧
  ((nrG aN aD most = false ∧ e = .returned (.tuple #[.agg #[.int .i64 0, .int .i64 0], .int .i64 1])) ∨
    (nrG aN aD most = true ∧ ∃ N D : Int, e = .returned (.tuple #[.agg #[.int .i64 N, .int .i64 D], .int .i64 0]) ∧ NearZ aN aD most N D))
set_option maxRecDepth 100000 in
set_option maxHeartbeats 2000000 in
theorem nearz_bad (aN aD most : Int) (w : World) (h : nrG aN aD most = false) : Calls Tryd.prog 14 #[.agg #[.int .i64 aN, .int .i64 aD], .int .i64 most] w (NearQ aN aD most w) := by
  have hmf := hmkf
  have hV := fun w => Valid_c aN aD w
  have hways : vR aN aD = false ∨ (vR aN aD = true ∧ most < 1) ∨ (vR aN aD = true ∧ 1 ≤ most ∧ 1000000000 < most) := by
    unfold nrG at h
    cases hv : vR aN aD
    · exact Or.inl rfl
    · rw [hv, Bool.true_and] at h
      simp at h
      by_cases h1 : most < 1
      · exact Or.inr (Or.inl ⟨rfl, h1⟩)
      · exact Or.inr (Or.inr ⟨rfl, by omega, by omega⟩)
  have HG := Lib.hid h
  clear h
  rcases hways with h | ⟨h, h1⟩ | ⟨h, h1, h2⟩
  all_goals
    rw [h] at hV
    have HV := Lib.hid hV
    clear hV h
    go_enter_defers Tryd.func14, Tryd.ntmps14
    go_wp2_with (first | (go_at_call 13; ((with_reducible refine (HV.out _).mono ?_); rintro e w' ⟨rfl, hb⟩; obtain ⟨hz, hc, hf⟩ := bcl hb (by first | (simp; rfl) | rfl))) | (go_at_call 45; refine (fail_c _ _).mono ?_; rintro e w' ⟨rfl, hb⟩; obtain ⟨hz, hc, hf⟩ := bcl hb (by first | (simp; rfl) | rfl)))
    refine leaves_cons (f := 44) (args := #[.pointer (some ⟨w.heap.size + 1, 0, none⟩), .pointer (some ⟨w.heap.size + 1 + 1, 0, none⟩)]) (by simp) (by simp [go_sem]) ?_
    refine (near1_panic (w.heap.size + 1) (w.heap.size + 1 + 1) 1 [] _ (.int .i64 0) (.int .i64 0) (.int .i64 0) ?_ ?_ ?_ ?_ ?_ ?_ (by omega)).mono ?_
    · go_simp
    · go_simp
    · go_simp
    · go_simp
    · go_simp
    · go_simp
    rintro e u' w'' ⟨rfl, rfl, rfl⟩
    refine ⟨.tuple #[.agg #[.int .i64 0, .int .i64 0], .int .i64 1], ?_, ?_⟩
    · simp only [results, Tryd.results14]
      go_simp
    · refine ⟨?_, Or.inl ⟨HG.out, rfl⟩⟩
      (repeat (first | (with_reducible exact bl_refl _) | (with_reducible refine bl_drew ?_) | (with_reducible refine bl_alloc ?_ _) | (with_reducible refine bl_set' ?_ ?_; · (first | omega | (simp; done) | (simp; omega))) | (with_reducible refine bl_last (by assumption) ?_) | (with_reducible refine bl_drewN ?_ _)))

set_option maxRecDepth 100000 in
set_option maxHeartbeats 4000000 in
theorem NearZ_c (aN aD most : Int) (w : World) : Calls Tryd.prog 14 #[.agg #[.int .i64 aN, .int .i64 aD], .int .i64 most] w (NearQ aN aD most w) := by
  cases hg : nrG aN aD most
  · exact nearz_bad aN aD most w hg
  have hmf := hmkf
  have hg' := hg
  unfold nrG at hg'
  simp only [Bool.and_eq_true, decide_eq_true_eq] at hg'
  obtain ⟨hv, hm1, hm2⟩ := hg'
  obtain ⟨v1, v2, v3, v4, v5⟩ := v_of hv
  have hV := fun w => Valid_c aN aD w
  rw [hv] at hV
  have HV := Lib.hid hV
  have HG := Lib.hid hg
  clear hV hg
  by_cases hle : aD ≤ most
  · have HN := Lib.hid (nearz_self hv hle)
    clear hv v5
    go_enter_defers Tryd.func14, Tryd.ntmps14
    go_wp2_with (go_at_call 13; ((with_reducible refine (HV.out _).mono ?_); rintro e w' ⟨rfl, hb⟩; obtain ⟨hz, hc, hf⟩ := bcl hb (by first | (simp; rfl) | rfl)))
    refine leaves_cons (f := 44) (args := #[.pointer (some ⟨w.heap.size + 1, 0, none⟩), .pointer (some ⟨w.heap.size + 1 + 1, 0, none⟩)]) (by simp) (by simp [go_sem]) ?_
    refine (near1_idle (w.heap.size + 1) (w.heap.size + 1 + 1) _).mono ?_
    rintro e u' w'' ⟨rfl, rfl, rfl⟩
    refine ⟨.tuple #[.agg #[.int .i64 aN, .int .i64 aD], .int .i64 0], ?_, ?_⟩
    · simp only [results, Tryd.results14]
      go_simp
    · refine ⟨?_, Or.inr ⟨HG.out, aN, aD, rfl, HN.out⟩⟩
      (repeat (first | (with_reducible exact bl_refl _) | (with_reducible refine bl_drew ?_) | (with_reducible refine bl_alloc ?_ _) | (with_reducible refine bl_set' ?_ ?_; · (first | omega | (simp; done) | (simp; omega))) | (with_reducible refine bl_last (by assumption) ?_) | (with_reducible refine bl_drewN ?_ _)))
  have hlt : most < aD := by omega
  have hA : (aN.natAbs : Int) ≤ 1000000000 := by omega
  have HC := Lib.hid (fun p q p1 q1 n d (h : ConvZ aN aD most p q p1 q1 n d) => conv_bd h.1 hlt hm1 hA v2)
  have HS := Lib.hid (fun p q p1 q1 n d (h : ConvZ aN aD most p q p1 q1 n d) => convz_step h v5 hlt)
  have HE := Lib.hid (fun p q p1 q1 n d (h : ConvZ aN aD most p q p1 q1 n d) hk => conv_end h.1 hlt hk hm1)
  have HF := Lib.hid (fun p q p1 q1 n d (h : ConvZ aN aD most p q p1 q1 n d) hk hc => nearz_first h hlt hk hm1 hA v2 hc)
  have HL := Lib.hid (fun p q p1 q1 n d (h : ConvZ aN aD most p q p1 q1 n d) hk hc => nearz_second h hlt hk hm1 hA v2 hc)
  have H0 := Lib.hid (convz_start (aN := aN) (aD := aD) (most := most) (by omega) hm1)
  have HA := Lib.hid hA
  clear hv v5 hA
  go_enter_defers Tryd.func14, Tryd.ntmps14
  go_wp2_with (go_at_call 13; ((with_reducible refine (HV.out _).mono ?_); rintro e w' ⟨rfl, hb⟩; obtain ⟨hz, hc, hf⟩ := bcl hb (by first | (simp; rfl) | rfl)))
  go_quiet (fail)
  go_wp2
  go_loop [6, 7, 8, 9, 10, 11] (fun a b c d n m => ∃ p q p1 q1 x y : Int, a = .int .i64 p ∧ b = .int .i64 q ∧ c = .int .i64 p1 ∧ d = .int .i64 q1 ∧ n = .int .i64 x ∧ m = .int .i64 y ∧ Hid (ConvZ aN aD most p q p1 q1 x y)) (fun _ _ _ _ _ m => (intOf m).toNat)
  case atStart => exact ⟨0, 1, 1, 0, aN, aD, rfl, rfl, rfl, rfl, rfl, rfl, H0⟩
  case round =>
    obtain ⟨p, q, p1, q1, x, y, rfl, rfl, rfl, rfl, rfl, rfl, HI⟩ := hrel
    obtain ⟨⟨b1, b2, b3, b4, b5, b6⟩, ⟨c1, c2⟩, ⟨d1, d2, d3, d4⟩, ⟨e1, e2⟩, ⟨f1, f2⟩, g1, g2⟩ := HC.out _ _ _ _ _ _ HI.out
    have i6 := HI.out.1.qm
    have i7 := HI.out.1.q1m
    have HFl := Lib.hid (fun w => floor_c x y w (by omega) (by omega) (by omega) (by omega))
    by_cases hk : q + x / y * q1 ≤ most
    · have hst := HS.out _ _ _ _ _ _ HI.out hk
      have hlt2 := hst.2
      have HST := Lib.hid hst.1
      have hy0 : 0 < x - x / y * y := hst.1.1.d0
      clear hst
      generalize x / y = k at *
      go_wp2_with (go_at_call 46; ((with_reducible refine (HFl.out _).mono ?_); rintro e w' ⟨rfl, rfl⟩))
      go_round
      case rel => exact ⟨p1, q1, p + k * p1, q + k * q1, y, x - k * y, rfl, rfl, rfl, rfl, rfl, rfl, HST⟩
      case measure => simp [intOf]; omega
    · have hk' : most < q + x / y * q1 := by omega
      obtain ⟨t1, t2, t3, t4, t5, t6, t7, t8, t9, t10, s, s1, s2, s3, s4, s5⟩ := HE.out _ _ _ _ _ _ HI.out hk'
      have hN1 := HF.out _ _ _ _ _ _ HI.out hk'
      have hN2 := HL.out _ _ _ _ _ _ HI.out hk'
      have q3 : (most - q).tdiv q1 = (most - q) / q1 := Int.tdiv_eq_ediv_of_nonneg (by omega)
      have hq1 : ¬ q1 = 0 := by omega
      have hd2 := HI.out.1.d0
      clear g1 g2
      generalize x / y = k at *
      generalize (most - q) / q1 = k2 at *
      have hX : x - k2 * y ≤ 1000000000 := by omega
      have hP2 : ((p + k2 * p1).natAbs : Int) ≤ 1000000000 := num_le (aN := aN) (aD := aD) (Q := q + k2 * q1) (e := -(s * (x - k2 * y))) (by omega) (by omega) (by omega) (by omega) (by rcases s1 with rfl | rfl <;> omega) HA.out v2
      obtain ⟨z1, z2⟩ := mul_bdA (A := 1000000000) (B := 1000000000) (show -1000000000 ≤ k2 by omega) (show k2 ≤ 1000000000 by omega) d3 d4 (by omega)
      have z3 : 0 ≤ k2 * q1 := Int.mul_nonneg t7 (by omega)
      have A1 : ∀ w, Calls Tryd.prog 43 #[.int .i64 (p1 * aD - aN * q1)] w (RetS (.int .u64 y) w) := fun w => by
        have h := abs_c (p1 * aD - aN * q1) w (by rw [s2]; rcases s1 with rfl | rfl <;> omega) (by rw [s2]; rcases s1 with rfl | rfl <;> omega)
        have e : (absF (p1 * aD - aN * q1) : Int) = y := by rw [s2]; unfold absF; rcases s1 with rfl | rfl <;> omega
        rw [e] at h
        exact h
      have A2 : ∀ w, Calls Tryd.prog 43 #[.int .i64 ((p + k2 * p1) * aD - aN * (q + k2 * q1))] w (RetS (.int .u64 (x - k2 * y)) w) := fun w => by
        have h := abs_c ((p + k2 * p1) * aD - aN * (q + k2 * q1)) w (by rw [s3]; rcases s1 with rfl | rfl <;> omega) (by rw [s3]; rcases s1 with rfl | rfl <;> omega)
        have e : (absF ((p + k2 * p1) * aD - aN * (q + k2 * q1)) : Int) = x - k2 * y := by rw [s3]; unfold absF; rcases s1 with rfl | rfl <;> omega
        rw [e] at h
        exact h
      have s3' : -1000000000 ≤ (p + k2 * p1) * aD - aN * (q + k2 * q1) ∧ (p + k2 * p1) * aD - aN * (q + k2 * q1) ≤ 1000000000 := by rw [s3]; rcases s1 with rfl | rfl <;> omega
      have s2' : -1000000000 ≤ p1 * aD - aN * q1 ∧ p1 * aD - aN * q1 ≤ 1000000000 := by rw [s2]; rcases s1 with rfl | rfl <;> omega
      have w1 := mul_bdA (A := 1000000000) (B := 1000000000) d3 d4 (show -1000000000 ≤ aD by omega) v2 (by omega)
      have w2 := mul_bdA (A := 1000000000) (B := 1000000000) v3 v4 (show -1000000000 ≤ q1 by omega) (show q1 ≤ 1000000000 by omega) (by omega)
      have w3 := mul_bdA (A := 1000000000) (B := 1000000000) (show -1000000000 ≤ p + k2 * p1 by omega) (show p + k2 * p1 ≤ 1000000000 by omega) (show -1000000000 ≤ aD by omega) v2 (by omega)
      have w4 := mul_bdA (A := 1000000000) (B := 1000000000) v3 v4 (show -1000000000 ≤ q + k2 * q1 by omega) (show q + k2 * q1 ≤ 1000000000 by omega) (by omega)
      have w5 := mul_bdA (A := 1000000000) (B := 1000000000) (show -1000000000 ≤ y by omega) b2 (show -1000000000 ≤ q + k2 * q1 by omega) (show q + k2 * q1 ≤ 1000000000 by omega) (by omega)
      have w6 := mul_bdA (A := 1000000000) (B := 1000000000) (show -1000000000 ≤ x - k2 * y by omega) hX (show -1000000000 ≤ q1 by omega) (show q1 ≤ 1000000000 by omega) (by omega)
      have w5' : 0 ≤ y * (q + k2 * q1) := Int.mul_nonneg (by omega) (by omega)
      have w6' : 0 ≤ (x - k2 * y) * q1 := Int.mul_nonneg (by omega) (by omega)
      clear s2 s3 s4 s5 s1 HC HS HE HF HL H0 HI
      have u1 : IntKind.i64.wrap (p1 * aD) = p1 * aD := by rw [IntKind.wrap_i64]; omega
      have u2 : IntKind.i64.wrap (aN * q1) = aN * q1 := by rw [IntKind.wrap_i64]; omega
      have u3 : IntKind.i64.wrap (p1 * aD - aN * q1) = p1 * aD - aN * q1 := by rw [IntKind.wrap_i64]; omega
      have u4 : IntKind.i64.wrap ((p + k2 * p1) * aD) = (p + k2 * p1) * aD := by rw [IntKind.wrap_i64]; omega
      have u5 : IntKind.i64.wrap (aN * (q + k2 * q1)) = aN * (q + k2 * q1) := by rw [IntKind.wrap_i64]; omega
      have u6 : IntKind.i64.wrap ((p + k2 * p1) * aD - aN * (q + k2 * q1)) = (p + k2 * p1) * aD - aN * (q + k2 * q1) := by rw [IntKind.wrap_i64]; omega
      have u7 : IntKind.u64.wrap (q + k2 * q1) = q + k2 * q1 := by rw [IntKind.wrap_u64]; omega
      have u8 : IntKind.u64.wrap (y * (q + k2 * q1)) = y * (q + k2 * q1) := by rw [IntKind.wrap_u64]; omega
      have u9 : IntKind.u64.wrap q1 = q1 := by rw [IntKind.wrap_u64]; omega
      have u10 : IntKind.u64.wrap ((x - k2 * y) * q1) = (x - k2 * y) * q1 := by rw [IntKind.wrap_u64]; omega
      have HA1 := Lib.hid A1
      have HA2 := Lib.hid A2
      clear A1 A2 w1 w2 w3 w4 w5 w6 w5' w6' s2' s3'
      have HN1 := Lib.hid hN1
      have HN2 := Lib.hid hN2
      clear hN1 hN2
      by_cases hcmp : y * (q + k2 * q1) ≤ (x - k2 * y) * q1
      · have hcd : decide (y * (q + k2 * q1) ≤ (x - k2 * y) * q1) = true := decide_eq_true hcmp
        have HN := Lib.hid (HN1.out hcmp)
        have HR := Lib.hid (fun w => reduced_v HN.out.1.1 w)
        go_wp2_with (go_at_call 46; ((with_reducible refine (HFl.out _).mono ?_); rintro e w' ⟨rfl, rfl⟩))
        (refine wp_region_bl [0,1,2,3,4,5,6,7,8,9,10,11,12,13,14,15,16,17,18,19,20,21,22,23,24,25,26] [] (by kernel_rfl) (by kernel_rfl) (by rfl) ?_
         simp only [pickI, pick, List.getElem?_cons_succ, List.getElem?_cons_zero]
         iterate 27 (first
           | (refine head_val (by rfl) (by rfl) ?_
              apply Exists.intro
              refine ⟨fun X hX => ?_, ?_⟩
              · (obtain ⟨qz, qc, qf⟩ := bcl hX.out (by first | (simp; rfl) | rfl)
                 go_simp
                 first | done | (go_at_call 43; ((with_reducible refine (HA1.out _).mono ?_); rintro e w2 ⟨rfl, rfl⟩; exact ⟨rfl, hX⟩)) | (go_at_call 43; ((with_reducible refine (HA2.out _).mono ?_); rintro e w2 ⟨rfl, rfl⟩; exact ⟨rfl, hX⟩)) | rfl | exact ⟨rfl, rfl⟩)
              simp only [Act.put, List.setIfInBounds_toArray, List.set_cons_zero, List.set_cons_succ])
           | (refine head_pass (by rfl) ?_
              simp only [Act.put, List.setIfInBounds_toArray, List.set_cons_zero, List.set_cons_succ]))
         refine head_nil ?_
         intro w' hw'
         have hb := hw'.out
         clear hw'
         obtain ⟨hz, hc, hf⟩ := bcl hb (by first | (simp; rfl) | rfl))
        go_wp2_with (go_at_call 41; ((with_reducible refine (HR.out _).mono ?_); rintro e w' ⟨rfl, hb⟩; obtain ⟨hz, hc, hf⟩ := bcl hb (by first | (simp; rfl) | rfl)))
        refine leaves_cons (f := 44) (args := #[.pointer (some ⟨w.heap.size + 1, 0, none⟩), .pointer (some ⟨w.heap.size + 1 + 1, 0, none⟩)]) (by simp) (by simp [go_sem]) ?_
        refine (near1_idle (w.heap.size + 1) (w.heap.size + 1 + 1) _).mono ?_
        rintro e u' w'' ⟨rfl, rfl, rfl⟩
        refine ⟨.tuple #[.agg #[.int .i64 p1, .int .i64 q1], .int .i64 0], ?_, ?_⟩
        · simp only [results, Tryd.results14]
          go_simp
        · refine ⟨?_, Or.inr ⟨HG.out, p1, q1, rfl, HN.out⟩⟩
          (repeat (first | (with_reducible exact bl_refl _) | (with_reducible refine bl_drew ?_) | (with_reducible refine bl_alloc ?_ _) | (with_reducible refine bl_set' ?_ ?_; · (first | omega | (simp; done) | (simp; omega))) | (with_reducible refine bl_last (by assumption) ?_) | (with_reducible refine bl_drewN ?_ _)))
      · have hcd : decide (y * (q + k2 * q1) ≤ (x - k2 * y) * q1) = false := decide_eq_false hcmp
        have HN := Lib.hid (HN2.out (by omega))
        have HR := Lib.hid (fun w => reduced_v HN.out.1.1 w)
        go_wp2_with (go_at_call 46; ((with_reducible refine (HFl.out _).mono ?_); rintro e w' ⟨rfl, rfl⟩))
        (refine wp_region_bl [0,1,2,3,4,5,6,7,8,9,10,11,12,13,14,15,16,17,18,19,20,21,22,23,24,25,26] [] (by kernel_rfl) (by kernel_rfl) (by rfl) ?_
         simp only [pickI, pick, List.getElem?_cons_succ, List.getElem?_cons_zero]
         iterate 27 (first
           | (refine head_val (by rfl) (by rfl) ?_
              apply Exists.intro
              refine ⟨fun X hX => ?_, ?_⟩
              · (obtain ⟨qz, qc, qf⟩ := bcl hX.out (by first | (simp; rfl) | rfl)
                 go_simp
                 first | done | (go_at_call 43; ((with_reducible refine (HA1.out _).mono ?_); rintro e w2 ⟨rfl, rfl⟩; exact ⟨rfl, hX⟩)) | (go_at_call 43; ((with_reducible refine (HA2.out _).mono ?_); rintro e w2 ⟨rfl, rfl⟩; exact ⟨rfl, hX⟩)) | rfl | exact ⟨rfl, rfl⟩)
              simp only [Act.put, List.setIfInBounds_toArray, List.set_cons_zero, List.set_cons_succ])
           | (refine head_pass (by rfl) ?_
              simp only [Act.put, List.setIfInBounds_toArray, List.set_cons_zero, List.set_cons_succ]))
         refine head_nil ?_
         intro w' hw'
         have hb := hw'.out
         clear hw'
         obtain ⟨hz, hc, hf⟩ := bcl hb (by first | (simp; rfl) | rfl))
        go_wp2_with (go_at_call 41; ((with_reducible refine (HR.out _).mono ?_); rintro e w' ⟨rfl, hb⟩; obtain ⟨hz, hc, hf⟩ := bcl hb (by first | (simp; rfl) | rfl)))
        refine leaves_cons (f := 44) (args := #[.pointer (some ⟨w.heap.size + 1, 0, none⟩), .pointer (some ⟨w.heap.size + 1 + 1, 0, none⟩)]) (by simp) (by simp [go_sem]) ?_
        refine (near1_idle (w.heap.size + 1) (w.heap.size + 1 + 1) _).mono ?_
        rintro e u' w'' ⟨rfl, rfl, rfl⟩
        refine ⟨.tuple #[.agg #[.int .i64 (p + k2 * p1), .int .i64 (q + k2 * q1)], .int .i64 0], ?_, ?_⟩
        · simp only [results, Tryd.results14]
          go_simp
        · refine ⟨?_, Or.inr ⟨HG.out, p + k2 * p1, q + k2 * q1, rfl, HN.out⟩⟩
          (repeat (first | (with_reducible exact bl_refl _) | (with_reducible refine bl_drew ?_) | (with_reducible refine bl_alloc ?_ _) | (with_reducible refine bl_set' ?_ ?_; · (first | omega | (simp; done) | (simp; omega))) | (with_reducible refine bl_last (by assumption) ?_) | (with_reducible refine bl_drewN ?_ _)))
end Go.Proofs.YtmjbcoapceoakaaDoor
