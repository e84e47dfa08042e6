/- Beat: the reference's Rate, Counts, Band, Rates. -/
import Derived.Test.YthlnfjllkmielaaBeatU
namespace Go.Proofs.Ythlnfjllkmielaa
open Go.RowKit

set_option maxHeartbeats 2000000 in
theorem RRate_c (fn fd gn gd p q : Int) (w : World) : Calls Try.prog 13 #[.agg #[.int .i64 fn, .int .i64 fd], .agg #[.int .i64 gn, .int .i64 gd], .int .i64 p, .int .i64 q] w (Ret (raV fn fd gn gd p q) w) := by
  cases h : raG fn fd gn gd p q
  · have hV : raV fn fd gn gd p q = .tuple #[.agg #[.int .i64 0, .int .i64 0], .int .i64 1] := by simp [raV, h]
    rw [hV]
    clear hV
    unfold raG at h
    have hF1 := fun w => Freq_c fn fd w
    have hF2 := fun w => Freq_c gn gd w
    have hP1 := fun w => Part_c p w
    have hP2 := fun w => Part_c q w
    have hw : sdV fn fd = false ∨ (sdV fn fd = true ∧ sdV gn gd = false) ∨ (sdV fn fd = true ∧ sdV gn gd = true ∧ ptV p = false) ∨ (sdV fn fd = true ∧ sdV gn gd = true ∧ ptV p = true ∧ ptV q = false) := by
      cases h1 : sdV fn fd <;> cases h2 : sdV gn gd <;> cases h3 : ptV p <;> cases h4 : ptV q <;> simp_all
    clear h
    rcases hw with h1 | ⟨h1, h2⟩ | ⟨h1, h2, h3⟩ | ⟨h1, h2, h3, h4⟩
    all_goals
      rw [h1] at hF1
      try rw [h2] at hF2
      try rw [h3] at hP1
      try rw [h4] at hP2
      clear h1
      try clear h2
      try clear h3
      try clear h4
      have HF1 := Lib.hid hF1
      have HF2 := Lib.hid hF2
      have HP1 := Lib.hid hP1
      have HP2 := Lib.hid hP2
      clear hF1 hF2 hP1 hP2
      go_enter Try.func13, Try.ntmps13
      go_wp2_with (first | (go_at_call 29; ((with_reducible refine (HF1.out _).mono ?_); rintro e w' ⟨rfl, hb⟩; obtain ⟨hz, hc, hf⟩ := bcl hb (by first | (simp; rfl) | rfl))) | (go_at_call 29; ((with_reducible refine (HF2.out _).mono ?_); rintro e w' ⟨rfl, hb⟩; obtain ⟨hz, hc, hf⟩ := bcl hb (by first | (simp; rfl) | rfl))) | (go_at_call 40; ((with_reducible refine (HP1.out _).mono ?_); rintro e w' ⟨rfl, rfl⟩)) | (go_at_call 40; ((with_reducible refine (HP2.out _).mono ?_); rintro e w' ⟨rfl, rfl⟩)))
      (refine bodyPost_ret (v := .tuple #[.agg #[.int .i64 0, .int .i64 0], .int .i64 1]) (by simp only [results, Try.results13]; go_simp) rfl ⟨rfl, ?_⟩)
      (repeat (first | (with_reducible exact bl_refl _) | (with_reducible refine bl_drew ?_) | (with_reducible refine bl_alloc ?_ _) | (with_reducible refine bl_set' ?_ ?_; · (first | omega | (simp; done) | (simp; omega))) | (with_reducible refine bl_last (by assumption) ?_) | (with_reducible refine bl_drewN ?_ _)))
  · have hV : raV fn fd gn gd p q = maV rtV (raN fn fd gn gd p q) (fd * gd) := by simp [raV, h]
    rw [hV]
    clear hV
    have h' : (sdV fn fd = true ∧ sdV gn gd = true) ∧ ptV p = true ∧ ptV q = true := by simpa [raG] using h
    obtain ⟨⟨h1, h2⟩, h3, h4⟩ := h'
    clear h
    have hF1 := fun w => Freq_c fn fd w
    have hF2 := fun w => Freq_c gn gd w
    have hP1 := fun w => Part_c p w
    have hP2 := fun w => Part_c q w
    rw [h1] at hF1
    rw [h2] at hF2
    rw [h3] at hP1
    rw [h4] at hP2
    have HF1 := Lib.hid hF1
    have HF2 := Lib.hid hF2
    have HP1 := Lib.hid hP1
    have HP2 := Lib.hid hP2
    obtain ⟨h6, h7⟩ := sd_of h1
    obtain ⟨a1, a2, a3, a4⟩ := rt_of h6
    obtain ⟨h8, h9⟩ := sd_of h2
    obtain ⟨b1, b2, b3, b4⟩ := rt_of h8
    obtain ⟨c1, c2⟩ := pt_of h3
    obtain ⟨d1, d2⟩ := pt_of h4
    obtain ⟨m0, m0'⟩ := mul2_bd (A := 64) (B := 1000000000) (x := p) (y := fn) (by omega) (by omega) (by omega) (by omega)
    obtain ⟨m1, m1'⟩ := mul3_bd (A := 64) (B := 1000000000) (C := 100000000) (x := p) (y := fn) (z := gd) (by omega) (by omega) (by omega) (by omega) (by omega) (by omega)
    obtain ⟨m2, m2'⟩ := mul2_bd (A := 64) (B := 1000000000) (x := q) (y := gn) (by omega) (by omega) (by omega) (by omega)
    obtain ⟨m3, m3'⟩ := mul3_bd (A := 64) (B := 1000000000) (C := 100000000) (x := q) (y := gn) (z := fd) (by omega) (by omega) (by omega) (by omega) (by omega) (by omega)
    obtain ⟨m4, m4'⟩ := mul2_bd (A := 100000000) (B := 100000000) (x := fd) (y := gd) (by omega) (by omega) (by omega) (by omega)
    have q0 : IntKind.i64.wrap (p * fn) = p * fn := by rw [IntKind.wrap_i64]; omega
    have q1 : IntKind.i64.wrap (p * fn * gd) = p * fn * gd := by rw [IntKind.wrap_i64]; omega
    have q2 : IntKind.i64.wrap (q * gn) = q * gn := by rw [IntKind.wrap_i64]; omega
    have q3 : IntKind.i64.wrap (q * gn * fd) = q * gn * fd := by rw [IntKind.wrap_i64]; omega
    have q4 : IntKind.i64.wrap (fd * gd) = fd * gd := by rw [IntKind.wrap_i64]; omega
    have HM := fun w => Rmade_c (raN fn fd gn gd p q) (fd * gd) w (by unfold raN; constructor <;> omega) (by constructor <;> omega)
    obtain ⟨x, y, k, hk⟩ := maV_is rtV (raN fn fd gn gd p q) (fd * gd)
    rw [hk] at HM ⊢
    obtain ⟨z, hz⟩ : ∃ z : Int, z = p * fn * gd - q * gn * fd := ⟨_, rfl⟩
    have q5 : IntKind.i64.wrap (p * fn * gd - q * gn * fd) = z := by rw [hz, IntKind.wrap_i64]; omega
    have q6 : IntKind.i64.wrap (-z) = -z := by rw [hz, IntKind.wrap_i64]; omega
    have e1 : raN fn fd gn gd p q = z.natAbs := by unfold raN; rw [hz]
    rw [e1] at HM
    clear hk hz e1 hF1 hF2 hP1 hP2 h1 h2 h3 h4 h6 h7 h8 h9 m0 m0' m1 m1' m2 m2' m3 m3' m4 m4' a1 a2 a3 a4 b1 b2 b3 b4 c1 c2 d1 d2
    have hw : (z < 0 ∧ z < -z ∧ (z.natAbs : Int) = -z) ∨ (z = 0 ∧ (z.natAbs : Int) = 0) ∨ (0 < z ∧ -z < z ∧ (z.natAbs : Int) = z) := by omega
    have q7 : IntKind.i64.wrap 0 = 0 := by decide
    rcases hw with ⟨g1, g2, g3⟩ | ⟨rfl, g3⟩ | ⟨g1, g2, g3⟩
    all_goals
      try rw [g3] at HM
      try clear g3
      have HM := Lib.hid HM
      go_enter Try.func13, Try.ntmps13
      go_wp2_with (first | (go_at_call 29; ((with_reducible refine (HF1.out _).mono ?_); rintro e w' ⟨rfl, hb⟩; obtain ⟨hz, hc, hf⟩ := bcl hb (by first | (simp; rfl) | rfl))) | (go_at_call 29; ((with_reducible refine (HF2.out _).mono ?_); rintro e w' ⟨rfl, hb⟩; obtain ⟨hz, hc, hf⟩ := bcl hb (by first | (simp; rfl) | rfl))) | (go_at_call 40; ((with_reducible refine (HP1.out _).mono ?_); rintro e w' ⟨rfl, rfl⟩)) | (go_at_call 40; ((with_reducible refine (HP2.out _).mono ?_); rintro e w' ⟨rfl, rfl⟩)) | (go_at_call 41; ((with_reducible refine (HM.out _).mono ?_); rintro e w' ⟨rfl, hb⟩; obtain ⟨hz, hc, hf⟩ := bcl hb (by first | (simp; rfl) | rfl))))
      (refine bodyPost_ret (v := .tuple #[.agg #[.int .i64 x, .int .i64 y], .int .i64 k]) (by simp only [results, Try.results13]; go_simp) rfl ⟨rfl, ?_⟩)
      (repeat (first | (with_reducible exact bl_refl _) | (with_reducible refine bl_drew ?_) | (with_reducible refine bl_alloc ?_ _) | (with_reducible refine bl_set' ?_ ?_; · (first | omega | (simp; done) | (simp; omega))) | (with_reducible refine bl_last (by assumption) ?_) | (with_reducible refine bl_drewN ?_ _)))
theorem up_div {n d : Int} (hn : 0 ≤ n) (hd : 0 < d) : (n % d = 0 ∧ (n + d - 1) / d = n / d) ∨ (n % d ≠ 0 ∧ (n + d - 1) / d = n / d + 1) := by
  have e1 := Int.mul_ediv_add_emod n d
  have e2 := Int.emod_nonneg n (show d ≠ 0 by omega)
  have e3 := Int.emod_lt_of_pos n hd
  by_cases h : n % d = 0
  · refine Or.inl ⟨h, ?_⟩
    have : n + d - 1 = d - 1 + d * (n / d) := by omega
    rw [this, Int.add_mul_ediv_left _ _ (by omega), Int.ediv_eq_zero_of_lt (by omega) (by omega)]
    omega
  · refine Or.inr ⟨h, ?_⟩
    have : n + d - 1 = (n % d - 1) + d * (n / d + 1) := by rw [Int.mul_add]; omega
    rw [this, Int.add_mul_ediv_left _ _ (by omega), Int.ediv_eq_zero_of_lt (by omega) (by omega)]
    omega
set_option maxRecDepth 100000 in
set_option maxHeartbeats 4000000 in
theorem RCounts_c (rn rd tn td : Int) (w : World) : Calls Try.prog 19 #[.agg #[.int .i64 rn, .int .i64 rd], .agg #[.int .i64 tn, .int .i64 td]] w (Ret (coV rn rd tn td) w) := by
  have hF1 := fun w => Rated_c rn rd w
  have hF2 := fun w => Freq_c tn td w
  cases h : coG rn rd tn td
  · rw [coV_bad h]
    unfold coG at h
    rcases vv_false h with h1 | ⟨h1, h2⟩
    all_goals
      rw [h1] at hF1
      try rw [h2] at hF2
      clear h h1
      try clear h2
      have HF1 := Lib.hid hF1
      have HF2 := Lib.hid hF2
      clear hF1 hF2
      go_enter Try.func19, Try.ntmps19
      go_wp2_with (first | (go_at_call 42; ((with_reducible refine (HF1.out _).mono ?_); rintro e w' ⟨rfl, hb⟩; obtain ⟨hz, hc, hf⟩ := bcl hb (by first | (simp; rfl) | rfl))) | (go_at_call 29; ((with_reducible refine (HF2.out _).mono ?_); rintro e w' ⟨rfl, hb⟩; obtain ⟨hz, hc, hf⟩ := bcl hb (by first | (simp; rfl) | rfl))))
      go_ret3
      exact ⟨rfl, by (repeat (first | (with_reducible exact bl_refl _) | (with_reducible refine bl_drew ?_) | (with_reducible refine bl_alloc ?_ _) | (with_reducible refine bl_set' ?_ ?_; · (first | omega | (simp; done) | (simp; omega))) | (with_reducible refine bl_last (by assumption) ?_) | (with_reducible refine bl_drewN ?_ _)))⟩
  · obtain ⟨h1, h2, ⟨m0, m1⟩, m2, m3⟩ := co_facts h
    rw [h1] at hF1
    rw [h2] at hF2
    have HF1 := Lib.hid hF1
    have HF2 := Lib.hid hF2
    clear hF1 hF2 h1 h2
    obtain ⟨n, hn⟩ : ∃ n : Int, n = rn * tn := ⟨_, rfl⟩
    obtain ⟨d, hd0⟩ : ∃ d : Int, d = rd * td := ⟨_, rfl⟩
    have q0 : IntKind.i64.wrap (rn * tn) = n := by rw [hn, IntKind.wrap_i64]; omega
    have q1 : IntKind.i64.wrap (rd * td) = d := by rw [hd0, IntKind.wrap_i64]; omega
    have hL : Hid (coL rn rd tn td = (rn * tn) / (rd * td)) := Lib.hid rfl
    have hM : Hid (coM rn rd tn td = (rn * tn + rd * td - 1) / (rd * td)) := Lib.hid rfl
    have hV : Hid (coV rn rd tn td = if 1000000000 < coM rn rd tn td then .tuple #[.int .i64 0, .int .i64 0, .int .i64 3] else .tuple #[.int .i64 (coL rn rd tn td), .int .i64 (coM rn rd tn td), .int .i64 0]) := Lib.hid (by
      split
      · exact coV_far h (by assumption)
      · exact coV_ok h (by assumption))
    clear h
    generalize coV rn rd tn td = V at *
    generalize coL rn rd tn td = L at *
    generalize coM rn rd tn td = M at *
    rw [← hn] at m0 m1
    rw [← hd0] at m2 m3
    rw [← hn, ← hd0] at hL hM
    clear hn hd0
    have hu := up_div m0 (show 0 < d by omega)
    rw [← hL.out, ← hM.out] at hu
    have t1 : n.tdiv d = L := by rw [hL.out]; exact Int.tdiv_eq_ediv_of_nonneg m0
    have t2 : n.tmod d = n % d := Int.tmod_eq_emod_of_nonneg m0
    have hd : ¬ d = 0 := by omega
    have hL1 : 0 ≤ L ∧ L ≤ n := by rw [hL.out]; exact ⟨Int.ediv_nonneg m0 (by omega), Int.ediv_le_self _ m0⟩
    obtain ⟨l1, l2⟩ := hL1
    have v1 : IntKind.i64.wrap L = L := by rw [IntKind.wrap_i64]; omega
    have v2 : IntKind.i64.wrap (L + 1) = L + 1 := by rw [IntKind.wrap_i64]; omega
    have r1 := Int.emod_nonneg n hd
    have r2 := Int.emod_lt_of_pos n (show 0 < d by omega)
    clear hL hM
    generalize n % d = r at *
    have v3 : IntKind.i64.wrap r = r := by rw [IntKind.wrap_i64]; omega
    rcases hu with ⟨rfl, rfl⟩ | ⟨hr, rfl⟩
    · by_cases hf : 1000000000 < M
      all_goals
        have HV := hV.out
        first | rw [if_pos hf] at HV | rw [if_neg hf] at HV
        rw [HV]
        clear HV hV
        go_enter Try.func19, Try.ntmps19
        go_wp2_with (first | (go_at_call 42; ((with_reducible refine (HF1.out _).mono ?_); rintro e w' ⟨rfl, hb⟩; obtain ⟨hz, hc, hf⟩ := bcl hb (by first | (simp; rfl) | rfl))) | (go_at_call 29; ((with_reducible refine (HF2.out _).mono ?_); rintro e w' ⟨rfl, hb⟩; obtain ⟨hz, hc, hf⟩ := bcl hb (by first | (simp; rfl) | rfl))))
        go_ret3
        exact ⟨rfl, by (repeat (first | (with_reducible exact bl_refl _) | (with_reducible refine bl_drew ?_) | (with_reducible refine bl_alloc ?_ _) | (with_reducible refine bl_set' ?_ ?_; · (first | omega | (simp; done) | (simp; omega))) | (with_reducible refine bl_last (by assumption) ?_) | (with_reducible refine bl_drewN ?_ _)))⟩
    · by_cases hf : 1000000000 < L + 1
      all_goals
        have HV := hV.out
        first | rw [if_pos hf] at HV | rw [if_neg hf] at HV
        rw [HV]
        clear HV hV
        go_enter Try.func19, Try.ntmps19
        go_wp2_with (first | (go_at_call 42; ((with_reducible refine (HF1.out _).mono ?_); rintro e w' ⟨rfl, hb⟩; obtain ⟨hz, hc, hf⟩ := bcl hb (by first | (simp; rfl) | rfl))) | (go_at_call 29; ((with_reducible refine (HF2.out _).mono ?_); rintro e w' ⟨rfl, hb⟩; obtain ⟨hz, hc, hf⟩ := bcl hb (by first | (simp; rfl) | rfl))))
        go_ret3
        exact ⟨rfl, by (repeat (first | (with_reducible exact bl_refl _) | (with_reducible refine bl_drew ?_) | (with_reducible refine bl_alloc ?_ _) | (with_reducible refine bl_set' ?_ ?_; · (first | omega | (simp; done) | (simp; omega))) | (with_reducible refine bl_last (by assumption) ?_) | (with_reducible refine bl_drewN ?_ _)))⟩
end Go.Proofs.Ythlnfjllkmielaa
