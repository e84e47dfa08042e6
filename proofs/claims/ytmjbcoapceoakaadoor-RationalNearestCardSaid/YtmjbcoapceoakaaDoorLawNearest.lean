/- RationalNearest: the walk of the law. -/
import Derived.Test.YtmjbcoapceoakaaDoorRatX
import Derived.Test.YtmjbcoapceoakaaDoorRatU
import Derived.Deep.Cut
namespace Go.Proofs.YtmjbcoapceoakaaDoor
open Go.RowKit

def smB (n d : Int) : Bool := decide (-1000000 ≤ n) && (decide (n ≤ 1000000) && decide (d ≤ 1000000))
theorem smB_ways (n d : Int) : (smB n d = false ∧ n < -1000000) ∨ (smB n d = false ∧ -1000000 ≤ n ∧ 1000000 < n) ∨ (-1000000 ≤ n ∧ n ≤ 1000000 ∧ decide (d ≤ 1000000) = smB n d) := by
  unfold smB
  by_cases h1 : -1000000 ≤ n
  · by_cases h2 : n ≤ 1000000
    · exact Or.inr (Or.inr ⟨h1, h2, by rw [decide_eq_true h1, decide_eq_true h2]; rfl⟩)
    · exact Or.inr (Or.inl ⟨by rw [decide_eq_false h2, Bool.false_and, Bool.and_false], h1, by omega⟩)
  · exact Or.inl ⟨by rw [decide_eq_false h1, Bool.false_and], by omega⟩
theorem smB_of {n d : Int} (h : smB n d = true) : -1000000 ≤ n ∧ n ≤ 1000000 ∧ d ≤ 1000000 := by
  unfold smB at h
  simpa [and_assoc] using h
theorem smB_mk {n d : Int} (h1 : -1000000 ≤ n) (h2 : n ≤ 1000000) (h3 : d ≤ 1000000) : smB n d = true := by
  unfold smB
  rw [decide_eq_true h1, decide_eq_true h2, decide_eq_true h3]
  rfl
set_option maxHeartbeats 1000000 in
theorem small_c (n d : Int) (w : World) : Calls Tryd.prog 15 #[.agg #[.int .i64 n, .int .i64 d]] w (Ret (.bool (smB n d)) w) := by
  have hw := smB_ways n d
  generalize smB n d = s at *
  rcases hw with ⟨rfl, h1⟩ | ⟨rfl, h1, h2⟩ | ⟨h1, h2, h3⟩
  all_goals
    go_enter Tryd.func15, Tryd.ntmps15
    go_wp2
    go_ret
    refine ⟨rfl, ?_⟩
    (repeat (first | (with_reducible exact bl_refl _) | (with_reducible refine bl_drew ?_) | (with_reducible refine bl_alloc ?_ _) | (with_reducible refine bl_set' ?_ ?_; · (first | omega | (simp; done) | (simp; omega))) | (with_reducible refine bl_last (by assumption) ?_) | (with_reducible refine bl_drewN ?_ _)))
set_option maxHeartbeats 1000000 in
theorem gap_c (an ad bn bd : Int) (w : World) (h1 : -1000000000000000000 ≤ an * bd) (h2 : an * bd ≤ 1000000000000000000) (h3 : -1000000000000000000 ≤ bn * ad) (h4 : bn * ad ≤ 1000000000000000000) :
    Calls Tryd.prog 16 #[.agg #[.int .i64 an, .int .i64 ad], .agg #[.int .i64 bn, .int .i64 bd]] w (Ret (.int .i64 ((an * bd - bn * ad).natAbs : Int)) w) := by
  have u1 : IntKind.i64.wrap (an * bd) = an * bd := by rw [IntKind.wrap_i64]; omega
  have u2 : IntKind.i64.wrap (bn * ad) = bn * ad := by rw [IntKind.wrap_i64]; omega
  have u3 : IntKind.i64.wrap (an * bd - bn * ad) = an * bd - bn * ad := by rw [IntKind.wrap_i64]; omega
  have e : ((an * bd - bn * ad).natAbs : Int) = max (an * bd - bn * ad) (-(an * bd - bn * ad)) := by omega
  rw [e]
  go_enter Tryd.func16, Tryd.ntmps16
  go_wp2
  go_ret
  refine ⟨rfl, ?_⟩
  (repeat (first | (with_reducible exact bl_refl _) | (with_reducible refine bl_drew ?_) | (with_reducible refine bl_alloc ?_ _) | (with_reducible refine bl_set' ?_ ?_; · (first | omega | (simp; done) | (simp; omega))) | (with_reducible refine bl_last (by assumption) ?_) | (with_reducible refine bl_drewN ?_ _)))
/-- A number that is itself small enough is its own nearest one. -/
theorem near_exact {aN aD m N D : Int} (hg : nrG aN aD m = true) (h2 : ∀ bN bD : Int, 0 < bD → bD ≤ m → (aN * D - N * aD).natAbs * bD ≤ (aN * bD - bN * aD).natAbs * D) (vn : vR N D = true) (h : aD ≤ m) : aN = N ∧ aD = D := by
  unfold nrG at hg
  simp only [Bool.and_eq_true, decide_eq_true_eq] at hg
  have ha := den_pos hg.1
  have h3 := h2 aN aD ha h
  rw [Int.sub_self] at h3
  have h4 : ((aN * D - N * aD).natAbs : Int) * aD ≤ 0 * aD := by
    have e : ((Int.natAbs 0 : Nat) : Int) * D = 0 := by simp
    omega
  have h5 := mul_le_of ha h4
  exact vR_eq hg.1 vn (by omega)
set_option maxRecDepth 100000 in
set_option maxHeartbeats 8000000 in
theorem walk_RationalNearest (an ad bn bd m : Int) (w : World) (_ : (Lit.int .i64 an).wf = true) (_ : (Lit.int .i64 ad).wf = true) (_ : (Lit.int .i64 bn).wf = true) (_ : (Lit.int .i64 bd).wf = true) (_ : (Lit.int .i64 m).wf = true) (ht : PW w) :
    Calls Tryd.prog 4 #[.agg #[.int .i64 an, .int .i64 ad], .agg #[.int .i64 bn, .int .i64 bd], .int .i64 m] w (Ret (.bool true) w) := by
  have HH := Lib.hid (fun w h => head02_c w h)
  have HT := Lib.hid ht
  clear ht
  cases hg : nrG an ad m
  · have HN : Hid (∀ w, Calls Tryd.prog 14 #[.agg #[.int .i64 an, .int .i64 ad], .int .i64 m] w (Ret (.tuple #[.agg #[.int .i64 0, .int .i64 0], .int .i64 1]) w)) := Lib.hid (fun w => (Near_c an ad m w).mono (by
      rintro e w' ⟨hb, ⟨_, rfl⟩ | ⟨h, _⟩⟩
      · exact ⟨rfl, hb⟩
      · rw [hg] at h; cases h))
    have hV := fun w => Valid_c an ad w
    have hways : vR an ad = false ∨ (vR an ad = true ∧ m < 1) ∨ (vR an ad = true ∧ 1 ≤ m ∧ 1000000000 < m) := by
      unfold nrG at hg
      cases hv : vR an ad
      · exact Or.inl rfl
      · rw [hv, Bool.true_and] at hg
        simp at hg
        by_cases h1 : m < 1
        · exact Or.inr (Or.inl ⟨rfl, h1⟩)
        · exact Or.inr (Or.inr ⟨rfl, by omega, by omega⟩)
    clear hg
    rcases hways with h | ⟨h, h1⟩ | ⟨h, h1, h2⟩
    case inr.inr => have h3 : decide (1000000000 < m) = true := decide_eq_true h2
                    rw [h] at hV
                    have HV := Lib.hid hV
                    clear hV h
                    go_enter Tryd.func4, Tryd.ntmps4
                    go_wp2_with (first | (go_at_call 11; ((with_reducible refine (HH.out _ (tab_up HT.out (by (repeat (first | (with_reducible exact bl_refl _) | (with_reducible refine bl_drew ?_) | (with_reducible refine bl_alloc ?_ _) | (with_reducible refine bl_set' ?_ ?_; · (first | omega | (simp; done) | (simp; omega))) | (with_reducible refine bl_last (by assumption) ?_) | (with_reducible refine bl_drewN ?_ _)))))).mono ?_); rintro e w' ⟨rfl, hb⟩; obtain ⟨hz, hc, hf⟩ := bcl hb (by first | (simp; rfl) | rfl))) | (go_at_call 14; ((with_reducible refine (HN.out _).mono ?_); rintro e w' ⟨rfl, hb⟩; obtain ⟨hz, hc, hf⟩ := bcl hb (by first | (simp; rfl) | rfl))) | (go_at_call 13; ((with_reducible refine (HV.out _).mono ?_); rintro e w' ⟨rfl, hb⟩; obtain ⟨hz, hc, hf⟩ := bcl hb (by first | (simp; rfl) | rfl))))
                    go_ret
                    refine ⟨rfl, ?_⟩
                    (repeat (first | (with_reducible exact bl_refl _) | (with_reducible refine bl_drew ?_) | (with_reducible refine bl_alloc ?_ _) | (with_reducible refine bl_set' ?_ ?_; · (first | omega | (simp; done) | (simp; omega))) | (with_reducible refine bl_last (by assumption) ?_) | (with_reducible refine bl_drewN ?_ _)))
    all_goals
      rw [h] at hV
      have HV := Lib.hid hV
      clear hV h
      go_enter Tryd.func4, Tryd.ntmps4
      go_wp2_with (first | (go_at_call 11; ((with_reducible refine (HH.out _ (tab_up HT.out (by (repeat (first | (with_reducible exact bl_refl _) | (with_reducible refine bl_drew ?_) | (with_reducible refine bl_alloc ?_ _) | (with_reducible refine bl_set' ?_ ?_; · (first | omega | (simp; done) | (simp; omega))) | (with_reducible refine bl_last (by assumption) ?_) | (with_reducible refine bl_drewN ?_ _)))))).mono ?_); rintro e w' ⟨rfl, hb⟩; obtain ⟨hz, hc, hf⟩ := bcl hb (by first | (simp; rfl) | rfl))) | (go_at_call 14; ((with_reducible refine (HN.out _).mono ?_); rintro e w' ⟨rfl, hb⟩; obtain ⟨hz, hc, hf⟩ := bcl hb (by first | (simp; rfl) | rfl))) | (go_at_call 13; ((with_reducible refine (HV.out _).mono ?_); rintro e w' ⟨rfl, hb⟩; obtain ⟨hz, hc, hf⟩ := bcl hb (by first | (simp; rfl) | rfl))))
      go_ret
      refine ⟨rfl, ?_⟩
      (repeat (first | (with_reducible exact bl_refl _) | (with_reducible refine bl_drew ?_) | (with_reducible refine bl_alloc ?_ _) | (with_reducible refine bl_set' ?_ ?_; · (first | omega | (simp; done) | (simp; omega))) | (with_reducible refine bl_last (by assumption) ?_) | (with_reducible refine bl_drewN ?_ _)))
  have hg' := hg
  unfold nrG at hg'
  simp only [Bool.and_eq_true, decide_eq_true_eq] at hg'
  obtain ⟨va, m1, m2⟩ := hg'
  obtain ⟨a1, a2, a3, a4, _⟩ := v_of va
  have HG := Lib.hid hg
  have HB := Lib.hid (fun w => Valid_c bn bd w)
  have HSA := Lib.hid (fun w => small_c an ad w)
  have HSB := Lib.hid (fun w => small_c bn bd w)
  clear hg va
  go_enter Tryd.func4, Tryd.ntmps4
  go_wp2_with (go_at_call 11; ((with_reducible refine (HH.out _ (tab_up HT.out (by (repeat (first | (with_reducible exact bl_refl _) | (with_reducible refine bl_drew ?_) | (with_reducible refine bl_alloc ?_ _) | (with_reducible refine bl_set' ?_ ?_; · (first | omega | (simp; done) | (simp; omega))) | (with_reducible refine bl_last (by assumption) ?_) | (with_reducible refine bl_drewN ?_ _)))))).mono ?_); rintro e w' ⟨rfl, hb⟩; obtain ⟨hz, hc, hf⟩ := bcl hb (by first | (simp; rfl) | rfl)))
  refine (Near_c an ad m _).mono ?_
  rintro e w2 ⟨hb2, ⟨h, _⟩ | ⟨_, N, D, rfl, hN⟩⟩
  · rw [HG.out] at h
    cases h
  obtain ⟨hz2, hc2, hf2⟩ := bcl hb2 (by first | (simp; rfl) | rfl)
  obtain ⟨vn, n1, n2, n3⟩ := hN
  have hV := fun w => Valid_c N D w
  rw [vn] at hV
  have HV := Lib.hid hV
  obtain ⟨c1, c2, c3, c4, _⟩ := v_of vn
  have n1d : decide (D ≤ m) = true := decide_eq_true n1
  have HSN := Lib.hid (fun w => small_c N D w)
  have H2 := Lib.hid n2
  have H3 := Lib.hid n3
  have HV2 := Lib.hid vn
  clear n2 n3 vn hV
  go_upto_region 6 with (go_at_call 13; ((with_reducible refine (HV.out _).mono ?_); rintro e w' ⟨rfl, hb⟩; obtain ⟨hz, hc, hf⟩ := bcl hb (by first | (simp; rfl) | rfl)))
  cases hvb : vR bn bd
  · have hB := HB.out
    rw [hvb] at hB
    have HB' := Lib.hid hB
    clear hB hvb
    go_wp2_with (go_at_call 13; ((with_reducible refine (HB'.out _).mono ?_); rintro e w' ⟨rfl, hb⟩; obtain ⟨hz, hc, hf⟩ := bcl hb (by first | (simp; rfl) | rfl)))
    go_ret
    refine ⟨rfl, ?_⟩
    (repeat (first | (with_reducible exact bl_refl _) | (with_reducible refine bl_drew ?_) | (with_reducible refine bl_alloc ?_ _) | (with_reducible refine bl_set' ?_ ?_; · (first | omega | (simp; done) | (simp; omega))) | (with_reducible refine bl_last (by assumption) ?_) | (with_reducible refine bl_drewN ?_ _)))
  have hB := HB.out
  rw [hvb] at hB
  have HB' := Lib.hid hB
  clear hB
  by_cases hm : m < bd
  · clear hvb
    go_wp2_with (go_at_call 13; ((with_reducible refine (HB'.out _).mono ?_); rintro e w' ⟨rfl, hb⟩; obtain ⟨hz, hc, hf⟩ := bcl hb (by first | (simp; rfl) | rfl)))
    go_ret
    refine ⟨rfl, ?_⟩
    (repeat (first | (with_reducible exact bl_refl _) | (with_reducible refine bl_drew ?_) | (with_reducible refine bl_alloc ?_ _) | (with_reducible refine bl_set' ?_ ?_; · (first | omega | (simp; done) | (simp; omega))) | (with_reducible refine bl_last (by assumption) ?_) | (with_reducible refine bl_drewN ?_ _)))
  have hm' : bd ≤ m := by omega
  cases hsa : smB an ad
  · have hS := HSA.out
    rw [hsa] at hS
    have HS := Lib.hid hS
    clear hS hsa hvb hm
    go_wp2_with (first | (go_at_call 13; ((with_reducible refine (HB'.out _).mono ?_); rintro e w' ⟨rfl, hb⟩; obtain ⟨hz, hc, hf⟩ := bcl hb (by first | (simp; rfl) | rfl))) | (go_at_call 15; ((with_reducible refine (HS.out _).mono ?_); rintro e w' ⟨rfl, hb⟩; obtain ⟨hz, hc, hf⟩ := bcl hb (by first | (simp; rfl) | rfl))))
    go_ret
    refine ⟨rfl, ?_⟩
    (repeat (first | (with_reducible exact bl_refl _) | (with_reducible refine bl_drew ?_) | (with_reducible refine bl_alloc ?_ _) | (with_reducible refine bl_set' ?_ ?_; · (first | omega | (simp; done) | (simp; omega))) | (with_reducible refine bl_last (by assumption) ?_) | (with_reducible refine bl_drewN ?_ _)))
  have hS := HSA.out
  rw [hsa] at hS
  have HS := Lib.hid hS
  clear hS
  cases hsb : smB bn bd
  · have hS := HSB.out
    rw [hsb] at hS
    have HS2 := Lib.hid hS
    clear hS hsa hsb hvb hm
    go_wp2_with (first | (go_at_call 13; ((with_reducible refine (HB'.out _).mono ?_); rintro e w' ⟨rfl, hb⟩; obtain ⟨hz, hc, hf⟩ := bcl hb (by first | (simp; rfl) | rfl))) | (go_at_call 15; ((with_reducible refine (HS.out _).mono ?_); rintro e w' ⟨rfl, hb⟩; obtain ⟨hz, hc, hf⟩ := bcl hb (by first | (simp; rfl) | rfl))) | (go_at_call 15; ((with_reducible refine (HS2.out _).mono ?_); rintro e w' ⟨rfl, hb⟩; obtain ⟨hz, hc, hf⟩ := bcl hb (by first | (simp; rfl) | rfl))))
    go_ret
    refine ⟨rfl, ?_⟩
    (repeat (first | (with_reducible exact bl_refl _) | (with_reducible refine bl_drew ?_) | (with_reducible refine bl_alloc ?_ _) | (with_reducible refine bl_set' ?_ ?_; · (first | omega | (simp; done) | (simp; omega))) | (with_reducible refine bl_last (by assumption) ?_) | (with_reducible refine bl_drewN ?_ _)))
  have hS := HSB.out
  rw [hsb] at hS
  have HS2 := Lib.hid hS
  clear hS
  obtain ⟨x1, x2, x3⟩ := smB_of hsa
  obtain ⟨y1, y2, y3⟩ := smB_of hsb
  obtain ⟨y4, _, _, _, _⟩ := v_of hvb
  have hD : D ≤ 1000000 := by
    by_cases h : ad ≤ m
    · obtain ⟨_, e⟩ := near_exact HG.out H2.out HV2.out h
      omega
    · omega
  have hN := H3.out 1000000 (by omega) x3
  have hsn : smB N D = true := smB_mk (by omega) (by omega) hD
  have hS := HSN.out
  rw [hsn] at hS
  have HS3 := Lib.hid hS
  clear hS hsn hsa hsb hvb hm
  have w1 := mul_bdA (A := 1000000) (B := 1000000) x1 x2 (show -1000000 ≤ D by omega) hD (by omega)
  have w2 := mul_bdA (A := 1000000) (B := 1000000) x1 x2 (show -1000000 ≤ bd by omega) y3 (by omega)
  have w3 := mul_bdA (A := 1000000) (B := 1000000) (show -1000000 ≤ N by omega) (show N ≤ 1000000 by omega) (show -1000000 ≤ ad by omega) x3 (by omega)
  have w4 := mul_bdA (A := 1000000) (B := 1000000) y1 y2 (show -1000000 ≤ ad by omega) x3 (by omega)
  have HG1 := Lib.hid (fun w => gap_c an ad N D w (by omega) (by omega) (by omega) (by omega))
  have HG2 := Lib.hid (fun w => gap_c an ad bn bd w (by omega) (by omega) (by omega) (by omega))
  have hle := H2.out bn bd (by omega) hm'
  have g1 : ((an * D - N * ad).natAbs : Int) ≤ 2000000000000 := by omega
  have g2 : ((an * bd - bn * ad).natAbs : Int) ≤ 2000000000000 := by omega
  have g10 : 0 ≤ ((an * D - N * ad).natAbs : Int) := by omega
  have g20 : 0 ≤ ((an * bd - bn * ad).natAbs : Int) := by omega
  clear w1 w2 w3 w4
  generalize ((an * D - N * ad).natAbs : Int) = P at *
  generalize ((an * bd - bn * ad).natAbs : Int) = Q at *
  have w1 := mul_bdA (A := 2000000000000) (B := 1000000) (show -2000000000000 ≤ P by omega) g1 (show -1000000 ≤ bd by omega) y3 (by omega)
  have w2 := mul_bdA (A := 2000000000000) (B := 1000000) (show -2000000000000 ≤ Q by omega) g2 (show -1000000 ≤ D by omega) hD (by omega)
  have u1 : IntKind.i64.wrap (P * bd) = P * bd := by rw [IntKind.wrap_i64]; omega
  have u2 : IntKind.i64.wrap (Q * D) = Q * D := by rw [IntKind.wrap_i64]; omega
  have hd : decide (P * bd ≤ Q * D) = true := decide_eq_true hle
  clear w1 w2 hle
  go_upto_region 10 with (first | (go_at_call 13; ((with_reducible refine (HB'.out _).mono ?_); rintro e w' ⟨rfl, hb⟩; obtain ⟨hz, hc, hf⟩ := bcl hb (by first | (simp; rfl) | rfl))) | (go_at_call 15; ((with_reducible refine (HS.out _).mono ?_); rintro e w' ⟨rfl, hb⟩; obtain ⟨hz, hc, hf⟩ := bcl hb (by first | (simp; rfl) | rfl))) | (go_at_call 15; ((with_reducible refine (HS2.out _).mono ?_); rintro e w' ⟨rfl, hb⟩; obtain ⟨hz, hc, hf⟩ := bcl hb (by first | (simp; rfl) | rfl))) | (go_at_call 15; ((with_reducible refine (HS3.out _).mono ?_); rintro e w' ⟨rfl, hb⟩; obtain ⟨hz, hc, hf⟩ := bcl hb (by first | (simp; rfl) | rfl))))
  (refine wp_region_bl [0,1,2,3,4,5,6,7,8,9,10,11,12,13,14,15] [16] (by kernel_rfl) (by kernel_rfl) (by rfl) ?_
   simp only [pickI, pick, List.getElem?_cons_succ, List.getElem?_cons_zero]
   iterate 16 (first
     | (refine head_val (by rfl) (by rfl) ?_
        apply Exists.intro
        refine ⟨fun X hX => ?_, ?_⟩
        · (obtain ⟨qz, qc, qf⟩ := bcl hX.out (by first | (simp; rfl) | rfl)
           go_simp
           first | done | (go_at_call 16; ((with_reducible refine (HG1.out _).mono ?_); rintro e w2 ⟨rfl, hb2⟩; exact ⟨rfl, hX.trans hb2⟩)) | (go_at_call 16; ((with_reducible refine (HG2.out _).mono ?_); rintro e w2 ⟨rfl, hb2⟩; exact ⟨rfl, hX.trans hb2⟩)) | rfl | exact ⟨rfl, rfl⟩)
        simp only [Act.put, List.setIfInBounds_toArray, List.set_cons_zero, List.set_cons_succ])
     | (refine head_pass (by rfl) ?_
        simp only [Act.put, List.setIfInBounds_toArray, List.set_cons_zero, List.set_cons_succ]))
   refine head_nil ?_
   intro w' hw'
   have hb := hw'.out
   clear hw'
   obtain ⟨hz, hc, hf⟩ := bcl hb (by first | (simp; rfl) | rfl))
  go_wp2
  go_ret
  refine ⟨rfl, ?_⟩
  (repeat (first | (with_reducible exact bl_refl _) | (with_reducible refine bl_drew ?_) | (with_reducible refine bl_alloc ?_ _) | (with_reducible refine bl_set' ?_ ?_; · (first | omega | (simp; done) | (simp; omega))) | (with_reducible refine bl_last (by assumption) ?_) | (with_reducible refine bl_drewN ?_ _)))
end Go.Proofs.YtmjbcoapceoakaaDoor
