/- TopEqual: the steps of a scale. -/
import Derived.Test.YtehifkdfbiebfaaDoorK26
namespace Go.Proofs.YtehifkdfbiebfaaDoor
open Go Go.RowKit

/-- The pitch at a degree, counted on through the octaves. -/
def atD (st : Nat → Int) (n j : Nat) : Int := if j < n then st j else st 0 + 12
set_option maxRecDepth 100000 in
set_option maxHeartbeats 8000000 in
theorem at_c (st : Nat → Int) (n : Nat) (hs : Rise st n) (b o c sp j : Nat) (hj : j ≤ n) (w : World) (hB : Blk w sp 73 #[.slice (some ⟨b, o, none⟩) n c]) (hv : VecsR w w.heap.size (some ⟨b, o, none⟩) n (stG st)) :
    Calls Tryd.prog 128 #[.int .i64 (j : Int), .pointer (some ⟨sp, 0, none⟩)] w (Ret (one6 (atD st n j)) w) := by
  obtain ⟨h1, h2, h3, h4, h5⟩ := hs
  obtain ⟨b', o', hbo, hb0, hcl⟩ := st_cells hv (by omega)
  obtain ⟨rfl, rfl⟩ : b = b' ∧ o = o' := by
    have := Option.some.inj hbo
    injection this with e1 e2
    exact ⟨e1, e2⟩
  obtain ⟨i, k, hi, hk, hat, hr, hq⟩ : ∃ (i : Nat) (k : Int), i < n ∧ 0 ≤ k ∧ (atD st n j = st i + 12 * k ∧ k ≤ 1) ∧ ((j : Int).tmod (n : Int) = (i : Int)) ∧ (j : Int).tdiv (n : Int) = k := by
    by_cases h : j < n
    · refine ⟨j, 0, h, by omega, ⟨by unfold atD; rw [if_pos h]; omega, by omega⟩, ?_, ?_⟩
      · rw [Int.tmod_eq_emod_of_nonneg (by omega)]
        exact Int.emod_eq_of_lt (by omega) (by omega)
      · rw [Int.tdiv_eq_ediv_of_nonneg (by omega)]
        exact Int.ediv_eq_zero_of_lt (by omega) (by omega)
    · obtain rfl : j = n := by omega
      refine ⟨0, 1, by omega, by omega, ⟨by unfold atD; rw [if_neg h]; omega, by omega⟩, ?_, ?_⟩
      · simp
      · exact Int.tdiv_self (by omega)
  rw [hat.1]
  have hb5 := h5 i hi
  have HR := Lib.hid (fun X => raised_c (st i) k X (by rw [IntKind.wrap_i64]; omega) (by rw [IntKind.wrap_i64]; omega))
  have wk : IntKind.i64.wrap k = k := by rw [IntKind.wrap_i64]; omega
  have wi : IntKind.i64.wrap (i : Int) = (i : Int) := by rw [IntKind.wrap_i64]; omega
  have hnz : ¬ n = 0 := by omega
  have hii : (i : Int) < (n : Int) := by omega
  generalize st i + 12 * k = y at *
  have HCl := Lib.hid hcl
  have HSp := Lib.hid hB
  clear hcl hv hB hbo hat h5 h4
  go_enter Tryd.func128, Tryd.ntmps128
  go_upto_region 1 with fail
  refine wp_letter ?_
  intro W1 hW1
  have b1 : Below w.heap.size w W1 := by rw [hW1]; exact bl_alloc (bl_refl _) _
  have R1 : Blk W1 w.heap.size 72 (arr1 0) := by rw [hW1]; exact Blk.new _ _ _
  have S1 := HSp.out.below b1 HSp.out.lt
  clear hW1
  obtain ⟨s_0, s_1, s_2, s_3, s_4, s_5, zs⟩ := HCl.out i hi W1 b1
  have p_0 := S1.cell 0
  have zp := S1.lt
  simp only [List.getElem?_toArray, List.getElem?_cons_zero] at p_0
  (refine wp_region_bl [0,1,2,3,4,5,6,7,8,9,10,11] [12] (by kernel_rfl) (by kernel_rfl) (by rfl) ?_
   simp only [pickI, pick, List.getElem?_cons_succ, List.getElem?_cons_zero]
   iterate 12 (first
     | (refine head_val (by rfl) (by first | exact wanted_free rfl | rfl) ?_
        apply Exists.intro
        refine ⟨fun X hX => ?_, ?_⟩
        · (obtain ⟨qz, qc, qf⟩ := bcl hX.out (by first | (simp; rfl) | rfl)
           go_simp
           first | done | ((with_reducible refine (HR.out _).mono ?_); rintro e w2 ⟨rfl, hb2⟩; exact ⟨rfl, hX.trans hb2⟩) | rfl | exact ⟨rfl, rfl⟩)
        simp only [Act.put, List.setIfInBounds_toArray, List.set_cons_zero, List.set_cons_succ])
     | (refine head_pass (by rfl) ?_
        simp only [Act.put, List.setIfInBounds_toArray, List.set_cons_zero, List.set_cons_succ]))
   refine head_nil ?_
   intro w' hw'
   have hb := hw'.out
   clear hw'
   obtain ⟨hz, hc, hf⟩ := bcl hb (by first | (simp; rfl) | rfl))
  have b2 := bl_trans b1 hb
  have R2 := R1.below hb R1.lt
  have f_0 := R2.frozen 0
  have f_1 := R2.frozen 1
  have f_2 := R2.frozen 2
  have f_3 := R2.frozen 3
  have f_4 := R2.frozen 4
  have f_5 := R2.frozen 5
  have r_0 := R2.cell 0
  have r_1 := R2.cell 1
  have r_2 := R2.cell 2
  have r_3 := R2.cell 3
  have r_4 := R2.cell 4
  have r_5 := R2.cell 5
  have zr := R2.lt
  simp only [List.getElem?_toArray, List.getElem?_cons_zero, List.getElem?_cons_succ] at r_0 r_1 r_2 r_3 r_4 r_5
  clear hb hz hc hf s_0 s_1 s_2 s_3 s_4 s_5 zs p_0 zp S1 R1 b1
  go_wp2
  (refine bodyPost_ret (v := one6 y) (by simp only [results, Tryd.results128]; go_simp) rfl ⟨rfl, ?_⟩)
  (repeat (first | (with_reducible exact b2) | (with_reducible refine bl_set' ?_ ?_; · (dsimp only; omega))))
set_option maxRecDepth 100000 in
theorem up1_c (i : Nat) (w : World) (hi : i ≤ 12) : Calls Tryd.prog 100 #[.int .i64 (i : Int)] w (Ret (.int .i64 ((i + 1 : Nat) : Int)) w) := by
  have e : ((i + 1 : Nat) : Int) = (i : Int) + 1 := by omega
  have w1 : IntKind.i64.wrap ((i : Int) + 1) = (i : Int) + 1 := by rw [IntKind.wrap_i64]; omega
  rw [e]
  go_enter Tryd.func100, Tryd.ntmps100
  go_wp2
  go_ret
  exact ⟨rfl, bl_refl _⟩
set_option maxRecDepth 100000 in
theorem up0_c (i : Nat) (w : World) : Calls Tryd.prog 101 #[.int .i64 (i : Int)] w (Ret (.int .i64 (i : Int)) w) := by
  go_enter Tryd.func101, Tryd.ntmps101
  go_wp2
  go_ret
  exact ⟨rfl, bl_refl _⟩
end Go.Proofs.YtehifkdfbiebfaaDoor
