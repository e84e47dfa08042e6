/- TopEqual: Valid of a temperament; the image of an interval. -/
import Derived.Test.YtehifkdfbiebfaaDoorK41
namespace Go.Proofs.YtehifkdfbiebfaaDoor
open Go Go.RowKit

abbrev vagg (v : Nat → Int) : Value := .agg #[.int .i64 (v 0), .int .i64 (v 1), .int .i64 (v 2), .int .i64 (v 3), .int .i64 (v 4), .int .i64 (v 5)]
set_option maxRecDepth 100000 in
set_option maxHeartbeats 4000000 in
theorem tvalid_c (g : Nat → Nat → Int) (hx : g 0 0 ≠ 0) (b o c : Nat) (w : World) (hv : VecsR w w.heap.size (some ⟨b, o, none⟩) 1 g) :
    Calls Tryd.prog 44 #[mapV b o c] w (Ret (.bool (rowOk g)) w) := by
  have HC := Lib.hid (fun X (hX : Below w.heap.size w X) => cvalid_c g hx b o c X (hv.up hX))
  clear hx hv
  generalize rowOk g = V at *
  go_enter Tryd.func44, Tryd.ntmps44
  go_upto_region 1 with fail
  refine wp_letter ?_
  intro W1 hW1
  have b1 : Below w.heap.size w W1 := by rw [hW1]; exact bl_alloc (bl_refl _) _
  have S1 : Blk W1 w.heap.size (101) #[.slice (some ⟨b, o, none⟩) 1 c] := by rw [hW1]; exact Blk.new _ _ _
  have p_0 := S1.cell 0
  have zp := S1.lt
  simp only [List.getElem?_toArray, List.getElem?_cons_zero] at p_0
  have HB1 := Lib.hid b1
  have HC1 := Lib.hid (HC.out W1 b1)
  clear hW1 b1 S1
  go_wp2_with fail
  (with_reducible refine HC1.out.mono ?_)
  rintro e w2 ⟨rfl, hb2⟩
  have HB2 := Lib.hid (bl_trans HB1.out hb2)
  clear hb2 HC1 p_0 zp
  simp only
  go_wp2
  go_ret
  exact ⟨rfl, HB2.out⟩
theorem make_intsS (N : Nat) (h : N ≤ 1000000) (W : World) : (Instr.makeSlice 22 (.int .i64 (N : Int)) (.int .i64 (N : Int))).run Tryd.prog W = .ok (.slice (some ⟨W.heap.size, 0, none⟩) N N) (W.alloc (.cells (Array.replicate N (.int .i64 0)) 3)) := by
  obtain ⟨i, hi, hz0, hz1, hz2⟩ := info_parts Tryd.infoInt1
  have := run_make (P := Tryd.prog) (w := W) 22 3 i (.int .i64 0) Tryd.underlying22 hi hz0 .i64 .i64 (N : Int) (N : Int) (by omega) (by omega) (by rw [hz2]; omega) (by omega)
  rw [this, hz1]
  simp only [Int.toNat_natCast, Nat.mul_one]
  rw [show (Value.int .i64 0).cells = #[.int .i64 0] from rfl, made_oneN]
/-- The products of the row and the interval, added up. -/
def imS (r v : Nat → Int) : Nat → Int
  | 0 => 0
  | k + 1 => imS r v k + r k * v k
theorem mulbd2 {x y a b : Int} (hx : -a ≤ x ∧ x ≤ a) (hy : -b ≤ y ∧ y ≤ b) : -(a * b) ≤ x * y ∧ x * y ≤ a * b := by
  have h1 : (x * y).natAbs ≤ a.toNat * b.toNat := by rw [Int.natAbs_mul]; exact Nat.mul_le_mul (by omega) (by omega)
  have h2 : ((a.toNat * b.toNat : Nat) : Int) = a * b := by rw [Int.natCast_mul, Int.toNat_of_nonneg (by omega), Int.toNat_of_nonneg (by omega)]
  omega
theorem imS_bd {r v : Nat → Int} (hr : ∀ i, i < 6 → -400 ≤ r i ∧ r i ≤ 400) (hv : ∀ i, i < 6 → -48 ≤ v i ∧ v i ≤ 48) : ∀ k : Nat, k ≤ 6 → -(19200 * (k : Int)) ≤ imS r v k ∧ imS r v k ≤ 19200 * (k : Int)
  | 0, _ => by simp [imS]
  | k + 1, hk => by
    have h1 := imS_bd hr hv k (by omega)
    have h2 := mulbd2 (hr k (by omega)) (hv k (by omega))
    unfold imS
    omega
set_option maxRecDepth 100000 in
set_option maxHeartbeats 16000000 in
theorem image_c (g : Nat → Nat → Int) (v : Nat → Int) (hg : ∀ i, i < 6 → -400 ≤ g 0 i ∧ g 0 i ≤ 400) (hv48 : ∀ i, i < 6 → -48 ≤ v i ∧ v i ≤ 48) (b o c : Nat) (w : World) (hv : VecsR w w.heap.size (some ⟨b, o, none⟩) 1 g) :
    Calls Tryd.prog 102 #[mapV b o c, vagg v] w (fun e w' => Below w.heap.size w w' ∧ ∃ x cc, e = .returned (.slice (some ⟨x, 0, none⟩) 1 cc) ∧ x < w'.heap.size ∧ w'.cell? ⟨x, 0, none⟩ = some (.int .i64 (imS (g 0) v 6))) := by
  obtain ⟨b', o', hbo, hb0, hcl⟩ := hv (by omega)
  obtain ⟨rfl, rfl⟩ : b = b' ∧ o = o' := by
    have := Option.some.inj hbo
    injection this with e1 e2
    exact ⟨e1, e2⟩
  have h0 := hcl 0 (by omega)
  simp only [Nat.zero_mul, Nat.add_zero] at h0
  obtain ⟨r, hr⟩ : ∃ r, r = g 0 := ⟨_, rfl⟩
  rw [← hr] at h0 hg ⊢
  have HRow := Lib.hid (fun X (hX : Below w.heap.size w X) => And.intro ((hX.cell (p := ⟨b, o, none⟩) hb0).trans (h0 0 (by omega))) (And.intro ((hX.cell (p := ⟨b, o + 1, none⟩) hb0).trans (h0 1 (by omega))) (And.intro ((hX.cell (p := ⟨b, o + 2, none⟩) hb0).trans (h0 2 (by omega))) (And.intro ((hX.cell (p := ⟨b, o + 3, none⟩) hb0).trans (h0 3 (by omega))) (And.intro ((hX.cell (p := ⟨b, o + 4, none⟩) hb0).trans (h0 4 (by omega))) (And.intro ((hX.cell (p := ⟨b, o + 5, none⟩) hb0).trans (h0 5 (by omega))) (show b < X.heap.size by have := hX.size; omega)))))))
  have HBd := Lib.hid (fun k (hk : k < 6) => And.intro (mulbd2 (hg k hk) (hv48 k hk)) (imS_bd hg hv48 k (by omega)))
  have hmk : ∀ W, (Instr.makeSlice 22 (.int .i64 1) (.int .i64 1)).run Tryd.prog W = .ok (.slice (some ⟨W.heap.size, 0, none⟩) 1 1) (W.alloc (.cells #[.int .i64 0] 3)) := fun W => make_intsS 1 (by omega) W
  clear hcl hv h0 hr hg hbo hv48 hb0
  go_enter Tryd.func102, Tryd.ntmps102
  go_upto_block 0 with fail
  refine wp_letter ?_
  intro W1 hW1
  have b1 : Below w.heap.size w W1 := by rw [hW1]; exact bl_alloc (bl_alloc (bl_alloc (bl_refl _) _) _) _
  have V1 : Blk W1 (w.heap.size + 1) 27 #[.int .i64 (v 0), .int .i64 (v 1), .int .i64 (v 2), .int .i64 (v 3), .int .i64 (v 4), .int .i64 (v 5)] := by rw [hW1]; exact (blkAt _ _ _ _ (by simp)).alloc _
  have X1 : Blk W1 (w.heap.size + 1 + 1) 3 #[.int .i64 0] := by rw [hW1]; exact blkAt _ _ _ _ (by simp)
  obtain ⟨pv, hpv⟩ : ∃ pv, pv = w.heap.size + 1 := ⟨_, rfl⟩
  rw [← hpv] at V1 X1 ⊢
  have HP := Lib.hid hpv
  have HB1 := Lib.hid b1
  have HV1 := Lib.hid V1
  have HX1 := Lib.hid X1
  clear hW1 b1 V1 X1 hpv
  go_wp2
  refine wp_loop_rounds 2 ?_
  rw [rounds_succ]
  obtain ⟨s_0, s_1, s_2, s_3, s_4, s_5, zs⟩ := HRow.out W1 HB1.out
  go_upto_block 2 with fail
  refine wp_letter ?_
  intro W2 hW2
  have HB2 : Hid (Below w.heap.size w W2) := Lib.hid (by rw [hW2]; exact bl_alloc HB1.out _)
  have HV2 : Hid (Blk W2 pv 27 #[.int .i64 (v 0), .int .i64 (v 1), .int .i64 (v 2), .int .i64 (v 3), .int .i64 (v 4), .int .i64 (v 5)]) := Lib.hid (by rw [hW2]; exact HV1.out.alloc _)
  have HX2 : Hid (Blk W2 (pv + 1) 3 #[.int .i64 (imS r v 0)]) := Lib.hid (by rw [hW2]; exact HX1.out.alloc _)
  clear hW2 s_0 s_1 s_2 s_3 s_4 s_5 zs HX1 HB1 HV1
  go_wp2
  go_loopw [25] (fun kv wr => ∃ k : Nat, k ≤ 6 ∧ kv = .int .i64 (k : Int) ∧ Hid (Below w.heap.size w wr) ∧ Hid (Blk wr pv 27 #[.int .i64 (v 0), .int .i64 (v 1), .int .i64 (v 2), .int .i64 (v 3), .int .i64 (v 4), .int .i64 (v 5)]) ∧ Hid (Blk wr (pv + 1) 3 #[.int .i64 (imS r v k)])) (fun kv _ => 6 - (intOf kv).toNat)
  case atStart => exact ⟨0, by omega, rfl, HB2, HV2, HX2⟩
  case round =>
    obtain ⟨k, hk, rfl, HB, HV, HX⟩ := hrel
    clear HB2 HV2 HX2
    by_cases hk6 : k < 6
    · have hbd := HBd.out k hk6
      obtain ⟨p, hp⟩ : ∃ p, p = r k * v k := ⟨_, rfl⟩
      obtain ⟨s, hs⟩ : ∃ s, s = imS r v k := ⟨_, rfl⟩
      have hs1 : imS r v (k + 1) = s + p := by rw [hs, hp]; rfl
      have HS1 := Lib.hid hs1
      rw [← hp, ← hs] at hbd
      have X1 := HX.out
      rw [← hs] at X1
      have HX1 := Lib.hid X1
      have x_0 := X1.cell 0
      have zx := X1.lt
      have wm : IntKind.i64.wrap (r k * v k) = p := by rw [IntKind.wrap_i64, ← hp]; omega
      have wa : IntKind.i64.wrap (s + p) = s + p := by rw [IntKind.wrap_i64]; omega
      clear hs1 hs hp hbd X1 HX
      have p_0 := HV.out.cell 0
      have p_1 := HV.out.cell 1
      have p_2 := HV.out.cell 2
      have p_3 := HV.out.cell 3
      have p_4 := HV.out.cell 4
      have p_5 := HV.out.cell 5
      have zp := HV.out.lt
      simp only [List.getElem?_toArray, List.getElem?_cons_zero, List.getElem?_cons_succ] at x_0 p_0 p_1 p_2 p_3 p_4 p_5
      rcases lt6 hk6 with rfl | rfl | rfl | rfl | rfl | rfl
      all_goals
        clear hk hk6
        go_wp2
        (refine wp_region_bl [0,1,2,3,4,5,6,7,8,9,10] [11] (by kernel_rfl) (by kernel_rfl) (by rfl) ?_
         simp only [pickI, pick, List.getElem?_cons_succ, List.getElem?_cons_zero]
         iterate 11 (first
           | (refine head_val (by rfl) (by first | exact wanted_free rfl | rfl) ?_
              apply Exists.intro
              refine ⟨fun X hX => ?_, ?_⟩
              · (obtain ⟨qz, qc, qf⟩ := bcl hX.out (by first | (simp; rfl) | rfl)
                 go_simp
                 first | done | rfl | exact ⟨rfl, rfl⟩)
              simp only [Act.put, List.setIfInBounds_toArray, List.set_cons_zero, List.set_cons_succ])
           | (refine head_pass (by rfl) ?_
              simp only [Act.put, List.setIfInBounds_toArray, List.set_cons_zero, List.set_cons_succ]))
         refine head_nil ?_
         intro w' hw'
         have hb := hw'.out
         clear hw'
         obtain ⟨hz, hc, hf⟩ := bcl hb (by first | (simp; rfl) | rfl))
        have HB7 := Lib.hid (bl_trans HB.out hb)
        have X7 := HX1.out.below hb HX1.out.lt
        have HV7 := Lib.hid (HV.out.below hb HV.out.lt)
        have HX7 := Lib.hid X7
        clear hb hz hc hf x_0 zx p_0 p_1 p_2 p_3 p_4 p_5 zp HB HV HX1
        have x_0 := X7.cell 0
        have fx := X7.frozen 0
        have zx := X7.lt
        simp only [List.getElem?_toArray, List.getElem?_cons_zero] at x_0
        clear X7
        go_wp2
        go_roundw
        case rel =>
          have hS := HS1.out
          have hX := HX7.out.set_ 0 (.int .i64 (s + p))
          have hVf := HV7.out.far (p := ⟨pv + 1, 0, none⟩) (by show pv ≠ pv + 1; omega) (.int .i64 (s + p))
          have hBl := bl_set' (p := ⟨pv + 1, 0, none⟩) (u := .int .i64 (s + p)) (by have := HP.out; show w.heap.size ≤ pv + 1; omega) HB7.out
          rw [← hS] at hX hVf hBl ⊢
          first
            | exact ⟨1, by omega, rfl, Lib.hid hBl, Lib.hid hVf, Lib.hid hX⟩
            | exact ⟨2, by omega, rfl, Lib.hid hBl, Lib.hid hVf, Lib.hid hX⟩
            | exact ⟨3, by omega, rfl, Lib.hid hBl, Lib.hid hVf, Lib.hid hX⟩
            | exact ⟨4, by omega, rfl, Lib.hid hBl, Lib.hid hVf, Lib.hid hX⟩
            | exact ⟨5, by omega, rfl, Lib.hid hBl, Lib.hid hVf, Lib.hid hX⟩
            | exact ⟨6, by omega, rfl, Lib.hid hBl, Lib.hid hVf, Lib.hid hX⟩
        case measure => simp [intOf]
    · obtain rfl : k = 6 := by omega
      clear hk hk6
      go_wp2
      rw [rounds_succ]
      go_wp2
      refine bodyPost_ret (v := .slice (some ⟨pv + 1, 0, none⟩) 1 1) (by simp only [results, Tryd.results102]; go_simp) rfl ?_
      exact ⟨HB.out, pv + 1, 1, rfl, HX.out.lt, HX.out.cell 0⟩
end Go.Proofs.YtehifkdfbiebfaaDoor
