/- BeatPure: the plain law and the walk. -/
import Derived.Test.YthlnfjllkmielaaLawMult
import Derived.Test.YthlnfjllkmielaaBeatW
namespace Go.Proofs.Ythlnfjllkmielaa
open Go Go.RowKit

theorem mk_small {p q : Int} (h1 : 1 ≤ p) (h2 : p ≤ 64) (h3 : 1 ≤ q) (h4 : q ≤ 64) : mkE p q = 0 := by
  have hq : q ≠ 0 := by omega
  obtain ⟨k1, k2, k3⟩ := num_low (n := p) hq
  have y1 : yF p q ≤ 64 := by
    have : yF p q ≤ absF q := Nat.div_le_self _ _
    unfold absF at this
    omega
  have x1 : xF p q ≤ 64 := by
    have : xF p q ≤ absF p := Nat.div_le_self _ _
    unfold absF at this
    omega
  exact (mk_of hq (v_mk k1 (by omega) (by omega)) k2.symm).1
/-- The parts of a product. -/
def puE (an ad bn bd : Int) : Int := if vR an ad && vR bn bd then mkE (an * bn) (ad * bd) else 1
def puN (an ad bn bd : Int) : Int := if vR an ad && vR bn bd then mkN (an * bn) (ad * bd) else 0
def puD (an ad bn bd : Int) : Int := if vR an ad && vR bn bd then mkD (an * bn) (ad * bd) else 0
theorem pu_eq (an ad bn bd : Int) : mulV an ad bn bd = .tuple #[.agg #[.int .i64 (puN an ad bn bd), .int .i64 (puD an ad bn bd)], .int .i64 (puE an ad bn bd)] := by
  unfold mulV puE puN puD
  cases vR an ad && vR bn bd <;> rfl
theorem pure_law {fn fd p q : Int} {above : Bool} (h1 : 1 ≤ p) (h2 : p ≤ 64) (h3 : 1 ≤ q) (h4 : q ≤ 64) :
    ((sdV fn fd = false ∨ puE fn fd (mkN p q) (mkD p q) ≠ 0 ∨ sdV (puN fn fd (mkN p q) (mkD p q)) (puD fn fd (mkN p q) (mkD p q)) = false) ∧ seE fn fd p q 0 1 above ≠ 0) ∨
      (sdV fn fd = true ∧ puE fn fd (mkN p q) (mkD p q) = 0 ∧ sdV (puN fn fd (mkN p q) (mkD p q)) (puD fn fd (mkN p q) (mkD p q)) = true ∧ seE fn fd p q 0 1 above = 0 ∧
        seX fn fd p q 0 1 above = puN fn fd (mkN p q) (mkD p q) ∧ seY fn fd p q 0 1 above = puD fn fd (mkN p q) (mkD p q)) := by
  obtain ⟨hq, hv, he⟩ := mk_spec (mk_small h1 h2 h3 h4)
  cases hs : sdV fn fd
  · refine Or.inl ⟨Or.inl rfl, ?_⟩
    have hG : seG fn fd p q 0 1 = false := by unfold seG; rw [hs]; rfl
    unfold seE
    rw [hG]
    simp
  · have hvf := rt_v (sd_of hs).1
    have hG : seG fn fd p q 0 1 = true := by
      unfold seG
      rw [hs, pt_mk h1 h2, pt_mk h3 h4, show rtV 0 1 = true by decide +kernel]
      rfl
    have hN : seN fn fd p 0 1 above = p * fn := by unfold seN; cases above <;> simp
    have f1 := den_pos hvf
    have f2 := den_pos hv
    have hc := mk_congr (n := fn * mkN p q) (d := fd * mkD p q) (n' := p * fn) (d' := q * fd * 1) (mul_ne f1 f2) (by have := Int.mul_pos (show 0 < q by omega) f1; omega) (by
      have : fn * mkN p q * (q * fd * 1) = mkN p q * q * (fn * fd) := by grind
      rw [this, he]
      grind)
    obtain ⟨c1, c2, c3⟩ := hc
    unfold puE puN puD seE seX seY
    rw [hvf, hv, hG, hN]
    simp only [Bool.and_self, if_true, c1, c2, c3]
    unfold maE
    generalize mkE (p * fn) (q * fd * 1) = e at *
    generalize mkN (p * fn) (q * fd * 1) = x at *
    generalize mkD (p * fn) (q * fd * 1) = y at *
    by_cases g1 : e = 0
    · cases g2 : sdV x y
      · exact Or.inl ⟨Or.inr (Or.inr rfl), by simp⟩
      · subst g1
        exact Or.inr ⟨trivial, rfl, rfl, by simp, by simp, by simp⟩
    · exact Or.inl ⟨Or.inr (Or.inl g1), by simp [g1]⟩
theorem pa_ok {a b c d e f : Int} (h : paK a b c d e f = 0) : paO a b c d e f = true ∧ (1 ≤ (paU a b c d e f 6 : Int) ∧ (paU a b c d e f 6 : Int) ≤ 64) ∧ (1 ≤ (paD a b c d e f 6 : Int) ∧ (paD a b c d e f 6 : Int) ≤ 64) := by
  unfold paK at h
  split at h
  · rename_i ho
    refine ⟨ho, ?_⟩
    unfold paO at ho
    simp only [Bool.and_eq_true, decide_eq_true_eq] at ho
    have u1 : 1 ≤ paU a b c d e f 6 := prodF_mono (fun j hj => by have := prm_pos hj; omega) 0 (by omega)
    have u2 : 1 ≤ paD a b c d e f 6 := prodF_mono (fun j hj => by have := prm_pos hj; omega) 0 (by omega)
    omega
  · split at h <;> cases h
theorem pa_bad {a b c d e f : Int} (h : ¬ paK a b c d e f = 0) : paO a b c d e f = false := by
  cases ho : paO a b c d e f
  · rfl
  · exact absurd (by unfold paK; rw [if_pos ho]) h
set_option maxRecDepth 100000 in
set_option maxHeartbeats 8000000 in
theorem walk_BeatPure (fn fd a b c d e f : Int) (above : Bool) (w : World) (_ : (Lit.int .i64 fn).wf = true) (_ : (Lit.int .i64 fd).wf = true) (_ : (Lit.int .i64 a).wf = true) (_ : (Lit.int .i64 b).wf = true) (_ : (Lit.int .i64 c).wf = true) (_ : (Lit.int .i64 d).wf = true) (_ : (Lit.int .i64 e).wf = true) (_ : (Lit.int .i64 f).wf = true) :
    Calls Try.prog 5 #[.agg #[.int .i64 fn, .int .i64 fd], .agg #[.int .i64 a, .int .i64 b, .int .i64 c, .int .i64 d, .int .i64 e, .int .i64 f], .bool above] w (Ret (.bool true) w) := by
  have HH := Lib.hid (fun w => head17_c w)
  have hP := fun w => Pair_c a b c d e f w
  unfold paV at hP
  by_cases hK : paK a b c d e f = 0
  case neg =>
    have ho := pa_bad hK
    simp only [ho, Bool.false_eq_true, if_false] at hP
    have hK' : (paK a b c d e f != 0) = true := by simpa using hK
    clear hK ho
    generalize paK a b c d e f = K at *
    have HP := Lib.hid hP
    clear hP
    go_enter Try.func5, Try.ntmps5
    go_wp2_with (first | (go_at_call 11; ((with_reducible refine (HH.out _).mono ?_); rintro e w' ⟨rfl, hb⟩; obtain ⟨hz, hc, hf⟩ := bcl hb (by first | (simp; rfl) | rfl))) | (go_at_call 16; ((with_reducible refine (HP.out _).mono ?_); rintro e w' ⟨rfl, hb⟩; obtain ⟨hz, hc, hf⟩ := bcl hb (by first | (simp; rfl) | rfl))))
    go_ret
    refine ⟨rfl, ?_⟩
    (repeat (first | (with_reducible exact bl_refl _) | (with_reducible refine bl_drew ?_) | (with_reducible refine bl_alloc ?_ _) | (with_reducible refine bl_set' ?_ ?_; · (first | omega | (simp; done) | (simp; omega))) | (with_reducible refine bl_last (by assumption) ?_) | (with_reducible refine bl_drewN ?_ _)))
  obtain ⟨ho, ⟨p1, p2⟩, q1, q2⟩ := pa_ok hK
  simp only [ho, if_true, hK] at hP
  clear hK ho
  generalize (paU a b c d e f 6 : Int) = P at *
  generalize (paD a b c d e f 6 : Int) = Q at *
  have hl := pure_law (fn := fn) (fd := fd) (above := above) p1 p2 q1 q2
  have hsl := set_law (fn := fn) (fd := fd) (p := P) (q := Q) (rn := 0) (rd := 1) (above := above)
  have hMk := fun w => RMake_c P Q w ⟨by omega, by omega⟩ ⟨by omega, by omega⟩
  unfold mkV at hMk
  simp only [mk_small p1 p2 q1 q2] at hMk
  have hMu := fun w => RMul_c fn fd (mkN P Q) (mkD P Q) w
  simp only [pu_eq] at hMu
  have hS := fun w => Set_c fn fd P Q 0 1 above w
  simp only [seV_eq] at hS
  have hR := fun w => Rate_c fn fd (seX fn fd P Q 0 1 above) (seY fn fd P Q 0 1 above) P Q w
  simp only [raV_eq] at hR
  have hF1 := fun w => Freq_c fn fd w
  have hF2 := fun w => Freq_c (puN fn fd (mkN P Q) (mkD P Q)) (puD fn fd (mkN P Q) (mkD P Q)) w
  generalize puN fn fd (mkN P Q) (mkD P Q) = gN at *
  generalize puD fn fd (mkN P Q) (mkD P Q) = gD at *
  generalize puE fn fd (mkN P Q) (mkD P Q) = J at *
  generalize mkN P Q = rN at *
  generalize mkD P Q = rD at *
  have t1 : ¬ P < 1 := by omega
  have t2 : ¬ Q < 1 := by omega
  clear p1 p2 q1 q2
  have HP := Lib.hid hP
  have HMk := Lib.hid hMk
  have HMu := Lib.hid hMu
  have HS := Lib.hid hS
  clear hP hMk hMu hS
  have hw : ((J != 0) = true ∧ (seE fn fd P Q 0 1 above != 0) = true) ∨ (J = 0 ∧ sdV fn fd = false ∧ (seE fn fd P Q 0 1 above != 0) = true) ∨ (J = 0 ∧ sdV fn fd = true ∧ sdV gN gD = false ∧ (seE fn fd P Q 0 1 above != 0) = true) ∨ (J = 0 ∧ sdV fn fd = true ∧ sdV gN gD = true ∧ seE fn fd P Q 0 1 above = 0 ∧ seX fn fd P Q 0 1 above = gN ∧ seY fn fd P Q 0 1 above = gD) := by
    rcases hl with ⟨h1, h2⟩ | ⟨h1, h2, h3, h4, h5, h6⟩
    · have h2' : (seE fn fd P Q 0 1 above != 0) = true := by simpa using h2
      by_cases j0 : J = 0
      · cases s1 : sdV fn fd
        · exact Or.inr (Or.inl ⟨j0, rfl, h2'⟩)
        · cases s2 : sdV gN gD
          · exact Or.inr (Or.inr (Or.inl ⟨j0, rfl, rfl, h2'⟩))
          · rcases h1 with h | h | h
            · rw [s1] at h; cases h
            · exact absurd j0 h
            · rw [s2] at h; cases h
      · exact Or.inl ⟨by simpa using j0, h2'⟩
    · exact Or.inr (Or.inr (Or.inr ⟨h2, h1, h3, h4, h5, h6⟩))
  clear hl
  rcases hw with ⟨g1, g2⟩ | ⟨rfl, g1, g2⟩ | ⟨rfl, g1, g3, g2⟩ | hq
  case inr.inr.inr =>
    obtain ⟨rfl, g1, g3, h4, h5, h6⟩ := hq
    obtain ⟨⟨r1, r2, r3⟩, _⟩ := hsl h4
    rw [r1, r2, r3] at hR
    rw [h5, h6] at hR
    rw [h4, h5, h6] at HS
    rw [g1] at hF1
    rw [g3] at hF2
    have HR := Lib.hid hR
    have HF1 := Lib.hid hF1
    have HF2 := Lib.hid hF2
    clear hF1 hF2 hR hsl r1 r2 r3 h4 h5 h6
    go_enter Try.func5, Try.ntmps5
    go_wp2_with fail
    ((with_reducible refine (HH.out _).mono ?_); rintro e v1 ⟨rfl, b1⟩)
    obtain ⟨hz1, hc1, hf1⟩ := bcl b1 (by first | (simp; rfl) | rfl)
    have z1 : w.heap.size + 1 < v1.heap.size := by omega
    have z1' : w.heap.size < v1.heap.size := by omega
    go_wp2_with fail
    ((with_reducible refine (HP.out _).mono ?_); rintro e v2 ⟨rfl, b2⟩)
    obtain ⟨hz2, hc2, hf2⟩ := bcl b2 (by first | (simp; rfl) | rfl)
    have z2 : w.heap.size + 1 < v2.heap.size := by omega
    have z2' : w.heap.size < v2.heap.size := by omega
    go_wp2_with fail
    ((with_reducible refine (HMk.out _).mono ?_); rintro e v3 ⟨rfl, b3⟩)
    obtain ⟨hz3, hc3, hf3⟩ := bcl b3 (by first | (simp; rfl) | rfl)
    have z3 : w.heap.size + 1 < v3.heap.size := by omega
    have z3' : w.heap.size < v3.heap.size := by omega
    go_wp2_with fail
    ((with_reducible refine (HMu.out _).mono ?_); rintro e v4 ⟨rfl, b4⟩)
    obtain ⟨hz4, hc4, hf4⟩ := bcl b4 (by first | (simp; rfl) | rfl)
    have z4 : w.heap.size + 1 < v4.heap.size := by omega
    have z4' : w.heap.size < v4.heap.size := by omega
    go_wp2_with fail
    refine wp_letter ?_
    intro W0 hW0
    have k0 : Below w.heap.size w W0 := by
      rw [hW0]
      repeat (first | (with_reducible refine bl_alloc ?_ _) | (with_reducible refine bl_last (by assumption) ?_) | (with_reducible exact bl_refl _))
    have F0 : Blk W0 w.heap.size 23 #[.int .i64 fn, .int .i64 fd] := by
      rw [hW0]
      repeat (first | (with_reducible exact Blk.new _ _ _) | (with_reducible refine blk_last ?_ (by assumption)) | (with_reducible refine Blk.alloc ?_ _))
    have G0 : Blk W0 v4.heap.size 23 #[.int .i64 gN, .int .i64 gD] := by
      rw [hW0]
      repeat (first | (with_reducible exact Blk.new _ _ _) | (with_reducible refine blk_last ?_ (by assumption)) | (with_reducible refine Blk.alloc ?_ _))
    have cF0 := F0.cell 0
    have cF1 := F0.cell 1
    have zF := F0.lt
    have zG := G0.lt
    simp only [List.getElem?_toArray, List.getElem?_cons_zero, List.getElem?_cons_succ] at cF0 cF1
    clear hW0 hc1 hf1 hc2 hf2 hc3 hf3 hc4 hf4
    (refine wp_region_alloc [0,1,2,3,4,5,6,7,8] [8] [10,11] 9 23 #[.int .i64 0, .int .i64 0] _ (by kernel_rfl) (by kernel_rfl) (by kernel_rfl) (by rfl) (by repeat (first | exact panic_body | refine panic_then ?_ | refine panic_block ?_)) rfl (fun _ _ => by go_simp) ?_
     simp only [pickI, pick, List.getElem?_cons_succ, List.getElem?_cons_zero]
     iterate 9 (first
       | (refine headZ_val (by rfl) (by rfl) ?_
          apply Exists.intro
          refine ⟨fun X hX => ?_, ?_⟩
          · (obtain ⟨qz, qc, qf⟩ := bcl hX.out (by first | (simp; rfl) | rfl)
             go_simp
             first | done | (go_at_call 28; ((with_reducible refine (of17_0_1 _).mono ?_); rintro e w2 ⟨rfl, hb2⟩; exact ⟨rfl, hb2⟩)) | (go_at_call 14; ((with_reducible refine (HS.out _).mono ?_); rintro e w2 ⟨rfl, hb2⟩; exact ⟨rfl, hb2⟩)) | rfl | exact ⟨rfl, rfl⟩)
          simp only [Act.put, List.setIfInBounds_toArray, List.set_cons_zero, List.set_cons_succ])
       | (refine headZ_pure (by rfl) (by rfl) ?_
          apply Exists.intro
          refine ⟨fun X => ?_, ?_⟩
          · (go_simp
             first | done | rfl)
          simp only [Act.put, List.setIfInBounds_toArray, List.set_cons_zero, List.set_cons_succ])
       | (refine headZ_pass (by rfl) ?_
          simp only [Act.put, List.setIfInBounds_toArray, List.set_cons_zero, List.set_cons_succ]))
     refine headZ_nil ?_
     intro w' Bq hw' hBq hBk
     have hb := hw'.out
     clear hw'
     try simp only [Act.put, List.setIfInBounds_toArray, List.set_cons_zero, List.set_cons_succ]
     obtain ⟨hz, hc, hf⟩ := bcl hb (by first | (simp; rfl) | rfl))
    have u0 := hBk.cell 0
    have u1 := hBk.cell 1
    have f0 := hBk.frozen 0
    have f1 := hBk.frozen 1
    have F1 := F0.below hb zF
    have G1 := G0.below hb zG
    have dF0 := F1.cell 0
    have dF1 := F1.cell 1
    have dG0 := G1.cell 0
    have dG1 := G1.cell 1
    have nF : w.heap.size ≠ Bq := by have := k0.size; omega
    have nG : v4.heap.size ≠ Bq := by omega
    simp only [List.getElem?_toArray, List.getElem?_cons_zero, List.getElem?_cons_succ] at u0 u1 dF0 dF1 dG0 dG1
    have zB : w.heap.size ≤ Bq := by have := k0.size; omega
    clear hc hf cF0 cF1
    go_wp2_with fail
    refine calls_letter ?_
    intro W1 hW1
    have k1 : Below w.heap.size w W1 := by
      rw [hW1]
      exact bl_set' zB (bl_set' zB (bl_trans k0 hb))
    have F2 : Blk W1 w.heap.size 23 #[.int .i64 fn, .int .i64 fd] := by
      rw [hW1]
      exact ((F1.far (by show w.heap.size ≠ Bq; omega) _).far (by show w.heap.size ≠ Bq; omega) _)
    have G2 : Blk W1 v4.heap.size 23 #[.int .i64 gN, .int .i64 gD] := by
      rw [hW1]
      exact ((G1.far (by show v4.heap.size ≠ Bq; omega) _).far (by show v4.heap.size ≠ Bq; omega) _)
    have X2 : Blk W1 Bq 23 #[.int .i64 gN, .int .i64 gD] := by
      rw [hW1]
      exact ((hBk.set_ 0 (.int .i64 gN)).set_ 1 (.int .i64 gD))
    clear hW1
    clear hb hBk hBq hz u0 u1 f0 f1 dF0 dF1 dG0 dG1 nF nG
    have zF := F2.lt
    have zG := G2.lt
    have zX := X2.lt
    ((with_reducible refine (HF1.out _).mono ?_); rintro e v5 ⟨rfl, b5⟩)
    have F3 := F2.below b5 zF
    have G3 := G2.below b5 zG
    have X3 := X2.below b5 zX
    have c30 := G3.cell 0
    have c31 := G3.cell 1
    simp only [List.getElem?_toArray, List.getElem?_cons_zero, List.getElem?_cons_succ] at c30 c31
    go_wp2_with fail
    ((with_reducible refine (HF2.out _).mono ?_); rintro e v6 ⟨rfl, b6⟩)
    have F4 := F3.below b6 F3.lt
    have G4 := G3.below b6 G3.lt
    have X4 := X3.below b6 X3.lt
    have c40 := F4.cell 0
    have c41 := F4.cell 1
    have c42 := G4.cell 0
    have c43 := G4.cell 1
    simp only [List.getElem?_toArray, List.getElem?_cons_zero, List.getElem?_cons_succ] at c40 c41 c42 c43
    go_wp2_with fail
    ((with_reducible refine (HR.out _).mono ?_); rintro e v7 ⟨rfl, b7⟩)
    have G5 := G4.below b7 G4.lt
    have X5 := X4.below b7 X4.lt
    go_wp2_with fail
    refine wp_letter ?_
    intro W6 hW6
    have k6 : Below w.heap.size w W6 := by
      rw [hW6]
      repeat (first | (with_reducible exact k1) | (with_reducible refine bl_alloc ?_ _) | (with_reducible refine bl_last (by assumption) ?_) | (with_reducible exact bl_refl _))
    have G6 : Blk W6 v4.heap.size 23 #[.int .i64 gN, .int .i64 gD] := by
      rw [hW6]
      repeat (first | (with_reducible assumption) | (with_reducible exact Blk.new _ _ _) | (with_reducible refine blk_last ?_ (by assumption)) | (with_reducible refine Blk.alloc ?_ _))
    have X6 : Blk W6 Bq 23 #[.int .i64 gN, .int .i64 gD] := by
      rw [hW6]
      repeat (first | (with_reducible assumption) | (with_reducible exact Blk.new _ _ _) | (with_reducible refine blk_last ?_ (by assumption)) | (with_reducible refine Blk.alloc ?_ _))
    have R6 : Blk W6 v7.heap.size 23 #[.int .i64 0, .int .i64 1] := by
      rw [hW6]
      repeat (first | (with_reducible assumption) | (with_reducible exact Blk.new _ _ _) | (with_reducible refine blk_last ?_ (by assumption)) | (with_reducible refine Blk.alloc ?_ _))
    clear hW6 c30 c31 c40 c41 c42 c43
    have zG := G6.lt
    have zX := X6.lt
    have zR := R6.lt
    have e0 := G6.cell 0
    have e1 := G6.cell 1
    have e2 := X6.cell 0
    have e3 := X6.cell 1
    have e4 := R6.cell 0
    have e5 := R6.cell 1
    simp only [List.getElem?_toArray, List.getElem?_cons_zero, List.getElem?_cons_succ] at e0 e1 e2 e3 e4 e5
    (refine wp_region_bl [0,1,2,3,4,5,6,7,8,9,10,11,12,13,14,15,16,17,18] [19] (by kernel_rfl) (by kernel_rfl) (by rfl) ?_
     simp only [pickI, pick, List.getElem?_cons_succ, List.getElem?_cons_zero]
     iterate 19 (first
       | (refine head_val (by rfl) (by rfl) ?_
          apply Exists.intro
          refine ⟨fun X hX => ?_, ?_⟩
          · (obtain ⟨qz, qc, qf⟩ := bcl hX.out (by first | (simp; rfl) | rfl)
             go_simp
             first | done | (go_at_call 28; ((with_reducible refine (of17_0_1 _).mono ?_); rintro e w2 ⟨rfl, hb2⟩; exact ⟨rfl, hX.trans hb2⟩)) | rfl | exact ⟨rfl, rfl⟩)
          simp only [Act.put, List.setIfInBounds_toArray, List.set_cons_zero, List.set_cons_succ])
       | (refine head_pass (by rfl) ?_
          simp only [Act.put, List.setIfInBounds_toArray, List.set_cons_zero, List.set_cons_succ]))
     refine head_nil ?_
     intro w' hw'
     have hb := hw'.out
     clear hw'
     obtain ⟨hz, hc, hf⟩ := bcl hb (by first | (simp; rfl) | rfl))
    clear hc hf
    go_wp2
    go_ret
    exact ⟨rfl, bl_trans k6 hb⟩
  all_goals
    clear hsl hR
    try rw [g1] at hF1
    try rw [g3] at hF2
    have HF1 := Lib.hid hF1
    have HF2 := Lib.hid hF2
    clear hF1 hF2
    generalize seE fn fd P Q 0 1 above = K at *
    generalize seX fn fd P Q 0 1 above = x at *
    generalize seY fn fd P Q 0 1 above = y at *
    go_enter Try.func5, Try.ntmps5
    go_wp2_with fail
    ((with_reducible refine (HH.out _).mono ?_); rintro e v1 ⟨rfl, b1⟩)
    obtain ⟨hz1, hc1, hf1⟩ := bcl b1 (by first | (simp; rfl) | rfl)
    have z1 : w.heap.size + 1 < v1.heap.size := by omega
    have z1' : w.heap.size < v1.heap.size := by omega
    go_wp2_with fail
    ((with_reducible refine (HP.out _).mono ?_); rintro e v2 ⟨rfl, b2⟩)
    obtain ⟨hz2, hc2, hf2⟩ := bcl b2 (by first | (simp; rfl) | rfl)
    have z2 : w.heap.size + 1 < v2.heap.size := by omega
    have z2' : w.heap.size < v2.heap.size := by omega
    go_wp2_with fail
    ((with_reducible refine (HMk.out _).mono ?_); rintro e v3 ⟨rfl, b3⟩)
    obtain ⟨hz3, hc3, hf3⟩ := bcl b3 (by first | (simp; rfl) | rfl)
    have z3 : w.heap.size + 1 < v3.heap.size := by omega
    have z3' : w.heap.size < v3.heap.size := by omega
    go_wp2_with fail
    ((with_reducible refine (HMu.out _).mono ?_); rintro e v4 ⟨rfl, b4⟩)
    obtain ⟨hz4, hc4, hf4⟩ := bcl b4 (by first | (simp; rfl) | rfl)
    have z4 : w.heap.size + 1 < v4.heap.size := by omega
    have z4' : w.heap.size < v4.heap.size := by omega
    go_wp2_with fail
    refine wp_letter ?_
    intro W0 hW0
    have k0 : Below w.heap.size w W0 := by
      rw [hW0]
      repeat (first | (with_reducible refine bl_alloc ?_ _) | (with_reducible refine bl_last (by assumption) ?_) | (with_reducible exact bl_refl _))
    have F0 : Blk W0 w.heap.size 23 #[.int .i64 fn, .int .i64 fd] := by
      rw [hW0]
      repeat (first | (with_reducible exact Blk.new _ _ _) | (with_reducible refine blk_last ?_ (by assumption)) | (with_reducible refine Blk.alloc ?_ _))
    have G0 : Blk W0 v4.heap.size 23 #[.int .i64 gN, .int .i64 gD] := by
      rw [hW0]
      repeat (first | (with_reducible exact Blk.new _ _ _) | (with_reducible refine blk_last ?_ (by assumption)) | (with_reducible refine Blk.alloc ?_ _))
    have cF0 := F0.cell 0
    have cF1 := F0.cell 1
    have zF := F0.lt
    have zG := G0.lt
    simp only [List.getElem?_toArray, List.getElem?_cons_zero, List.getElem?_cons_succ] at cF0 cF1
    clear hW0 hc1 hf1 hc2 hf2 hc3 hf3 hc4 hf4
    (refine wp_region_alloc [0,1,2,3,4,5,6,7,8] [8] [10,11] 9 23 #[.int .i64 0, .int .i64 0] _ (by kernel_rfl) (by kernel_rfl) (by kernel_rfl) (by rfl) (by repeat (first | exact panic_body | refine panic_then ?_ | refine panic_block ?_)) rfl (fun _ _ => by go_simp) ?_
     simp only [pickI, pick, List.getElem?_cons_succ, List.getElem?_cons_zero]
     iterate 9 (first
       | (refine headZ_val (by rfl) (by rfl) ?_
          apply Exists.intro
          refine ⟨fun X hX => ?_, ?_⟩
          · (obtain ⟨qz, qc, qf⟩ := bcl hX.out (by first | (simp; rfl) | rfl)
             go_simp
             first | done | (go_at_call 28; ((with_reducible refine (of17_0_1 _).mono ?_); rintro e w2 ⟨rfl, hb2⟩; exact ⟨rfl, hb2⟩)) | (go_at_call 14; ((with_reducible refine (HS.out _).mono ?_); rintro e w2 ⟨rfl, hb2⟩; exact ⟨rfl, hb2⟩)) | rfl | exact ⟨rfl, rfl⟩)
          simp only [Act.put, List.setIfInBounds_toArray, List.set_cons_zero, List.set_cons_succ])
       | (refine headZ_pure (by rfl) (by rfl) ?_
          apply Exists.intro
          refine ⟨fun X => ?_, ?_⟩
          · (go_simp
             first | done | rfl)
          simp only [Act.put, List.setIfInBounds_toArray, List.set_cons_zero, List.set_cons_succ])
       | (refine headZ_pass (by rfl) ?_
          simp only [Act.put, List.setIfInBounds_toArray, List.set_cons_zero, List.set_cons_succ]))
     refine headZ_nil ?_
     intro w' Bq hw' hBq hBk
     have hb := hw'.out
     clear hw'
     try simp only [Act.put, List.setIfInBounds_toArray, List.set_cons_zero, List.set_cons_succ]
     obtain ⟨hz, hc, hf⟩ := bcl hb (by first | (simp; rfl) | rfl))
    have u0 := hBk.cell 0
    have u1 := hBk.cell 1
    have f0 := hBk.frozen 0
    have f1 := hBk.frozen 1
    have F1 := F0.below hb zF
    have G1 := G0.below hb zG
    have dF0 := F1.cell 0
    have dF1 := F1.cell 1
    have dG0 := G1.cell 0
    have dG1 := G1.cell 1
    have nF : w.heap.size ≠ Bq := by have := k0.size; omega
    have nG : v4.heap.size ≠ Bq := by omega
    simp only [List.getElem?_toArray, List.getElem?_cons_zero, List.getElem?_cons_succ] at u0 u1 dF0 dF1 dG0 dG1
    have zB : w.heap.size ≤ Bq := by have := k0.size; omega
    have hb0 := hb
    clear hc hf cF0 cF1 hb
    go_wp2_with (first | (go_at_call 29; ((with_reducible refine (HF1.out _).mono ?_); rintro e w' ⟨rfl, hb⟩; obtain ⟨hz, hc, hf⟩ := bcl hb (by first | (simp; rfl) | rfl))) | (go_at_call 29; ((with_reducible refine (HF2.out _).mono ?_); rintro e w' ⟨rfl, hb⟩; obtain ⟨hz, hc, hf⟩ := bcl hb (by first | (simp; rfl) | rfl))))
    go_ret
    refine ⟨rfl, ?_⟩
    repeat (with_reducible refine bl_last (by assumption) ?_)
    exact bl_set' zB (bl_set' zB (bl_trans k0 hb0))
end Go.Proofs.Ythlnfjllkmielaa
