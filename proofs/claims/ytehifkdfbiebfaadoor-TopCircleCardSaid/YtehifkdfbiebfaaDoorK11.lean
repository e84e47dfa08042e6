/- Rational: Valid. Rational: the operations of two numbers: value.plus .., combine, Add, Sub, Mul, Div. -/
import Derived.Test.YtehifkdfbiebfaaDoorK05
namespace Go.Proofs.YtehifkdfbiebfaaDoor
open Go.RowKit

set_option maxRecDepth 100000 in
set_option maxHeartbeats 1000000 in
theorem Valid_c (n d : Int) (w : World) : Calls Tryd.prog 52 #[.agg #[.int .i64 n, .int .i64 d]] w (Ret (.bool (vR n d)) w) := by
  rcases v_ways n d with ⟨h1, hv⟩ | ⟨h1, h2, hv⟩ | ⟨h1, h2, h3, hv⟩ | ⟨h1, h2, h3, h4, hv⟩ | ⟨h1, h2, h3, h4, hv⟩
  · rw [hv]
    clear hv
    have b1 : decide (1 ≤ d) = false := decide_eq_false (by omega)
    go_enter Tryd.func52, Tryd.ntmps52
    go_wp2
    (refine wp_region_bl [0,1,2,3,4,5,6,7,8,9,10,11,12,13,14,15,16,17,18,19,20,21,22,23,24,25,26,27] [28] (by kernel_rfl) (by kernel_rfl) (by rfl) ?_
     simp only [pickI, pick, List.getElem?_cons_succ, List.getElem?_cons_zero]
     iterate 28 (first
       | (refine head_val (by rfl) (by first | exact wanted_free rfl | rfl) ?_
          apply Exists.intro
          refine ⟨fun X hX => ?_, ?_⟩
          · (obtain ⟨qz, qc, qf⟩ := bcl hX.out (by first | (simp; rfl) | rfl)
             go_simp
             first | done | rfl | exact ⟨rfl, rfl⟩)
          simp only [Act.put, List.setIfInBounds_toArray, List.set_cons_zero, List.set_cons_succ])
       | (refine head_pass (by rfl) ?_
          simp only [Act.put, List.setIfInBounds_toArray, List.set_cons_zero, List.set_cons_succ]))
     refine head_nil ?_
     intro w' hw'
     have hb := hw'.out
     clear hw'
     obtain ⟨hz, hc, hf⟩ := bcl hb (by first | (simp; rfl) | rfl))
    go_wp2
    go_ret
    refine ⟨rfl, ?_⟩
    (repeat (first | (with_reducible exact bl_refl _) | (with_reducible refine bl_drew ?_) | (with_reducible refine bl_alloc ?_ _) | (with_reducible refine bl_set' ?_ ?_; · (first | omega | (simp; done) | (simp; omega))) | (with_reducible refine bl_last (by assumption) ?_) | (with_reducible refine bl_drewN ?_ _)))
  · rw [hv]
    clear hv
    have b1 : decide (1 ≤ d) = true := decide_eq_true h1
    have b2 : decide (d ≤ 1000000000) = false := decide_eq_false (by omega)
    go_enter Tryd.func52, Tryd.ntmps52
    go_wp2
    (refine wp_region_bl [0,1,2,3,4,5,6,7,8,9,10,11,12,13,14,15,16,17,18,19,20,21,22,23,24,25,26,27] [28] (by kernel_rfl) (by kernel_rfl) (by rfl) ?_
     simp only [pickI, pick, List.getElem?_cons_succ, List.getElem?_cons_zero]
     iterate 28 (first
       | (refine head_val (by rfl) (by first | exact wanted_free rfl | rfl) ?_
          apply Exists.intro
          refine ⟨fun X hX => ?_, ?_⟩
          · (obtain ⟨qz, qc, qf⟩ := bcl hX.out (by first | (simp; rfl) | rfl)
             go_simp
             first | done | rfl | exact ⟨rfl, rfl⟩)
          simp only [Act.put, List.setIfInBounds_toArray, List.set_cons_zero, List.set_cons_succ])
       | (refine head_pass (by rfl) ?_
          simp only [Act.put, List.setIfInBounds_toArray, List.set_cons_zero, List.set_cons_succ]))
     refine head_nil ?_
     intro w' hw'
     have hb := hw'.out
     clear hw'
     obtain ⟨hz, hc, hf⟩ := bcl hb (by first | (simp; rfl) | rfl))
    go_wp2
    go_ret
    refine ⟨rfl, ?_⟩
    (repeat (first | (with_reducible exact bl_refl _) | (with_reducible refine bl_drew ?_) | (with_reducible refine bl_alloc ?_ _) | (with_reducible refine bl_set' ?_ ?_; · (first | omega | (simp; done) | (simp; omega))) | (with_reducible refine bl_last (by assumption) ?_) | (with_reducible refine bl_drewN ?_ _)))
  · rw [hv]
    clear hv
    have b1 : decide (1 ≤ d) = true := decide_eq_true h1
    have b2 : decide (d ≤ 1000000000) = true := decide_eq_true h2
    have b3 : decide (-1000000000 ≤ n) = false := decide_eq_false (by omega)
    go_enter Tryd.func52, Tryd.ntmps52
    go_wp2
    (refine wp_region_bl [0,1,2,3,4,5,6,7,8,9,10,11,12,13,14,15,16,17,18,19,20,21,22,23,24,25,26,27] [28] (by kernel_rfl) (by kernel_rfl) (by rfl) ?_
     simp only [pickI, pick, List.getElem?_cons_succ, List.getElem?_cons_zero]
     iterate 28 (first
       | (refine head_val (by rfl) (by first | exact wanted_free rfl | rfl) ?_
          apply Exists.intro
          refine ⟨fun X hX => ?_, ?_⟩
          · (obtain ⟨qz, qc, qf⟩ := bcl hX.out (by first | (simp; rfl) | rfl)
             go_simp
             first | done | rfl | exact ⟨rfl, rfl⟩)
          simp only [Act.put, List.setIfInBounds_toArray, List.set_cons_zero, List.set_cons_succ])
       | (refine head_pass (by rfl) ?_
          simp only [Act.put, List.setIfInBounds_toArray, List.set_cons_zero, List.set_cons_succ]))
     refine head_nil ?_
     intro w' hw'
     have hb := hw'.out
     clear hw'
     obtain ⟨hz, hc, hf⟩ := bcl hb (by first | (simp; rfl) | rfl))
    go_wp2
    go_ret
    refine ⟨rfl, ?_⟩
    (repeat (first | (with_reducible exact bl_refl _) | (with_reducible refine bl_drew ?_) | (with_reducible refine bl_alloc ?_ _) | (with_reducible refine bl_set' ?_ ?_; · (first | omega | (simp; done) | (simp; omega))) | (with_reducible refine bl_last (by assumption) ?_) | (with_reducible refine bl_drewN ?_ _)))
  · rw [hv]
    clear hv
    have b1 : decide (1 ≤ d) = true := decide_eq_true h1
    have b2 : decide (d ≤ 1000000000) = true := decide_eq_true h2
    have b3 : decide (-1000000000 ≤ n) = true := decide_eq_true h3
    have b4 : decide (n ≤ 1000000000) = false := decide_eq_false (by omega)
    go_enter Tryd.func52, Tryd.ntmps52
    go_wp2
    (refine wp_region_bl [0,1,2,3,4,5,6,7,8,9,10,11,12,13,14,15,16,17,18,19,20,21,22,23,24,25,26,27] [28] (by kernel_rfl) (by kernel_rfl) (by rfl) ?_
     simp only [pickI, pick, List.getElem?_cons_succ, List.getElem?_cons_zero]
     iterate 28 (first
       | (refine head_val (by rfl) (by first | exact wanted_free rfl | rfl) ?_
          apply Exists.intro
          refine ⟨fun X hX => ?_, ?_⟩
          · (obtain ⟨qz, qc, qf⟩ := bcl hX.out (by first | (simp; rfl) | rfl)
             go_simp
             first | done | rfl | exact ⟨rfl, rfl⟩)
          simp only [Act.put, List.setIfInBounds_toArray, List.set_cons_zero, List.set_cons_succ])
       | (refine head_pass (by rfl) ?_
          simp only [Act.put, List.setIfInBounds_toArray, List.set_cons_zero, List.set_cons_succ]))
     refine head_nil ?_
     intro w' hw'
     have hb := hw'.out
     clear hw'
     obtain ⟨hz, hc, hf⟩ := bcl hb (by first | (simp; rfl) | rfl))
    go_wp2
    go_ret
    refine ⟨rfl, ?_⟩
    (repeat (first | (with_reducible exact bl_refl _) | (with_reducible refine bl_drew ?_) | (with_reducible refine bl_alloc ?_ _) | (with_reducible refine bl_set' ?_ ?_; · (first | omega | (simp; done) | (simp; omega))) | (with_reducible refine bl_last (by assumption) ?_) | (with_reducible refine bl_drewN ?_ _)))
  · rw [hv]
    clear hv
    have G := fun w => gcd_c (absF n) (absF d) w (absF_le n (by omega) (by omega)) (absF_le d (by omega) (by omega))
    have A1 := Lib.hid (fun w => abs_c n w (by omega) (by omega))
    have A2 := Lib.hid (fun w => abs_c d w (by omega) (by omega))
    generalize Nat.gcd (absF n) (absF d) = g at *
    have G := Lib.hid G
    have b1 : decide (1 ≤ d) = true := decide_eq_true h1
    have b2 : decide (d ≤ 1000000000) = true := decide_eq_true h2
    have b3 : decide (-1000000000 ≤ n) = true := decide_eq_true h3
    have b4 : decide (n ≤ 1000000000) = true := decide_eq_true h4
    go_enter Tryd.func52, Tryd.ntmps52
    go_wp2
    (refine wp_region_bl [0,1,2,3,4,5,6,7,8,9,10,11,12,13,14,15,16,17,18,19,20,21,22,23,24,25,26,27] [28] (by kernel_rfl) (by kernel_rfl) (by rfl) ?_
     simp only [pickI, pick, List.getElem?_cons_succ, List.getElem?_cons_zero]
     iterate 28 (first
       | (refine head_val (by rfl) (by first | exact wanted_free rfl | rfl) ?_
          apply Exists.intro
          refine ⟨fun X hX => ?_, ?_⟩
          · (obtain ⟨qz, qc, qf⟩ := bcl hX.out (by first | (simp; rfl) | rfl)
             go_simp
             first | done | (go_at_call 108; ((with_reducible refine (A1.out _).mono ?_); rintro e w2 ⟨rfl, rfl⟩; exact ⟨rfl, hX⟩)) | (go_at_call 108; ((with_reducible refine (A2.out _).mono ?_); rintro e w2 ⟨rfl, rfl⟩; exact ⟨rfl, hX⟩)) | (go_at_call 107; refine (G.out _).mono ?_; rintro e w2 ⟨rfl, hb2⟩; exact ⟨rfl, hX.trans hb2⟩) | rfl | exact ⟨rfl, rfl⟩)
          simp only [Act.put, List.setIfInBounds_toArray, List.set_cons_zero, List.set_cons_succ])
       | (refine head_pass (by rfl) ?_
          simp only [Act.put, List.setIfInBounds_toArray, List.set_cons_zero, List.set_cons_succ]))
     refine head_nil ?_
     intro w' hw'
     have hb := hw'.out
     clear hw'
     obtain ⟨hz, hc, hf⟩ := bcl hb (by first | (simp; rfl) | rfl))
    go_wp2
    go_ret
    refine ⟨rfl, ?_⟩
    (repeat (first | (with_reducible exact bl_refl _) | (with_reducible refine bl_drew ?_) | (with_reducible refine bl_alloc ?_ _) | (with_reducible refine bl_set' ?_ ?_; · (first | omega | (simp; done) | (simp; omega))) | (with_reducible refine bl_last (by assumption) ?_) | (with_reducible refine bl_drewN ?_ _)))

end Go.Proofs.YtehifkdfbiebfaaDoor
namespace Go.Proofs.YtehifkdfbiebfaaDoor
open Go.RowKit

theorem mul_bd {x y : Int} (h1 : -1000000000 ≤ x) (h2 : x ≤ 1000000000) (h3 : -1000000000 ≤ y) (h4 : y ≤ 1000000000) : -1000000000000000000 ≤ x * y ∧ x * y ≤ 1000000000000000000 := by
  have h : (x * y).natAbs ≤ 1000000000 * 1000000000 := by
    rw [Int.natAbs_mul]
    exact Nat.mul_le_mul (by omega) (by omega)
  omega
def Rg (n d : Int) : Prop := -1000000000 ≤ n ∧ n ≤ 1000000000 ∧ 1 ≤ d ∧ d ≤ 1000000000
theorem rg_of {n d : Int} (h : vR n d = true) : Rg n d := by
  have := v_of h
  exact ⟨this.2.2.1, this.2.2.2.1, this.1, this.2.1⟩

set_option maxRecDepth 100000 in
set_option maxHeartbeats 1000000 in
theorem plus_c (an ad bn bd : Int) (w : World) (ha : Rg an ad) (hb : Rg bn bd) :
    Calls Tryd.prog 67 #[.agg #[.int .i64 an, .int .i64 ad], .agg #[.int .i64 bn, .int .i64 bd]] w (Ret (.tuple #[.int .i64 (an * bd + bn * ad), .int .i64 (ad * bd)]) w) := by
  obtain ⟨a1, a2, a3, a4⟩ := ha
  obtain ⟨b1, b2, b3, b4⟩ := hb
  obtain ⟨m0, m0'⟩ := mul_bd (x := an) (y := bd) (by omega) (by omega) (by omega) (by omega)
  have q0 : IntKind.i64.wrap (an * bd) = an * bd := by rw [IntKind.wrap_i64]; omega
  obtain ⟨m1, m1'⟩ := mul_bd (x := bn) (y := ad) (by omega) (by omega) (by omega) (by omega)
  have q1 : IntKind.i64.wrap (bn * ad) = bn * ad := by rw [IntKind.wrap_i64]; omega
  obtain ⟨m2, m2'⟩ := mul_bd (x := ad) (y := bd) (by omega) (by omega) (by omega) (by omega)
  have q2 : IntKind.i64.wrap (ad * bd) = ad * bd := by rw [IntKind.wrap_i64]; omega
  have r0 : IntKind.i64.wrap (an * bd + bn * ad) = an * bd + bn * ad := by rw [IntKind.wrap_i64]; omega
  go_enter Tryd.func67, Tryd.ntmps67
  go_wp2
  (refine wp_region_bl [0,1,2,3,4,5,6,7,8,9,10,11,12,13,14,15,16,17] [] (by kernel_rfl) (by kernel_rfl) (by rfl) ?_
   simp only [pickI, pick, List.getElem?_cons_succ, List.getElem?_cons_zero]
   iterate 18 (first
     | (refine head_val (by rfl) (by first | exact wanted_free rfl | rfl) ?_
        apply Exists.intro
        refine ⟨fun X hX => ?_, ?_⟩
        · (obtain ⟨qz, qc, qf⟩ := bcl hX.out (by first | (simp; rfl) | rfl)
           go_simp
           first | done | rfl | exact ⟨rfl, rfl⟩)
        simp only [Act.put, List.setIfInBounds_toArray, List.set_cons_zero, List.set_cons_succ])
     | (refine head_pass (by rfl) ?_
        simp only [Act.put, List.setIfInBounds_toArray, List.set_cons_zero, List.set_cons_succ]))
   refine head_nil ?_
   intro w' hw'
   have hb := hw'.out
   clear hw'
   obtain ⟨hz, hc, hf⟩ := bcl hb (by first | (simp; rfl) | rfl))
  go_wp2
  go_ret2
  refine ⟨rfl, ?_⟩
  (repeat (first | (with_reducible exact bl_refl _) | (with_reducible refine bl_drew ?_) | (with_reducible refine bl_alloc ?_ _) | (with_reducible refine bl_set' ?_ ?_; · (first | omega | (simp; done) | (simp; omega))) | (with_reducible refine bl_last (by assumption) ?_) | (with_reducible refine bl_drewN ?_ _)))

set_option maxRecDepth 100000 in
set_option maxHeartbeats 1000000 in
theorem minus_c (an ad bn bd : Int) (w : World) (ha : Rg an ad) (hb : Rg bn bd) :
    Calls Tryd.prog 66 #[.agg #[.int .i64 an, .int .i64 ad], .agg #[.int .i64 bn, .int .i64 bd]] w (Ret (.tuple #[.int .i64 (an * bd - bn * ad), .int .i64 (ad * bd)]) w) := by
  obtain ⟨a1, a2, a3, a4⟩ := ha
  obtain ⟨b1, b2, b3, b4⟩ := hb
  obtain ⟨m0, m0'⟩ := mul_bd (x := an) (y := bd) (by omega) (by omega) (by omega) (by omega)
  have q0 : IntKind.i64.wrap (an * bd) = an * bd := by rw [IntKind.wrap_i64]; omega
  obtain ⟨m1, m1'⟩ := mul_bd (x := bn) (y := ad) (by omega) (by omega) (by omega) (by omega)
  have q1 : IntKind.i64.wrap (bn * ad) = bn * ad := by rw [IntKind.wrap_i64]; omega
  obtain ⟨m2, m2'⟩ := mul_bd (x := ad) (y := bd) (by omega) (by omega) (by omega) (by omega)
  have q2 : IntKind.i64.wrap (ad * bd) = ad * bd := by rw [IntKind.wrap_i64]; omega
  have r0 : IntKind.i64.wrap (an * bd - bn * ad) = an * bd - bn * ad := by rw [IntKind.wrap_i64]; omega
  go_enter Tryd.func66, Tryd.ntmps66
  go_wp2
  (refine wp_region_bl [0,1,2,3,4,5,6,7,8,9,10,11,12,13,14,15,16,17] [] (by kernel_rfl) (by kernel_rfl) (by rfl) ?_
   simp only [pickI, pick, List.getElem?_cons_succ, List.getElem?_cons_zero]
   iterate 18 (first
     | (refine head_val (by rfl) (by first | exact wanted_free rfl | rfl) ?_
        apply Exists.intro
        refine ⟨fun X hX => ?_, ?_⟩
        · (obtain ⟨qz, qc, qf⟩ := bcl hX.out (by first | (simp; rfl) | rfl)
           go_simp
           first | done | rfl | exact ⟨rfl, rfl⟩)
        simp only [Act.put, List.setIfInBounds_toArray, List.set_cons_zero, List.set_cons_succ])
     | (refine head_pass (by rfl) ?_
        simp only [Act.put, List.setIfInBounds_toArray, List.set_cons_zero, List.set_cons_succ]))
   refine head_nil ?_
   intro w' hw'
   have hb := hw'.out
   clear hw'
   obtain ⟨hz, hc, hf⟩ := bcl hb (by first | (simp; rfl) | rfl))
  go_wp2
  go_ret2
  refine ⟨rfl, ?_⟩
  (repeat (first | (with_reducible exact bl_refl _) | (with_reducible refine bl_drew ?_) | (with_reducible refine bl_alloc ?_ _) | (with_reducible refine bl_set' ?_ ?_; · (first | omega | (simp; done) | (simp; omega))) | (with_reducible refine bl_last (by assumption) ?_) | (with_reducible refine bl_drewN ?_ _)))



set_option maxRecDepth 100000 in
set_option maxHeartbeats 1000000 in
theorem over_c (an ad bn bd : Int) (w : World) (ha : Rg an ad) (hb : Rg bn bd) :
    Calls Tryd.prog 60 #[.agg #[.int .i64 an, .int .i64 ad], .agg #[.int .i64 bn, .int .i64 bd]] w (Ret (.tuple #[.int .i64 (an * bd), .int .i64 (ad * bn)]) w) := by
  obtain ⟨a1, a2, a3, a4⟩ := ha
  obtain ⟨b1, b2, b3, b4⟩ := hb
  obtain ⟨m0, m0'⟩ := mul_bd (x := an) (y := bd) (by omega) (by omega) (by omega) (by omega)
  have q0 : IntKind.i64.wrap (an * bd) = an * bd := by rw [IntKind.wrap_i64]; omega
  obtain ⟨m1, m1'⟩ := mul_bd (x := ad) (y := bn) (by omega) (by omega) (by omega) (by omega)
  have q1 : IntKind.i64.wrap (ad * bn) = ad * bn := by rw [IntKind.wrap_i64]; omega
  go_enter Tryd.func60, Tryd.ntmps60
  go_wp2
  (refine wp_region_bl [0,1,2,3,4,5,6,7,8,9,10,11] [] (by kernel_rfl) (by kernel_rfl) (by rfl) ?_
   simp only [pickI, pick, List.getElem?_cons_succ, List.getElem?_cons_zero]
   iterate 12 (first
     | (refine head_val (by rfl) (by first | exact wanted_free rfl | rfl) ?_
        apply Exists.intro
        refine ⟨fun X hX => ?_, ?_⟩
        · (obtain ⟨qz, qc, qf⟩ := bcl hX.out (by first | (simp; rfl) | rfl)
           go_simp
           first | done | rfl | exact ⟨rfl, rfl⟩)
        simp only [Act.put, List.setIfInBounds_toArray, List.set_cons_zero, List.set_cons_succ])
     | (refine head_pass (by rfl) ?_
        simp only [Act.put, List.setIfInBounds_toArray, List.set_cons_zero, List.set_cons_succ]))
   refine head_nil ?_
   intro w' hw'
   have hb := hw'.out
   clear hw'
   obtain ⟨hz, hc, hf⟩ := bcl hb (by first | (simp; rfl) | rfl))
  go_wp2
  go_ret2
  refine ⟨rfl, ?_⟩
  (repeat (first | (with_reducible exact bl_refl _) | (with_reducible refine bl_drew ?_) | (with_reducible refine bl_alloc ?_ _) | (with_reducible refine bl_set' ?_ ?_; · (first | omega | (simp; done) | (simp; omega))) | (with_reducible refine bl_last (by assumption) ?_) | (with_reducible refine bl_drewN ?_ _)))

theorem comb1_panic (r e : Nat) (n : Int) (older : List PanicEntry) (w : World) (a b c : Value) (h1 : w.cell? ⟨r, 0, none⟩ = some a) (h2 : w.cell? ⟨r, 1, none⟩ = some b) (h3 : w.cell? ⟨e, 0, none⟩ = some c)
    (f1 : w.frozen? ⟨r, 0, none⟩ = false) (f2 : w.frozen? ⟨r, 1, none⟩ = false) (f3 : w.frozen? ⟨e, 0, none⟩ = false) (hne : r < e) :
    CallsD Tryd.prog 112 #[.pointer (some ⟨r, 0, none⟩), .pointer (some ⟨e, 0, none⟩)] (.panicking ({ v := .iface 42 (.int .i64 n), recovered := false } :: older)) w fun en u' w' =>
      en = .returned (.tuple #[]) ∧ u' = .panicking ({ v := .iface 42 (.int .i64 n), recovered := true } :: older) ∧ w' = ((w.setCell ⟨r, 0, none⟩ (.int .i64 0)).setCell ⟨r, 1, none⟩ (.int .i64 0)).setCell ⟨e, 0, none⟩ (.int .i64 n) := by
  have C := caught_some r e n w a b c h1 h2 h3 f1 f2 f3 hne
  refine callsD_of_wpS Tryd.func112 rfl fun c₀ cs hu => ?_
  apply wpS_region
  simp [wpOpsS, go_sem, recoverD, hu, Tryd.ntmps112]
  refine C.mono ?_
  rintro en w' ⟨rfl, rfl⟩
  simp [bodyPostS, results, Tryd.results112]

theorem comb1_idle (r e : Nat) (w : World) :
    CallsD Tryd.prog 112 #[.pointer (some ⟨r, 0, none⟩), .pointer (some ⟨e, 0, none⟩)] .returning w fun en u' w' => en = .returned (.tuple #[]) ∧ u' = .returning ∧ w' = w := by
  have C := caught_nil r e w
  refine callsD_of_wpS Tryd.func112 rfl fun c₀ cs hu => ?_
  apply wpS_region
  simp [wpOpsS, go_sem, recoverD, hu, Tryd.ntmps112]
  refine C.mono ?_
  rintro en w' ⟨rfl, rfl⟩
  cases c₀
  simp_all [bodyPostS, results, Tryd.results112]

end Go.Proofs.YtehifkdfbiebfaaDoor
