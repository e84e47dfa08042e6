/- Rational: the operations of two numbers: value.plus .., combine, Add, Sub, Mul, Div. -/
import Derived.Test.YtmjbcoapceoakaaDoorRatW
namespace Go.Proofs.YtmjbcoapceoakaaDoor
open Go.RowKit

theorem mul_bd {x y : Int} (h1 : -1000000000 ≤ x) (h2 : x ≤ 1000000000) (h3 : -1000000000 ≤ y) (h4 : y ≤ 1000000000) : -1000000000000000000 ≤ x * y ∧ x * y ≤ 1000000000000000000 := by
  have h : (x * y).natAbs ≤ 1000000000 * 1000000000 := by
    rw [Int.natAbs_mul]
    exact Nat.mul_le_mul (by omega) (by omega)
  omega
def Rg (n d : Int) : Prop := -1000000000 ≤ n ∧ n ≤ 1000000000 ∧ 1 ≤ d ∧ d ≤ 1000000000
theorem rg_of {n d : Int} (h : vR n d = true) : Rg n d := by
  have := v_of h
  exact ⟨this.2.2.1, this.2.2.2.1, this.1, this.2.1⟩

set_option maxRecDepth 100000 in
set_option maxHeartbeats 1000000 in
theorem plus_c (an ad bn bd : Int) (w : World) (ha : Rg an ad) (hb : Rg bn bd) :
    Calls Tryd.prog 51 #[.agg #[.int .i64 an, .int .i64 ad], .agg #[.int .i64 bn, .int .i64 bd]] w (Ret (.tuple #[.int .i64 (an * bd + bn * ad), .int .i64 (ad * bd)]) w) := by
  obtain ⟨a1, a2, a3, a4⟩ := ha
  obtain ⟨b1, b2, b3, b4⟩ := hb
  obtain ⟨m0, m0'⟩ := mul_bd (x := an) (y := bd) (by omega) (by omega) (by omega) (by omega)
  have q0 : IntKind.i64.wrap (an * bd) = an * bd := by rw [IntKind.wrap_i64]; omega
  obtain ⟨m1, m1'⟩ := mul_bd (x := bn) (y := ad) (by omega) (by omega) (by omega) (by omega)
  have q1 : IntKind.i64.wrap (bn * ad) = bn * ad := by rw [IntKind.wrap_i64]; omega
  obtain ⟨m2, m2'⟩ := mul_bd (x := ad) (y := bd) (by omega) (by omega) (by omega) (by omega)
  have q2 : IntKind.i64.wrap (ad * bd) = ad * bd := by rw [IntKind.wrap_i64]; omega
  have r0 : IntKind.i64.wrap (an * bd + bn * ad) = an * bd + bn * ad := by rw [IntKind.wrap_i64]; omega
  go_enter Tryd.func51, Tryd.ntmps51
  go_wp2
  (refine wp_region_bl [0,1,2,3,4,5,6,7,8,9,10,11,12,13,14,15,16,17] [] (by kernel_rfl) (by kernel_rfl) (by rfl) ?_
   simp only [pickI, pick, List.getElem?_cons_succ, List.getElem?_cons_zero]
   iterate 18 (first
     | (refine head_val (by rfl) (by rfl) ?_
        apply Exists.intro
        refine ⟨fun X hX => ?_, ?_⟩
        · (obtain ⟨qz, qc, qf⟩ := bcl hX.out (by first | (simp; rfl) | rfl)
           go_simp
           first | done | rfl | exact ⟨rfl, rfl⟩)
        simp only [Act.put, List.setIfInBounds_toArray, List.set_cons_zero, List.set_cons_succ])
     | (refine head_pass (by rfl) ?_
        simp only [Act.put, List.setIfInBounds_toArray, List.set_cons_zero, List.set_cons_succ]))
   refine head_nil ?_
   intro w' hw'
   have hb := hw'.out
   clear hw'
   obtain ⟨hz, hc, hf⟩ := bcl hb (by first | (simp; rfl) | rfl))
  go_wp2
  go_ret2
  refine ⟨rfl, ?_⟩
  (repeat (first | (with_reducible exact bl_refl _) | (with_reducible refine bl_drew ?_) | (with_reducible refine bl_alloc ?_ _) | (with_reducible refine bl_set' ?_ ?_; · (first | omega | (simp; done) | (simp; omega))) | (with_reducible refine bl_last (by assumption) ?_) | (with_reducible refine bl_drewN ?_ _)))

set_option maxRecDepth 100000 in
set_option maxHeartbeats 1000000 in
theorem minus_c (an ad bn bd : Int) (w : World) (ha : Rg an ad) (hb : Rg bn bd) :
    Calls Tryd.prog 49 #[.agg #[.int .i64 an, .int .i64 ad], .agg #[.int .i64 bn, .int .i64 bd]] w (Ret (.tuple #[.int .i64 (an * bd - bn * ad), .int .i64 (ad * bd)]) w) := by
  obtain ⟨a1, a2, a3, a4⟩ := ha
  obtain ⟨b1, b2, b3, b4⟩ := hb
  obtain ⟨m0, m0'⟩ := mul_bd (x := an) (y := bd) (by omega) (by omega) (by omega) (by omega)
  have q0 : IntKind.i64.wrap (an * bd) = an * bd := by rw [IntKind.wrap_i64]; omega
  obtain ⟨m1, m1'⟩ := mul_bd (x := bn) (y := ad) (by omega) (by omega) (by omega) (by omega)
  have q1 : IntKind.i64.wrap (bn * ad) = bn * ad := by rw [IntKind.wrap_i64]; omega
  obtain ⟨m2, m2'⟩ := mul_bd (x := ad) (y := bd) (by omega) (by omega) (by omega) (by omega)
  have q2 : IntKind.i64.wrap (ad * bd) = ad * bd := by rw [IntKind.wrap_i64]; omega
  have r0 : IntKind.i64.wrap (an * bd - bn * ad) = an * bd - bn * ad := by rw [IntKind.wrap_i64]; omega
  go_enter Tryd.func49, Tryd.ntmps49
  go_wp2
  (refine wp_region_bl [0,1,2,3,4,5,6,7,8,9,10,11,12,13,14,15,16,17] [] (by kernel_rfl) (by kernel_rfl) (by rfl) ?_
   simp only [pickI, pick, List.getElem?_cons_succ, List.getElem?_cons_zero]
   iterate 18 (first
     | (refine head_val (by rfl) (by rfl) ?_
        apply Exists.intro
        refine ⟨fun X hX => ?_, ?_⟩
        · (obtain ⟨qz, qc, qf⟩ := bcl hX.out (by first | (simp; rfl) | rfl)
           go_simp
           first | done | rfl | exact ⟨rfl, rfl⟩)
        simp only [Act.put, List.setIfInBounds_toArray, List.set_cons_zero, List.set_cons_succ])
     | (refine head_pass (by rfl) ?_
        simp only [Act.put, List.setIfInBounds_toArray, List.set_cons_zero, List.set_cons_succ]))
   refine head_nil ?_
   intro w' hw'
   have hb := hw'.out
   clear hw'
   obtain ⟨hz, hc, hf⟩ := bcl hb (by first | (simp; rfl) | rfl))
  go_wp2
  go_ret2
  refine ⟨rfl, ?_⟩
  (repeat (first | (with_reducible exact bl_refl _) | (with_reducible refine bl_drew ?_) | (with_reducible refine bl_alloc ?_ _) | (with_reducible refine bl_set' ?_ ?_; · (first | omega | (simp; done) | (simp; omega))) | (with_reducible refine bl_last (by assumption) ?_) | (with_reducible refine bl_drewN ?_ _)))

set_option maxRecDepth 100000 in
set_option maxHeartbeats 1000000 in
theorem times_c (an ad bn bd : Int) (w : World) (ha : Rg an ad) (hb : Rg bn bd) :
    Calls Tryd.prog 52 #[.agg #[.int .i64 an, .int .i64 ad], .agg #[.int .i64 bn, .int .i64 bd]] w (Ret (.tuple #[.int .i64 (an * bn), .int .i64 (ad * bd)]) w) := by
  obtain ⟨a1, a2, a3, a4⟩ := ha
  obtain ⟨b1, b2, b3, b4⟩ := hb
  obtain ⟨m0, m0'⟩ := mul_bd (x := an) (y := bn) (by omega) (by omega) (by omega) (by omega)
  have q0 : IntKind.i64.wrap (an * bn) = an * bn := by rw [IntKind.wrap_i64]; omega
  obtain ⟨m1, m1'⟩ := mul_bd (x := ad) (y := bd) (by omega) (by omega) (by omega) (by omega)
  have q1 : IntKind.i64.wrap (ad * bd) = ad * bd := by rw [IntKind.wrap_i64]; omega
  go_enter Tryd.func52, Tryd.ntmps52
  go_wp2
  (refine wp_region_bl [0,1,2,3,4,5,6,7,8,9,10,11] [] (by kernel_rfl) (by kernel_rfl) (by rfl) ?_
   simp only [pickI, pick, List.getElem?_cons_succ, List.getElem?_cons_zero]
   iterate 12 (first
     | (refine head_val (by rfl) (by rfl) ?_
        apply Exists.intro
        refine ⟨fun X hX => ?_, ?_⟩
        · (obtain ⟨qz, qc, qf⟩ := bcl hX.out (by first | (simp; rfl) | rfl)
           go_simp
           first | done | rfl | exact ⟨rfl, rfl⟩)
        simp only [Act.put, List.setIfInBounds_toArray, List.set_cons_zero, List.set_cons_succ])
     | (refine head_pass (by rfl) ?_
        simp only [Act.put, List.setIfInBounds_toArray, List.set_cons_zero, List.set_cons_succ]))
   refine head_nil ?_
   intro w' hw'
   have hb := hw'.out
   clear hw'
   obtain ⟨hz, hc, hf⟩ := bcl hb (by first | (simp; rfl) | rfl))
  go_wp2
  go_ret2
  refine ⟨rfl, ?_⟩
  (repeat (first | (with_reducible exact bl_refl _) | (with_reducible refine bl_drew ?_) | (with_reducible refine bl_alloc ?_ _) | (with_reducible refine bl_set' ?_ ?_; · (first | omega | (simp; done) | (simp; omega))) | (with_reducible refine bl_last (by assumption) ?_) | (with_reducible refine bl_drewN ?_ _)))

set_option maxRecDepth 100000 in
set_option maxHeartbeats 1000000 in
theorem over_c (an ad bn bd : Int) (w : World) (ha : Rg an ad) (hb : Rg bn bd) :
    Calls Tryd.prog 53 #[.agg #[.int .i64 an, .int .i64 ad], .agg #[.int .i64 bn, .int .i64 bd]] w (Ret (.tuple #[.int .i64 (an * bd), .int .i64 (ad * bn)]) w) := by
  obtain ⟨a1, a2, a3, a4⟩ := ha
  obtain ⟨b1, b2, b3, b4⟩ := hb
  obtain ⟨m0, m0'⟩ := mul_bd (x := an) (y := bd) (by omega) (by omega) (by omega) (by omega)
  have q0 : IntKind.i64.wrap (an * bd) = an * bd := by rw [IntKind.wrap_i64]; omega
  obtain ⟨m1, m1'⟩ := mul_bd (x := ad) (y := bn) (by omega) (by omega) (by omega) (by omega)
  have q1 : IntKind.i64.wrap (ad * bn) = ad * bn := by rw [IntKind.wrap_i64]; omega
  go_enter Tryd.func53, Tryd.ntmps53
  go_wp2
  (refine wp_region_bl [0,1,2,3,4,5,6,7,8,9,10,11] [] (by kernel_rfl) (by kernel_rfl) (by rfl) ?_
   simp only [pickI, pick, List.getElem?_cons_succ, List.getElem?_cons_zero]
   iterate 12 (first
     | (refine head_val (by rfl) (by rfl) ?_
        apply Exists.intro
        refine ⟨fun X hX => ?_, ?_⟩
        · (obtain ⟨qz, qc, qf⟩ := bcl hX.out (by first | (simp; rfl) | rfl)
           go_simp
           first | done | rfl | exact ⟨rfl, rfl⟩)
        simp only [Act.put, List.setIfInBounds_toArray, List.set_cons_zero, List.set_cons_succ])
     | (refine head_pass (by rfl) ?_
        simp only [Act.put, List.setIfInBounds_toArray, List.set_cons_zero, List.set_cons_succ]))
   refine head_nil ?_
   intro w' hw'
   have hb := hw'.out
   clear hw'
   obtain ⟨hz, hc, hf⟩ := bcl hb (by first | (simp; rfl) | rfl))
  go_wp2
  go_ret2
  refine ⟨rfl, ?_⟩
  (repeat (first | (with_reducible exact bl_refl _) | (with_reducible refine bl_drew ?_) | (with_reducible refine bl_alloc ?_ _) | (with_reducible refine bl_set' ?_ ?_; · (first | omega | (simp; done) | (simp; omega))) | (with_reducible refine bl_last (by assumption) ?_) | (with_reducible refine bl_drewN ?_ _)))

theorem comb1_panic (r e : Nat) (n : Int) (older : List PanicEntry) (w : World) (a b c : Value) (h1 : w.cell? ⟨r, 0, none⟩ = some a) (h2 : w.cell? ⟨r, 1, none⟩ = some b) (h3 : w.cell? ⟨e, 0, none⟩ = some c)
    (f1 : w.frozen? ⟨r, 0, none⟩ = false) (f2 : w.frozen? ⟨r, 1, none⟩ = false) (f3 : w.frozen? ⟨e, 0, none⟩ = false) (hne : r < e) :
    CallsD Tryd.prog 63 #[.pointer (some ⟨r, 0, none⟩), .pointer (some ⟨e, 0, none⟩)] (.panicking ({ v := .iface 26 (.int .i64 n), recovered := false } :: older)) w fun en u' w' =>
      en = .returned (.tuple #[]) ∧ u' = .panicking ({ v := .iface 26 (.int .i64 n), recovered := true } :: older) ∧ w' = ((w.setCell ⟨r, 0, none⟩ (.int .i64 0)).setCell ⟨r, 1, none⟩ (.int .i64 0)).setCell ⟨e, 0, none⟩ (.int .i64 n) := by
  have C := caught_some r e n w a b c h1 h2 h3 f1 f2 f3 hne
  refine callsD_of_wpS Tryd.func63 rfl fun c₀ cs hu => ?_
  apply wpS_region
  simp [wpOpsS, go_sem, recoverD, hu, Tryd.ntmps63]
  refine C.mono ?_
  rintro en w' ⟨rfl, rfl⟩
  simp [bodyPostS, results, Tryd.results63]

theorem comb1_idle (r e : Nat) (w : World) :
    CallsD Tryd.prog 63 #[.pointer (some ⟨r, 0, none⟩), .pointer (some ⟨e, 0, none⟩)] .returning w fun en u' w' => en = .returned (.tuple #[]) ∧ u' = .returning ∧ w' = w := by
  have C := caught_nil r e w
  refine callsD_of_wpS Tryd.func63 rfl fun c₀ cs hu => ?_
  apply wpS_region
  simp [wpOpsS, go_sem, recoverD, hu, Tryd.ntmps63]
  refine C.mono ?_
  rintro en w' ⟨rfl, rfl⟩
  cases c₀
  simp_all [bodyPostS, results, Tryd.results63]

end Go.Proofs.YtmjbcoapceoakaaDoor
