/- Rational: combine, Add, Sub, Mul, Div. Rational: Cmp, floor, Floor, and the reference's operations. -/
import Derived.Test.YtehifkdfbiebfaaDoorK11
namespace Go.Proofs.YtehifkdfbiebfaaDoor
open Go.RowKit

theorem hmkf : ∀ (fn : Fn) (first cap : Array Value) (w : World), (Instr.makeFunc fn first cap).run Tryd.prog w = .ok (.func fn first cap) w := fun _ _ _ _ => rfl

set_option maxRecDepth 100000 in
set_option maxHeartbeats 1000000 in
theorem combine_bad (an ad bn bd : Int) (g : Value) (w : World) (h : (vR an ad && vR bn bd) = false) :
    Calls Tryd.prog 59 #[.agg #[.int .i64 an, .int .i64 ad], .agg #[.int .i64 bn, .int .i64 bd], g] w (Ret (.tuple #[.agg #[.int .i64 0, .int .i64 0], .int .i64 1]) w) := by
  have h' : vR an ad = false ∨ (vR an ad = true ∧ vR bn bd = false) := by
    cases h1 : vR an ad <;> simp_all
  clear h
  have hmf := hmkf
  rcases h' with h1 | ⟨h1, h2⟩
  all_goals
    go_enter_defers Tryd.func59, Tryd.ntmps59
    go_wp2_with (first | (go_at_call 52; refine (Valid_c _ _ _).mono ?_; rintro e w' ⟨rfl, hb⟩; obtain ⟨hz, hc, hf⟩ := bcl hb (by first | (simp; rfl) | rfl)) | (go_at_call 113; refine (fail_c _ _).mono ?_; rintro e w' ⟨rfl, hb⟩; obtain ⟨hz, hc, hf⟩ := bcl hb (by first | (simp; rfl) | rfl)))
    refine leaves_cons (f := 112) (args := #[.pointer (some ⟨w.heap.size + 1 + 1, 0, none⟩), .pointer (some ⟨w.heap.size + 1 + 1 + 1, 0, none⟩)]) (by simp) (by simp [go_sem]) ?_
    refine (comb1_panic (w.heap.size + 1 + 1) (w.heap.size + 1 + 1 + 1) 1 [] _ (.int .i64 0) (.int .i64 0) (.int .i64 0) ?_ ?_ ?_ ?_ ?_ ?_ (by omega)).mono ?_
    · go_simp
    · go_simp
    · go_simp
    · go_simp
    · go_simp
    · go_simp
    rintro e u' w'' ⟨rfl, rfl, rfl⟩
    refine ⟨.tuple #[.agg #[.int .i64 0, .int .i64 0], .int .i64 1], ?_, ?_⟩
    · simp only [results, Tryd.results59]
      go_simp
    · refine ⟨rfl, ?_⟩
      (repeat (first | (with_reducible exact bl_refl _) | (with_reducible refine bl_drew ?_) | (with_reducible refine bl_alloc ?_ _) | (with_reducible refine bl_set' ?_ ?_; · (first | omega | (simp; done) | (simp; omega))) | (with_reducible refine bl_last (by assumption) ?_) | (with_reducible refine bl_drewN ?_ _)))

set_option maxRecDepth 100000 in
set_option maxHeartbeats 1000000 in
theorem combine_plus_gives (an ad bn bd x y : Int) (w : World) (h1 : vR an ad = true) (h2 : vR bn bd = true) (hR : ∀ w, Calls Tryd.prog 85 #[.int .i64 (an * bd + bn * ad), .int .i64 (ad * bd)] w (Ret (.agg #[.int .i64 x, .int .i64 y]) w)) :
    Calls Tryd.prog 59 #[.agg #[.int .i64 an, .int .i64 ad], .agg #[.int .i64 bn, .int .i64 bd], .func (.func 67) #[] #[]] w (Ret (.tuple #[.agg #[.int .i64 x, .int .i64 y], .int .i64 0]) w) := by
  have HR := Lib.hid hR
  have HO := Lib.hid (fun w => plus_c an ad bn bd w (rg_of h1) (rg_of h2))
  clear hR
  have hmf := hmkf
  go_enter_defers Tryd.func59, Tryd.ntmps59
  go_wp2_with (first | (go_at_call 52; refine (Valid_c _ _ _).mono ?_; rintro e w' ⟨rfl, hb⟩; obtain ⟨hz, hc, hf⟩ := bcl hb (by first | (simp; rfl) | rfl)) | (go_at_call 67; refine (HO.out _).mono ?_; rintro e w' ⟨rfl, hb⟩; obtain ⟨hz, hc, hf⟩ := bcl hb (by first | (simp; rfl) | rfl)) | (go_at_call 85; refine (HR.out _).mono ?_; rintro e w' ⟨rfl, hb⟩; obtain ⟨hz, hc, hf⟩ := bcl hb (by first | (simp; rfl) | rfl)))
  refine leaves_cons (f := 112) (args := #[.pointer (some ⟨w.heap.size + 1 + 1, 0, none⟩), .pointer (some ⟨w.heap.size + 1 + 1 + 1, 0, none⟩)]) (by simp) (by simp [go_sem]) ?_
  refine (comb1_idle (w.heap.size + 1 + 1) (w.heap.size + 1 + 1 + 1) _).mono ?_
  rintro e u' w'' ⟨rfl, rfl, rfl⟩
  refine ⟨.tuple #[.agg #[.int .i64 x, .int .i64 y], .int .i64 0], ?_, ?_⟩
  · simp only [results, Tryd.results59]
    go_simp
  · refine ⟨rfl, ?_⟩
    (repeat (first | (with_reducible exact bl_refl _) | (with_reducible refine bl_drew ?_) | (with_reducible refine bl_alloc ?_ _) | (with_reducible refine bl_set' ?_ ?_; · (first | omega | (simp; done) | (simp; omega))) | (with_reducible refine bl_last (by assumption) ?_) | (with_reducible refine bl_drewN ?_ _)))

set_option maxRecDepth 100000 in
set_option maxHeartbeats 1000000 in
theorem combine_plus_fails (an ad bn bd k : Int) (w : World) (h1 : vR an ad = true) (h2 : vR bn bd = true) (hR : ∀ w, Calls Tryd.prog 85 #[.int .i64 (an * bd + bn * ad), .int .i64 (ad * bd)] w (Fails k w)) :
    Calls Tryd.prog 59 #[.agg #[.int .i64 an, .int .i64 ad], .agg #[.int .i64 bn, .int .i64 bd], .func (.func 67) #[] #[]] w (Ret (.tuple #[.agg #[.int .i64 0, .int .i64 0], .int .i64 k]) w) := by
  have HR := Lib.hid hR
  have HO := Lib.hid (fun w => plus_c an ad bn bd w (rg_of h1) (rg_of h2))
  clear hR
  have hmf := hmkf
  go_enter_defers Tryd.func59, Tryd.ntmps59
  go_wp2_with (first | (go_at_call 52; refine (Valid_c _ _ _).mono ?_; rintro e w' ⟨rfl, hb⟩; obtain ⟨hz, hc, hf⟩ := bcl hb (by first | (simp; rfl) | rfl)) | (go_at_call 67; refine (HO.out _).mono ?_; rintro e w' ⟨rfl, hb⟩; obtain ⟨hz, hc, hf⟩ := bcl hb (by first | (simp; rfl) | rfl)) | (go_at_call 85; refine (HR.out _).mono ?_; rintro e w' ⟨rfl, hb⟩; obtain ⟨hz, hc, hf⟩ := bcl hb (by first | (simp; rfl) | rfl)))
  refine leaves_cons (f := 112) (args := #[.pointer (some ⟨w.heap.size + 1 + 1, 0, none⟩), .pointer (some ⟨w.heap.size + 1 + 1 + 1, 0, none⟩)]) (by simp) (by simp [go_sem]) ?_
  refine (comb1_panic (w.heap.size + 1 + 1) (w.heap.size + 1 + 1 + 1) k [] _ (.int .i64 0) (.int .i64 0) (.int .i64 0) ?_ ?_ ?_ ?_ ?_ ?_ (by omega)).mono ?_
  · go_simp
  · go_simp
  · go_simp
  · go_simp
  · go_simp
  · go_simp
  rintro e u' w'' ⟨rfl, rfl, rfl⟩
  refine ⟨.tuple #[.agg #[.int .i64 0, .int .i64 0], .int .i64 k], ?_, ?_⟩
  · simp only [results, Tryd.results59]
    go_simp
  · refine ⟨rfl, ?_⟩
    (repeat (first | (with_reducible exact bl_refl _) | (with_reducible refine bl_drew ?_) | (with_reducible refine bl_alloc ?_ _) | (with_reducible refine bl_set' ?_ ?_; · (first | omega | (simp; done) | (simp; omega))) | (with_reducible refine bl_last (by assumption) ?_) | (with_reducible refine bl_drewN ?_ _)))

def addV (an ad bn bd : Int) : Value := if vR an ad && vR bn bd then mkV (an * bd + bn * ad) (ad * bd) else .tuple #[.agg #[.int .i64 0, .int .i64 0], .int .i64 1]

set_option maxHeartbeats 1000000 in
theorem Add_c (an ad bn bd : Int) (w : World) : Calls Tryd.prog 21 #[.agg #[.int .i64 an, .int .i64 ad], .agg #[.int .i64 bn, .int .i64 bd]] w (Ret (addV an ad bn bd) w) := by
  obtain ⟨x, y, k, hv, hC⟩ : ∃ x y k : Int, addV an ad bn bd = .tuple #[.agg #[.int .i64 x, .int .i64 y], .int .i64 k] ∧ ∀ w, Calls Tryd.prog 59 #[.agg #[.int .i64 an, .int .i64 ad], .agg #[.int .i64 bn, .int .i64 bd], .func (.func 67) #[] #[]] w (Ret (.tuple #[.agg #[.int .i64 x, .int .i64 y], .int .i64 k]) w) := by
    cases h : (vR an ad && vR bn bd)
    · exact ⟨0, 0, 1, by simp [addV, h], fun w => combine_bad an ad bn bd _ w h⟩
    · have h' : vR an ad = true ∧ vR bn bd = true := by simpa using h
      obtain ⟨h1, h2⟩ := h'
      obtain ⟨a1, a2, a3, a4⟩ := rg_of h1
      obtain ⟨b1, b2, b3, b4⟩ := rg_of h2
      obtain ⟨m0, m0'⟩ := mul_bd (x := an) (y := bd) (by omega) (by omega) (by omega) (by omega)
      obtain ⟨m1, m1'⟩ := mul_bd (x := bn) (y := ad) (by omega) (by omega) (by omega) (by omega)
      obtain ⟨m2, m2'⟩ := mul_bd (x := ad) (y := bd) (by omega) (by omega) (by omega) (by omega)
      obtain ⟨m3, m3'⟩ := mul_bd (x := an) (y := bn) (by omega) (by omega) (by omega) (by omega)
      obtain ⟨m4, m4'⟩ := mul_bd (x := ad) (y := bn) (by omega) (by omega) (by omega) (by omega)
      have hV : addV an ad bn bd = mkV (an * bd + bn * ad) (ad * bd) := by simp [addV, h]
      by_cases hd : ad * bd = 0
      · exact ⟨0, 0, 7, by rw [hV, hd, mk_zero], fun w => combine_plus_fails an ad bn bd 7 w h1 h2 (by rw [hd]; exact reduced_zero _)⟩
      by_cases hr : 1000000000 < xF (an * bd + bn * ad) (ad * bd) ∨ 1000000000 < yF (an * bd + bn * ad) (ad * bd)
      · exact ⟨0, 0, 3, by rw [hV, mk_range hd hr], fun w => combine_plus_fails an ad bn bd 3 w h1 h2 (fun w => reduced_range _ _ w (by omega) (by omega) (by omega) (by omega) hd hr)⟩
      · exact ⟨_, _, 0, by rw [hV, mk_ok hd (by omega) (by omega)], fun w => combine_plus_gives an ad bn bd _ _ w h1 h2 (fun w => reduced_ok _ _ w (by omega) (by omega) (by omega) (by omega) hd (by omega) (by omega))⟩
  rw [hv]
  clear hv
  have HC := Lib.hid hC
  clear hC
  go_enter Tryd.func21, Tryd.ntmps21
  go_wp2_with (go_at_call 59; refine (HC.out _).mono ?_; rintro e w' ⟨rfl, hb⟩; obtain ⟨hz, hc, hf⟩ := bcl hb (by first | (simp; rfl) | rfl))
  (refine bodyPost_ret (v := .tuple #[.agg #[.int .i64 x, .int .i64 y], .int .i64 k]) (by simp only [results, Tryd.results21]; go_simp) rfl ⟨rfl, ?_⟩)
  (repeat (first | (with_reducible exact bl_refl _) | (with_reducible refine bl_drew ?_) | (with_reducible refine bl_alloc ?_ _) | (with_reducible refine bl_set' ?_ ?_; · (first | omega | (simp; done) | (simp; omega))) | (with_reducible refine bl_last (by assumption) ?_) | (with_reducible refine bl_drewN ?_ _)))

set_option maxRecDepth 100000 in
set_option maxHeartbeats 1000000 in
theorem combine_minus_gives (an ad bn bd x y : Int) (w : World) (h1 : vR an ad = true) (h2 : vR bn bd = true) (hR : ∀ w, Calls Tryd.prog 85 #[.int .i64 (an * bd - bn * ad), .int .i64 (ad * bd)] w (Ret (.agg #[.int .i64 x, .int .i64 y]) w)) :
    Calls Tryd.prog 59 #[.agg #[.int .i64 an, .int .i64 ad], .agg #[.int .i64 bn, .int .i64 bd], .func (.func 66) #[] #[]] w (Ret (.tuple #[.agg #[.int .i64 x, .int .i64 y], .int .i64 0]) w) := by
  have HR := Lib.hid hR
  have HO := Lib.hid (fun w => minus_c an ad bn bd w (rg_of h1) (rg_of h2))
  clear hR
  have hmf := hmkf
  go_enter_defers Tryd.func59, Tryd.ntmps59
  go_wp2_with (first | (go_at_call 52; refine (Valid_c _ _ _).mono ?_; rintro e w' ⟨rfl, hb⟩; obtain ⟨hz, hc, hf⟩ := bcl hb (by first | (simp; rfl) | rfl)) | (go_at_call 66; refine (HO.out _).mono ?_; rintro e w' ⟨rfl, hb⟩; obtain ⟨hz, hc, hf⟩ := bcl hb (by first | (simp; rfl) | rfl)) | (go_at_call 85; refine (HR.out _).mono ?_; rintro e w' ⟨rfl, hb⟩; obtain ⟨hz, hc, hf⟩ := bcl hb (by first | (simp; rfl) | rfl)))
  refine leaves_cons (f := 112) (args := #[.pointer (some ⟨w.heap.size + 1 + 1, 0, none⟩), .pointer (some ⟨w.heap.size + 1 + 1 + 1, 0, none⟩)]) (by simp) (by simp [go_sem]) ?_
  refine (comb1_idle (w.heap.size + 1 + 1) (w.heap.size + 1 + 1 + 1) _).mono ?_
  rintro e u' w'' ⟨rfl, rfl, rfl⟩
  refine ⟨.tuple #[.agg #[.int .i64 x, .int .i64 y], .int .i64 0], ?_, ?_⟩
  · simp only [results, Tryd.results59]
    go_simp
  · refine ⟨rfl, ?_⟩
    (repeat (first | (with_reducible exact bl_refl _) | (with_reducible refine bl_drew ?_) | (with_reducible refine bl_alloc ?_ _) | (with_reducible refine bl_set' ?_ ?_; · (first | omega | (simp; done) | (simp; omega))) | (with_reducible refine bl_last (by assumption) ?_) | (with_reducible refine bl_drewN ?_ _)))

set_option maxRecDepth 100000 in
set_option maxHeartbeats 1000000 in
theorem combine_minus_fails (an ad bn bd k : Int) (w : World) (h1 : vR an ad = true) (h2 : vR bn bd = true) (hR : ∀ w, Calls Tryd.prog 85 #[.int .i64 (an * bd - bn * ad), .int .i64 (ad * bd)] w (Fails k w)) :
    Calls Tryd.prog 59 #[.agg #[.int .i64 an, .int .i64 ad], .agg #[.int .i64 bn, .int .i64 bd], .func (.func 66) #[] #[]] w (Ret (.tuple #[.agg #[.int .i64 0, .int .i64 0], .int .i64 k]) w) := by
  have HR := Lib.hid hR
  have HO := Lib.hid (fun w => minus_c an ad bn bd w (rg_of h1) (rg_of h2))
  clear hR
  have hmf := hmkf
  go_enter_defers Tryd.func59, Tryd.ntmps59
  go_wp2_with (first | (go_at_call 52; refine (Valid_c _ _ _).mono ?_; rintro e w' ⟨rfl, hb⟩; obtain ⟨hz, hc, hf⟩ := bcl hb (by first | (simp; rfl) | rfl)) | (go_at_call 66; refine (HO.out _).mono ?_; rintro e w' ⟨rfl, hb⟩; obtain ⟨hz, hc, hf⟩ := bcl hb (by first | (simp; rfl) | rfl)) | (go_at_call 85; refine (HR.out _).mono ?_; rintro e w' ⟨rfl, hb⟩; obtain ⟨hz, hc, hf⟩ := bcl hb (by first | (simp; rfl) | rfl)))
  refine leaves_cons (f := 112) (args := #[.pointer (some ⟨w.heap.size + 1 + 1, 0, none⟩), .pointer (some ⟨w.heap.size + 1 + 1 + 1, 0, none⟩)]) (by simp) (by simp [go_sem]) ?_
  refine (comb1_panic (w.heap.size + 1 + 1) (w.heap.size + 1 + 1 + 1) k [] _ (.int .i64 0) (.int .i64 0) (.int .i64 0) ?_ ?_ ?_ ?_ ?_ ?_ (by omega)).mono ?_
  · go_simp
  · go_simp
  · go_simp
  · go_simp
  · go_simp
  · go_simp
  rintro e u' w'' ⟨rfl, rfl, rfl⟩
  refine ⟨.tuple #[.agg #[.int .i64 0, .int .i64 0], .int .i64 k], ?_, ?_⟩
  · simp only [results, Tryd.results59]
    go_simp
  · refine ⟨rfl, ?_⟩
    (repeat (first | (with_reducible exact bl_refl _) | (with_reducible refine bl_drew ?_) | (with_reducible refine bl_alloc ?_ _) | (with_reducible refine bl_set' ?_ ?_; · (first | omega | (simp; done) | (simp; omega))) | (with_reducible refine bl_last (by assumption) ?_) | (with_reducible refine bl_drewN ?_ _)))

def subV (an ad bn bd : Int) : Value := if vR an ad && vR bn bd then mkV (an * bd - bn * ad) (ad * bd) else .tuple #[.agg #[.int .i64 0, .int .i64 0], .int .i64 1]

set_option maxHeartbeats 1000000 in
theorem Sub_c (an ad bn bd : Int) (w : World) : Calls Tryd.prog 19 #[.agg #[.int .i64 an, .int .i64 ad], .agg #[.int .i64 bn, .int .i64 bd]] w (Ret (subV an ad bn bd) w) := by
  obtain ⟨x, y, k, hv, hC⟩ : ∃ x y k : Int, subV an ad bn bd = .tuple #[.agg #[.int .i64 x, .int .i64 y], .int .i64 k] ∧ ∀ w, Calls Tryd.prog 59 #[.agg #[.int .i64 an, .int .i64 ad], .agg #[.int .i64 bn, .int .i64 bd], .func (.func 66) #[] #[]] w (Ret (.tuple #[.agg #[.int .i64 x, .int .i64 y], .int .i64 k]) w) := by
    cases h : (vR an ad && vR bn bd)
    · exact ⟨0, 0, 1, by simp [subV, h], fun w => combine_bad an ad bn bd _ w h⟩
    · have h' : vR an ad = true ∧ vR bn bd = true := by simpa using h
      obtain ⟨h1, h2⟩ := h'
      obtain ⟨a1, a2, a3, a4⟩ := rg_of h1
      obtain ⟨b1, b2, b3, b4⟩ := rg_of h2
      obtain ⟨m0, m0'⟩ := mul_bd (x := an) (y := bd) (by omega) (by omega) (by omega) (by omega)
      obtain ⟨m1, m1'⟩ := mul_bd (x := bn) (y := ad) (by omega) (by omega) (by omega) (by omega)
      obtain ⟨m2, m2'⟩ := mul_bd (x := ad) (y := bd) (by omega) (by omega) (by omega) (by omega)
      obtain ⟨m3, m3'⟩ := mul_bd (x := an) (y := bn) (by omega) (by omega) (by omega) (by omega)
      obtain ⟨m4, m4'⟩ := mul_bd (x := ad) (y := bn) (by omega) (by omega) (by omega) (by omega)
      have hV : subV an ad bn bd = mkV (an * bd - bn * ad) (ad * bd) := by simp [subV, h]
      by_cases hd : ad * bd = 0
      · exact ⟨0, 0, 7, by rw [hV, hd, mk_zero], fun w => combine_minus_fails an ad bn bd 7 w h1 h2 (by rw [hd]; exact reduced_zero _)⟩
      by_cases hr : 1000000000 < xF (an * bd - bn * ad) (ad * bd) ∨ 1000000000 < yF (an * bd - bn * ad) (ad * bd)
      · exact ⟨0, 0, 3, by rw [hV, mk_range hd hr], fun w => combine_minus_fails an ad bn bd 3 w h1 h2 (fun w => reduced_range _ _ w (by omega) (by omega) (by omega) (by omega) hd hr)⟩
      · exact ⟨_, _, 0, by rw [hV, mk_ok hd (by omega) (by omega)], fun w => combine_minus_gives an ad bn bd _ _ w h1 h2 (fun w => reduced_ok _ _ w (by omega) (by omega) (by omega) (by omega) hd (by omega) (by omega))⟩
  rw [hv]
  clear hv
  have HC := Lib.hid hC
  clear hC
  go_enter Tryd.func19, Tryd.ntmps19
  go_wp2_with (go_at_call 59; refine (HC.out _).mono ?_; rintro e w' ⟨rfl, hb⟩; obtain ⟨hz, hc, hf⟩ := bcl hb (by first | (simp; rfl) | rfl))
  (refine bodyPost_ret (v := .tuple #[.agg #[.int .i64 x, .int .i64 y], .int .i64 k]) (by simp only [results, Tryd.results19]; go_simp) rfl ⟨rfl, ?_⟩)
  (repeat (first | (with_reducible exact bl_refl _) | (with_reducible refine bl_drew ?_) | (with_reducible refine bl_alloc ?_ _) | (with_reducible refine bl_set' ?_ ?_; · (first | omega | (simp; done) | (simp; omega))) | (with_reducible refine bl_last (by assumption) ?_) | (with_reducible refine bl_drewN ?_ _)))





def mulV (an ad bn bd : Int) : Value := if vR an ad && vR bn bd then mkV (an * bn) (ad * bd) else .tuple #[.agg #[.int .i64 0, .int .i64 0], .int .i64 1]



set_option maxRecDepth 100000 in
set_option maxHeartbeats 1000000 in
theorem combine_over_gives (an ad bn bd x y : Int) (w : World) (h1 : vR an ad = true) (h2 : vR bn bd = true) (hR : ∀ w, Calls Tryd.prog 85 #[.int .i64 (an * bd), .int .i64 (ad * bn)] w (Ret (.agg #[.int .i64 x, .int .i64 y]) w)) :
    Calls Tryd.prog 59 #[.agg #[.int .i64 an, .int .i64 ad], .agg #[.int .i64 bn, .int .i64 bd], .func (.func 60) #[] #[]] w (Ret (.tuple #[.agg #[.int .i64 x, .int .i64 y], .int .i64 0]) w) := by
  have HR := Lib.hid hR
  have HO := Lib.hid (fun w => over_c an ad bn bd w (rg_of h1) (rg_of h2))
  clear hR
  have hmf := hmkf
  go_enter_defers Tryd.func59, Tryd.ntmps59
  go_wp2_with (first | (go_at_call 52; refine (Valid_c _ _ _).mono ?_; rintro e w' ⟨rfl, hb⟩; obtain ⟨hz, hc, hf⟩ := bcl hb (by first | (simp; rfl) | rfl)) | (go_at_call 60; refine (HO.out _).mono ?_; rintro e w' ⟨rfl, hb⟩; obtain ⟨hz, hc, hf⟩ := bcl hb (by first | (simp; rfl) | rfl)) | (go_at_call 85; refine (HR.out _).mono ?_; rintro e w' ⟨rfl, hb⟩; obtain ⟨hz, hc, hf⟩ := bcl hb (by first | (simp; rfl) | rfl)))
  refine leaves_cons (f := 112) (args := #[.pointer (some ⟨w.heap.size + 1 + 1, 0, none⟩), .pointer (some ⟨w.heap.size + 1 + 1 + 1, 0, none⟩)]) (by simp) (by simp [go_sem]) ?_
  refine (comb1_idle (w.heap.size + 1 + 1) (w.heap.size + 1 + 1 + 1) _).mono ?_
  rintro e u' w'' ⟨rfl, rfl, rfl⟩
  refine ⟨.tuple #[.agg #[.int .i64 x, .int .i64 y], .int .i64 0], ?_, ?_⟩
  · simp only [results, Tryd.results59]
    go_simp
  · refine ⟨rfl, ?_⟩
    (repeat (first | (with_reducible exact bl_refl _) | (with_reducible refine bl_drew ?_) | (with_reducible refine bl_alloc ?_ _) | (with_reducible refine bl_set' ?_ ?_; · (first | omega | (simp; done) | (simp; omega))) | (with_reducible refine bl_last (by assumption) ?_) | (with_reducible refine bl_drewN ?_ _)))

set_option maxRecDepth 100000 in
set_option maxHeartbeats 1000000 in
theorem combine_over_fails (an ad bn bd k : Int) (w : World) (h1 : vR an ad = true) (h2 : vR bn bd = true) (hR : ∀ w, Calls Tryd.prog 85 #[.int .i64 (an * bd), .int .i64 (ad * bn)] w (Fails k w)) :
    Calls Tryd.prog 59 #[.agg #[.int .i64 an, .int .i64 ad], .agg #[.int .i64 bn, .int .i64 bd], .func (.func 60) #[] #[]] w (Ret (.tuple #[.agg #[.int .i64 0, .int .i64 0], .int .i64 k]) w) := by
  have HR := Lib.hid hR
  have HO := Lib.hid (fun w => over_c an ad bn bd w (rg_of h1) (rg_of h2))
  clear hR
  have hmf := hmkf
  go_enter_defers Tryd.func59, Tryd.ntmps59
  go_wp2_with (first | (go_at_call 52; refine (Valid_c _ _ _).mono ?_; rintro e w' ⟨rfl, hb⟩; obtain ⟨hz, hc, hf⟩ := bcl hb (by first | (simp; rfl) | rfl)) | (go_at_call 60; refine (HO.out _).mono ?_; rintro e w' ⟨rfl, hb⟩; obtain ⟨hz, hc, hf⟩ := bcl hb (by first | (simp; rfl) | rfl)) | (go_at_call 85; refine (HR.out _).mono ?_; rintro e w' ⟨rfl, hb⟩; obtain ⟨hz, hc, hf⟩ := bcl hb (by first | (simp; rfl) | rfl)))
  refine leaves_cons (f := 112) (args := #[.pointer (some ⟨w.heap.size + 1 + 1, 0, none⟩), .pointer (some ⟨w.heap.size + 1 + 1 + 1, 0, none⟩)]) (by simp) (by simp [go_sem]) ?_
  refine (comb1_panic (w.heap.size + 1 + 1) (w.heap.size + 1 + 1 + 1) k [] _ (.int .i64 0) (.int .i64 0) (.int .i64 0) ?_ ?_ ?_ ?_ ?_ ?_ (by omega)).mono ?_
  · go_simp
  · go_simp
  · go_simp
  · go_simp
  · go_simp
  · go_simp
  rintro e u' w'' ⟨rfl, rfl, rfl⟩
  refine ⟨.tuple #[.agg #[.int .i64 0, .int .i64 0], .int .i64 k], ?_, ?_⟩
  · simp only [results, Tryd.results59]
    go_simp
  · refine ⟨rfl, ?_⟩
    (repeat (first | (with_reducible exact bl_refl _) | (with_reducible refine bl_drew ?_) | (with_reducible refine bl_alloc ?_ _) | (with_reducible refine bl_set' ?_ ?_; · (first | omega | (simp; done) | (simp; omega))) | (with_reducible refine bl_last (by assumption) ?_) | (with_reducible refine bl_drewN ?_ _)))

def divV (an ad bn bd : Int) : Value := if vR an ad && vR bn bd then mkV (an * bd) (ad * bn) else .tuple #[.agg #[.int .i64 0, .int .i64 0], .int .i64 1]

set_option maxHeartbeats 1000000 in
theorem Div_c (an ad bn bd : Int) (w : World) : Calls Tryd.prog 13 #[.agg #[.int .i64 an, .int .i64 ad], .agg #[.int .i64 bn, .int .i64 bd]] w (Ret (divV an ad bn bd) w) := by
  obtain ⟨x, y, k, hv, hC⟩ : ∃ x y k : Int, divV an ad bn bd = .tuple #[.agg #[.int .i64 x, .int .i64 y], .int .i64 k] ∧ ∀ w, Calls Tryd.prog 59 #[.agg #[.int .i64 an, .int .i64 ad], .agg #[.int .i64 bn, .int .i64 bd], .func (.func 60) #[] #[]] w (Ret (.tuple #[.agg #[.int .i64 x, .int .i64 y], .int .i64 k]) w) := by
    cases h : (vR an ad && vR bn bd)
    · exact ⟨0, 0, 1, by simp [divV, h], fun w => combine_bad an ad bn bd _ w h⟩
    · have h' : vR an ad = true ∧ vR bn bd = true := by simpa using h
      obtain ⟨h1, h2⟩ := h'
      obtain ⟨a1, a2, a3, a4⟩ := rg_of h1
      obtain ⟨b1, b2, b3, b4⟩ := rg_of h2
      obtain ⟨m0, m0'⟩ := mul_bd (x := an) (y := bd) (by omega) (by omega) (by omega) (by omega)
      obtain ⟨m1, m1'⟩ := mul_bd (x := bn) (y := ad) (by omega) (by omega) (by omega) (by omega)
      obtain ⟨m2, m2'⟩ := mul_bd (x := ad) (y := bd) (by omega) (by omega) (by omega) (by omega)
      obtain ⟨m3, m3'⟩ := mul_bd (x := an) (y := bn) (by omega) (by omega) (by omega) (by omega)
      obtain ⟨m4, m4'⟩ := mul_bd (x := ad) (y := bn) (by omega) (by omega) (by omega) (by omega)
      have hV : divV an ad bn bd = mkV (an * bd) (ad * bn) := by simp [divV, h]
      by_cases hd : ad * bn = 0
      · exact ⟨0, 0, 7, by rw [hV, hd, mk_zero], fun w => combine_over_fails an ad bn bd 7 w h1 h2 (by rw [hd]; exact reduced_zero _)⟩
      by_cases hr : 1000000000 < xF (an * bd) (ad * bn) ∨ 1000000000 < yF (an * bd) (ad * bn)
      · exact ⟨0, 0, 3, by rw [hV, mk_range hd hr], fun w => combine_over_fails an ad bn bd 3 w h1 h2 (fun w => reduced_range _ _ w (by omega) (by omega) (by omega) (by omega) hd hr)⟩
      · exact ⟨_, _, 0, by rw [hV, mk_ok hd (by omega) (by omega)], fun w => combine_over_gives an ad bn bd _ _ w h1 h2 (fun w => reduced_ok _ _ w (by omega) (by omega) (by omega) (by omega) hd (by omega) (by omega))⟩
  rw [hv]
  clear hv
  have HC := Lib.hid hC
  clear hC
  go_enter Tryd.func13, Tryd.ntmps13
  go_wp2_with (go_at_call 59; refine (HC.out _).mono ?_; rintro e w' ⟨rfl, hb⟩; obtain ⟨hz, hc, hf⟩ := bcl hb (by first | (simp; rfl) | rfl))
  (refine bodyPost_ret (v := .tuple #[.agg #[.int .i64 x, .int .i64 y], .int .i64 k]) (by simp only [results, Tryd.results13]; go_simp) rfl ⟨rfl, ?_⟩)
  (repeat (first | (with_reducible exact bl_refl _) | (with_reducible refine bl_drew ?_) | (with_reducible refine bl_alloc ?_ _) | (with_reducible refine bl_set' ?_ ?_; · (first | omega | (simp; done) | (simp; omega))) | (with_reducible refine bl_last (by assumption) ?_) | (with_reducible refine bl_drewN ?_ _)))
end Go.Proofs.YtehifkdfbiebfaaDoor
namespace Go.Proofs.YtehifkdfbiebfaaDoor
open Go.RowKit

theorem tdiv_facts {n d : Int} (hd : 1 ≤ d) : (n < n.tdiv d * d ∧ n / d = n.tdiv d - 1) ∨ (n.tdiv d * d ≤ n ∧ n / d = n.tdiv d) := by
  have h1 := Int.emod_add_mul_ediv n d
  have h2 := Int.emod_nonneg n (show d ≠ 0 by omega)
  have h3 := Int.emod_lt_of_pos n (show 0 < d by omega)
  rcases Int.le_total 0 n with h | h
  · right
    have e : n.tdiv d = n / d := Int.tdiv_eq_ediv_of_nonneg h
    rw [e]
    refine ⟨?_, rfl⟩
    rw [Int.mul_comm]
    omega
  · by_cases hm : n % d = 0
    · right
      have e : n.tdiv d = n / d := Int.tdiv_eq_ediv_of_dvd (Int.dvd_of_emod_eq_zero hm)
      rw [e]
      refine ⟨?_, rfl⟩
      rw [Int.mul_comm]
      omega
    · left
      have hs : d.sign = 1 := Int.sign_eq_one_of_pos (by omega)
      have e : n.tdiv d = n / d + 1 := by
        rw [Int.tdiv_eq_ediv]
        have hnd : ¬ (0 ≤ n ∨ d ∣ n) := by
          rintro (h4 | h4)
          · have : n = 0 := by omega
            subst this
            simp at hm
          · exact hm (Int.emod_eq_zero_of_dvd h4)
        rw [if_neg hnd, hs]
      rw [e]
      refine ⟨?_, by omega⟩
      rw [Int.add_mul, Int.mul_comm]
      omega
theorem tdiv_bd {n d : Int} (_hd : 1 ≤ d) (h1 : -1000000000000000000 ≤ n) (h2 : n ≤ 1000000000000000000) : (-1000000000000000000 ≤ n.tdiv d ∧ n.tdiv d ≤ 1000000000000000000) ∧ (-1000000000000000000 ≤ n.tdiv d * d ∧ n.tdiv d * d ≤ 1000000000000000000) := by
  have h3 : (n.tdiv d).natAbs ≤ n.natAbs := by
    rw [Int.natAbs_tdiv]
    exact Nat.div_le_self _ _
  have h4 : (n.tdiv d * d).natAbs ≤ n.natAbs := by
    rw [Int.natAbs_mul, Int.natAbs_tdiv]
    exact Nat.div_mul_le_self _ _
  omega



def sgF (x : Int) : Int := if x < 0 then -1 else if 0 < x then 1 else 0
def cmpE (an ad bn bd : Int) : Int := if vR an ad && vR bn bd then 0 else 1
def cmpN (an ad bn bd : Int) : Int := if vR an ad && vR bn bd then sgF (an * bd - bn * ad) else 0
def cmpV (an ad bn bd : Int) : Value := .tuple #[.int .i64 (cmpN an ad bn bd), .int .i64 (cmpE an ad bn bd)]
theorem cmp_bad {an ad bn bd : Int} (h : (vR an ad && vR bn bd) = false) : cmpV an ad bn bd = .tuple #[.int .i64 0, .int .i64 1] := by simp [cmpV, cmpN, cmpE, h]
theorem cmp_good {an ad bn bd : Int} (h : (vR an ad && vR bn bd) = true) : cmpV an ad bn bd = .tuple #[.int .i64 (sgF (an * bd - bn * ad)), .int .i64 0] := by simp [cmpV, cmpN, cmpE, h]
theorem sg_ways (x : Int) : (x < 0 ∧ sgF x = -1) ∨ (0 < x ∧ sgF x = 1) ∨ (x = 0 ∧ sgF x = 0) := by unfold sgF; split <;> (try split) <;> omega

set_option maxRecDepth 100000 in
set_option maxHeartbeats 1000000 in
theorem Cmp_c (an ad bn bd : Int) (w : World) : Calls Tryd.prog 20 #[.agg #[.int .i64 an, .int .i64 ad], .agg #[.int .i64 bn, .int .i64 bd]] w (Ret (cmpV an ad bn bd) w) := by
  cases h : (vR an ad && vR bn bd)
  · rw [cmp_bad h]
    have h' : vR an ad = false ∨ (vR an ad = true ∧ vR bn bd = false) := by
      cases h1 : vR an ad <;> simp_all
    clear h
    rcases h' with h1 | ⟨h1, h2⟩
    all_goals
      go_enter Tryd.func20, Tryd.ntmps20
      go_wp2_with (go_at_call 52; refine (Valid_c _ _ _).mono ?_; rintro e w' ⟨rfl, hb⟩; obtain ⟨hz, hc, hf⟩ := bcl hb (by first | (simp; rfl) | rfl))
      go_ret2
      refine ⟨rfl, ?_⟩
      (repeat (first | (with_reducible exact bl_refl _) | (with_reducible refine bl_drew ?_) | (with_reducible refine bl_alloc ?_ _) | (with_reducible refine bl_set' ?_ ?_; · (first | omega | (simp; done) | (simp; omega))) | (with_reducible refine bl_last (by assumption) ?_) | (with_reducible refine bl_drewN ?_ _)))
  · rw [cmp_good h]
    have h' : vR an ad = true ∧ vR bn bd = true := by simpa using h
    obtain ⟨h1, h2⟩ := h'
    clear h
    have HO := fun w => minus_c an ad bn bd w (rg_of h1) (rg_of h2)
    have hs := sg_ways (an * bd - bn * ad)
    generalize an * bd - bn * ad = x at *
    have HO := Lib.hid HO
    rcases hs with ⟨g, hs⟩ | ⟨g, hs⟩ | ⟨g, hs⟩
    all_goals
      rw [hs]
      clear hs
      try subst g
      go_enter Tryd.func20, Tryd.ntmps20
      go_wp2_with (first | (go_at_call 52; refine (Valid_c _ _ _).mono ?_; rintro e w' ⟨rfl, hb⟩; obtain ⟨hz, hc, hf⟩ := bcl hb (by first | (simp; rfl) | rfl)) | (go_at_call 66; refine (HO.out _).mono ?_; rintro e w' ⟨rfl, hb⟩; obtain ⟨hz, hc, hf⟩ := bcl hb (by first | (simp; rfl) | rfl)))
      go_ret2
      refine ⟨rfl, ?_⟩
      (repeat (first | (with_reducible exact bl_refl _) | (with_reducible refine bl_drew ?_) | (with_reducible refine bl_alloc ?_ _) | (with_reducible refine bl_set' ?_ ?_; · (first | omega | (simp; done) | (simp; omega))) | (with_reducible refine bl_last (by assumption) ?_) | (with_reducible refine bl_drewN ?_ _)))

def flV (n d : Int) : Value := if vR n d then .tuple #[.int .i64 (n / d), .int .i64 0] else .tuple #[.int .i64 0, .int .i64 1]
end Go.Proofs.YtehifkdfbiebfaaDoor
