/- Beat: the head of the laws: the chapter's examples. -/
import Derived.Test.YthlnfjllkmielaaBeatU
import Derived.Test.YthlnfjllkmielaaBeatW
import Derived.Test.YthlnfjllkmielaaRegion2
namespace Go.Proofs.Ythlnfjllkmielaa
open Go Go.RowKit

set_option maxHeartbeats 400000 in
theorem of17_v (n d : Int) (w : World) (h : vR n d = true) : Calls Try.prog 28 #[.int .i64 n, .int .i64 d] w (Ret (.agg #[.int .i64 n, .int .i64 d]) w) := by
  obtain ⟨v1, v2, v3, v4, _⟩ := v_of h
  have HM := Lib.hid (fun w => RMake_c n d w ⟨by omega, by omega⟩ ⟨by omega, by omega⟩)
  obtain ⟨m1, m2, m3⟩ := mk_of (n := n) (d := d) (x := n) (y := d) (by omega) h rfl
  have hm : mkV n d = .tuple #[.agg #[.int .i64 n, .int .i64 d], .int .i64 0] := by
    unfold mkV
    rw [m1, m2, m3]
  rw [hm] at HM
  clear h hm m1 m2 m3
  go_enter Try.func28, Try.ntmps28
  go_wp2_with (go_at_call 26; ((with_reducible refine (HM.out _).mono ?_); rintro e w' ⟨rfl, hb⟩; obtain ⟨hz, hc, hf⟩ := bcl hb (by first | (simp; rfl) | rfl)))
  refine bodyPost_ret (v := .agg #[.int .i64 n, .int .i64 d]) (by simp only [results, Try.results28]; go_simp) rfl ⟨rfl, ?_⟩
  (repeat (first | (with_reducible exact bl_refl _) | (with_reducible refine bl_drew ?_) | (with_reducible refine bl_alloc ?_ _) | (with_reducible refine bl_set' ?_ ?_; · (first | omega | (simp; done) | (simp; omega))) | (with_reducible refine bl_last (by assumption) ?_) | (with_reducible refine bl_drewN ?_ _)))
theorem of17_440_1 (w : World) : Calls Try.prog 28 #[.int .i64 440, .int .i64 1] w (Ret (.agg #[.int .i64 440, .int .i64 1]) w) := of17_v 440 1 w (by decide +kernel)
theorem of17_659_1 (w : World) : Calls Try.prog 28 #[.int .i64 659, .int .i64 1] w (Ret (.agg #[.int .i64 659, .int .i64 1]) w) := of17_v 659 1 w (by decide +kernel)
theorem of17_1_2 (w : World) : Calls Try.prog 28 #[.int .i64 1, .int .i64 2] w (Ret (.agg #[.int .i64 1, .int .i64 2]) w) := of17_v 1 2 w (by decide +kernel)
theorem of17_2_3 (w : World) : Calls Try.prog 28 #[.int .i64 2, .int .i64 3] w (Ret (.agg #[.int .i64 2, .int .i64 3]) w) := of17_v 2 3 w (by decide +kernel)
theorem of17_10_1 (w : World) : Calls Try.prog 28 #[.int .i64 10, .int .i64 1] w (Ret (.agg #[.int .i64 10, .int .i64 1]) w) := of17_v 10 1 w (by decide +kernel)
theorem of17_441_1 (w : World) : Calls Try.prog 28 #[.int .i64 441, .int .i64 1] w (Ret (.agg #[.int .i64 441, .int .i64 1]) w) := of17_v 441 1 w (by decide +kernel)
theorem of17_0_1 (w : World) : Calls Try.prog 28 #[.int .i64 0, .int .i64 1] w (Ret (.agg #[.int .i64 0, .int .i64 1]) w) := of17_v 0 1 w (by decide +kernel)
theorem of17_2_1 (w : World) : Calls Try.prog 28 #[.int .i64 2, .int .i64 1] w (Ret (.agg #[.int .i64 2, .int .i64 1]) w) := of17_v 2 1 w (by decide +kernel)
theorem of17_2639_4 (w : World) : Calls Try.prog 28 #[.int .i64 2639, .int .i64 4] w (Ret (.agg #[.int .i64 2639, .int .i64 4]) w) := of17_v 2639 4 w (by decide +kernel)
theorem of17_1_1 (w : World) : Calls Try.prog 28 #[.int .i64 1, .int .i64 1] w (Ret (.agg #[.int .i64 1, .int .i64 1]) w) := of17_v 1 1 w (by decide +kernel)
theorem of17_7_10 (w : World) : Calls Try.prog 28 #[.int .i64 7, .int .i64 10] w (Ret (.agg #[.int .i64 7, .int .i64 10]) w) := of17_v 7 10 w (by decide +kernel)
theorem of17_660_1 (w : World) : Calls Try.prog 28 #[.int .i64 660, .int .i64 1] w (Ret (.agg #[.int .i64 660, .int .i64 1]) w) := of17_v 660 1 w (by decide +kernel)
theorem of17_662_1 (w : World) : Calls Try.prog 28 #[.int .i64 662, .int .i64 1] w (Ret (.agg #[.int .i64 662, .int .i64 1]) w) := of17_v 662 1 w (by decide +kernel)
theorem of17_466163_1000 (w : World) : Calls Try.prog 28 #[.int .i64 466163, .int .i64 1000] w (Ret (.agg #[.int .i64 466163, .int .i64 1000]) w) := of17_v 466163 1000 w (by decide +kernel)
theorem of17_116541_250 (w : World) : Calls Try.prog 28 #[.int .i64 116541, .int .i64 250] w (Ret (.agg #[.int .i64 116541, .int .i64 250]) w) := of17_v 116541 250 w (by decide +kernel)
theorem blk_last {a b : World} {g : Nat} {t : TypeId} {cs : Array Value} (h : Blk a g t cs) (hb : Below a.heap.size a b) : Blk b g t cs := h.below hb h.lt
theorem rate17_a (w : World) : Calls Try.prog 12 #[.agg #[.int .i64 440, .int .i64 1], .agg #[.int .i64 659, .int .i64 1], .int .i64 3, .int .i64 2] w (Ret (.tuple #[.agg #[.int .i64 2, .int .i64 1], .int .i64 0]) w) := by
  have h := Rate_c 440 1 659 1 3 2 w
  rw [raV_eq, show raX 440 1 659 1 3 2 = 2 by decide +kernel, show raY 440 1 659 1 3 2 = 1 by decide +kernel, show raE 440 1 659 1 3 2 = 0 by decide +kernel] at h
  exact h
theorem rate17_b (w : World) : Calls Try.prog 12 #[.agg #[.int .i64 440, .int .i64 1], .agg #[.int .i64 0, .int .i64 1], .int .i64 1, .int .i64 1] w (Ret (.tuple #[.agg #[.int .i64 0, .int .i64 0], .int .i64 1]) w) := by
  have h := Rate_c 440 1 0 1 1 1 w
  rw [raV_eq, show raX 440 1 0 1 1 1 = 0 by decide +kernel, show raY 440 1 0 1 1 1 = 0 by decide +kernel, show raE 440 1 0 1 1 1 = 1 by decide +kernel] at h
  exact h
theorem set17_a (w : World) : Calls Try.prog 14 #[.agg #[.int .i64 440, .int .i64 1], .int .i64 3, .int .i64 2, .agg #[.int .i64 1, .int .i64 2], .bool false] w (Ret (.tuple #[.agg #[.int .i64 2639, .int .i64 4], .int .i64 0]) w) := by
  have h := Set_c 440 1 3 2 1 2 false w
  rw [seV_eq, show seX 440 1 3 2 1 2 false = 2639 by decide +kernel, show seY 440 1 3 2 1 2 false = 4 by decide +kernel, show seE 440 1 3 2 1 2 false = 0 by decide +kernel] at h
  exact h
theorem pair17_a (w : World) : Calls Try.prog 16 #[.agg #[.int .i64 (-1), .int .i64 1, .int .i64 0, .int .i64 0, .int .i64 0, .int .i64 0]] w (Ret (.tuple #[.int .i64 3, .int .i64 2, .int .i64 0]) w) := by
  have h := Pair_c (-1) 1 0 0 0 0 w
  unfold paV at h
  rw [show paO (-1) 1 0 0 0 0 = true by decide +kernel, if_pos rfl, if_pos rfl, show paU (-1) 1 0 0 0 0 6 = 3 by decide +kernel, show paD (-1) 1 0 0 0 0 6 = 2 by decide +kernel, show paK (-1) 1 0 0 0 0 = 0 by decide +kernel] at h
  exact h
theorem counts17_a (w : World) : Calls Try.prog 18 #[.agg #[.int .i64 2, .int .i64 3], .agg #[.int .i64 10, .int .i64 1]] w (Ret (.tuple #[.int .i64 6, .int .i64 7, .int .i64 0]) w) := by
  have h := Counts_c 2 3 10 1 w
  unfold coV at h
  rw [show coX 2 3 10 1 = 6 by decide +kernel, show coY 2 3 10 1 = 7 by decide +kernel, show coK 2 3 10 1 = 0 by decide +kernel] at h
  exact h
theorem band17_a (w : World) : Calls Try.prog 20 #[.int .i64 6, .agg #[.int .i64 10, .int .i64 1]] w (Ret (.tuple #[.agg #[.int .i64 1, .int .i64 2, .int .i64 7, .int .i64 10], .int .i64 0]) w) := by
  have h := Band_c 6 10 1 w
  unfold baV at h
  rw [show baK 6 10 1 = 0 by decide +kernel, show baO 6 10 1 = true by decide +kernel, if_pos rfl, if_pos rfl, if_pos rfl, if_pos rfl, show mkN (baL 6 1) 10 = 1 by decide +kernel, show mkD (baL 6 1) 10 = 2 by decide +kernel, show mkN (baH 6 1) 10 = 7 by decide +kernel, show mkD (baH 6 1) 10 = 10 by decide +kernel] at h
  exact h
theorem move17_a (w : World) : Calls Try.prog 22 #[.agg #[.int .i64 440, .int .i64 1, .int .i64 441, .int .i64 1], .int .i64 3, .int .i64 2, .agg #[.int .i64 0, .int .i64 1, .int .i64 1, .int .i64 1], .bool true] w (Ret (.tuple #[.agg #[.int .i64 660, .int .i64 1, .int .i64 662, .int .i64 1], .int .i64 0]) w) := by
  have h := Move_c 440 1 441 1 3 2 0 1 1 1 true w
  unfold mvV at h
  rw [show mvK 440 1 441 1 3 2 0 1 1 1 true = 0 by decide +kernel, show mvO 440 1 441 1 3 2 0 1 1 1 true = true by decide +kernel, if_pos rfl, if_pos rfl, if_pos rfl, if_pos rfl, show seX 440 1 3 2 (mvA true 0 1) (mvA true 1 1) true = 660 by decide +kernel, show seY 440 1 3 2 (mvA true 0 1) (mvA true 1 1) true = 1 by decide +kernel, show seX 441 1 3 2 (mvA true 1 0) (mvA true 1 1) true = 662 by decide +kernel, show seY 441 1 3 2 (mvA true 1 0) (mvA true 1 1) true = 1 by decide +kernel] at h
  exact h
theorem lohi17 : LoHi 1 (restN 1 0 0 0 0 0) (goalN 440000 1 0 0 0 0 0) 466163 466164 := by
  unfold LoHi
  decide +kernel
theorem hertz17_a (w : World) : Calls Try.prog 24 #[.agg #[.int .i64 440, .int .i64 1], .agg #[.int .i64 1, .int .i64 0, .int .i64 0, .int .i64 0, .int .i64 0, .int .i64 0], .int .i64 1000] w (Ret (.tuple #[.agg #[.int .i64 466163, .int .i64 1000, .int .i64 116541, .int .i64 250], .int .i64 0]) w) := by
  refine (Hertz_c 440 1 1 0 0 0 0 0 1000 w).mono ?_
  rintro e w' ⟨hb, ⟨hg, _⟩ | ⟨_, lo, hi, hLH, hr⟩⟩
  · rw [show hzG 440 1 1 0 0 0 0 0 1000 = true by decide +kernel] at hg
    cases hg
  · obtain ⟨rfl, rfl⟩ := hLH.same (rest_pos 1 0 0 0 0 0) (by decide) lohi17
    rcases hr with ⟨h, _⟩ | ⟨_, rfl⟩
    · omega
    · refine ⟨?_, hb⟩
      unfold bandOf
      rw [show mkN ((466163 : Nat) : Int) 1000 = 466163 by decide +kernel, show mkD ((466163 : Nat) : Int) 1000 = 1000 by decide +kernel, show mkN ((466164 : Nat) : Int) 1000 = 116541 by decide +kernel, show mkD ((466164 : Nat) : Int) 1000 = 250 by decide +kernel]

theorem wp_letter {P : Program} {c : Code} {Q : Exit → Act → World → Prop} {a : Act} {w : World} (h : ∀ W, W = w → c.wp P Q a W) : c.wp P Q a w := h w rfl
theorem calls_letter {P : Program} {f : FuncId} {args : Array Value} {w : World} {Q : Ending → World → Prop} (h : ∀ W, W = w → Calls P f args W Q) : Calls P f args w Q := h w rfl
set_option maxRecDepth 100000 in
set_option maxHeartbeats 8000000 in
theorem head17_c (w : World) : Calls Try.prog 11 #[] w (Ret (.bool true) w) := by
  go_enter Try.func11, Try.ntmps11
  go_wp2_with fail
  ((with_reducible refine (of17_440_1 _).mono ?_); rintro e v1 ⟨rfl, b1⟩)
  go_wp2_with fail
  refine wp_letter ?_
  intro W0 hW0
  have k0 : Below w.heap.size w W0 := by
    rw [hW0]
    repeat (first | (with_reducible exact bl_refl _) | (with_reducible refine bl_alloc ?_ _) | (with_reducible refine bl_last (by assumption) ?_) | (with_reducible exact bl_refl _))
  have A0 : Blk W0 v1.heap.size 23 #[.int .i64 440, .int .i64 1] := by
    rw [hW0]
    repeat (first | (with_reducible assumption) | (with_reducible exact Blk.new _ _ _) | (with_reducible refine blk_last ?_ (by assumption)) | (with_reducible refine Blk.alloc ?_ _))
  clear hW0
  have zA := A0.lt
  have cA0 := A0.cell 0
  have cA1 := A0.cell 1
  simp only [List.getElem?_toArray, List.getElem?_cons_zero, List.getElem?_cons_succ] at cA0 cA1
  (refine wp_region_alloc [0,1,2,3,4,5] [5] [7,8] 6 23 #[.int .i64 0, .int .i64 0] _ (by kernel_rfl) (by kernel_rfl) (by kernel_rfl) (by rfl) (by repeat (first | exact panic_body | refine panic_then ?_ | refine panic_block ?_)) rfl (fun _ _ => by go_simp) ?_
   simp only [pickI, pick, List.getElem?_cons_succ, List.getElem?_cons_zero]
   iterate 6 (first
     | (refine headZ_val (by rfl) (by rfl) ?_
        apply Exists.intro
        refine ⟨fun X hX => ?_, ?_⟩
        · (obtain ⟨qz, qc, qf⟩ := bcl hX.out (by first | (simp; rfl) | rfl)
           go_simp
           first | done | (go_at_call 28; ((with_reducible refine (of17_659_1 _).mono ?_); rintro e w2 ⟨rfl, hb2⟩; exact ⟨rfl, hb2⟩)) | (go_at_call 12; ((with_reducible refine (rate17_a _).mono ?_); rintro e w2 ⟨rfl, hb2⟩; exact ⟨rfl, hb2⟩)) | rfl | exact ⟨rfl, rfl⟩)
        simp only [Act.put, List.setIfInBounds_toArray, List.set_cons_zero, List.set_cons_succ])
     | (refine headZ_pure (by rfl) (by rfl) ?_
        apply Exists.intro
        refine ⟨fun X => ?_, ?_⟩
        · (go_simp
           first | done | rfl)
        simp only [Act.put, List.setIfInBounds_toArray, List.set_cons_zero, List.set_cons_succ])
     | (refine headZ_pass (by rfl) ?_
        simp only [Act.put, List.setIfInBounds_toArray, List.set_cons_zero, List.set_cons_succ]))
   refine headZ_nil ?_
   intro w' Bq hw' hBq hBk
   have hb := hw'.out
   clear hw'
   try simp only [List.setIfInBounds_toArray, List.set_cons_zero, List.set_cons_succ]
   obtain ⟨hz, hc, hf⟩ := bcl hb (by first | (simp; rfl) | rfl))
  obtain ⟨bX, rfl⟩ : ∃ b, b = Bq := ⟨_, rfl⟩
  have u0 := hBk.cell 0
  have f0 := hBk.frozen 0
  have u1 := hBk.cell 1
  have f1 := hBk.frozen 1
  have zq := hBk.lt
  simp only [List.getElem?_toArray, List.getElem?_cons_zero, List.getElem?_cons_succ] at u0 u1
  clear cA0 cA1 hc hf
  go_wp2
  refine wp_letter ?_
  intro W1 hW1
  have k1 : Below w.heap.size w W1 := by
    rw [hW1]
    exact bl_set' (by show w.heap.size ≤ bX; have := k0.size; omega) (bl_set' (by show w.heap.size ≤ bX; have := k0.size; omega) (bl_trans k0 hb))
  have A1 : Blk W1 v1.heap.size 23 #[.int .i64 440, .int .i64 1] := by
    rw [hW1]
    exact (((A0.below hb zA).far (by show v1.heap.size ≠ bX; omega) _).far (by show v1.heap.size ≠ bX; omega) _)
  have X1 : Blk W1 bX 23 #[.int .i64 2, .int .i64 1] := by
    rw [hW1]
    exact ((hBk.set_ 0 (.int .i64 2)).set_ 1 (.int .i64 1))
  clear hW1
  clear hb hBk hBq hz u0 u1 f0 f1 zq
  have zA := A1.lt
  have zX := X1.lt
  have cA0 := A1.cell 0
  have cA1 := A1.cell 1
  simp only [List.getElem?_toArray, List.getElem?_cons_zero, List.getElem?_cons_succ] at cA0 cA1
  (refine wp_region_alloc [0,1,2,3,4,5] [5] [7,8] 6 23 #[.int .i64 0, .int .i64 0] _ (by kernel_rfl) (by kernel_rfl) (by kernel_rfl) (by rfl) (by repeat (first | exact panic_body | refine panic_then ?_ | refine panic_block ?_)) rfl (fun _ _ => by go_simp) ?_
   simp only [pickI, pick, List.getElem?_cons_succ, List.getElem?_cons_zero]
   iterate 6 (first
     | (refine headZ_val (by rfl) (by rfl) ?_
        apply Exists.intro
        refine ⟨fun X hX => ?_, ?_⟩
        · (obtain ⟨qz, qc, qf⟩ := bcl hX.out (by first | (simp; rfl) | rfl)
           go_simp
           first | done | (go_at_call 28; ((with_reducible refine (of17_1_2 _).mono ?_); rintro e w2 ⟨rfl, hb2⟩; exact ⟨rfl, hb2⟩)) | (go_at_call 14; ((with_reducible refine (set17_a _).mono ?_); rintro e w2 ⟨rfl, hb2⟩; exact ⟨rfl, hb2⟩)) | rfl | exact ⟨rfl, rfl⟩)
        simp only [Act.put, List.setIfInBounds_toArray, List.set_cons_zero, List.set_cons_succ])
     | (refine headZ_pure (by rfl) (by rfl) ?_
        apply Exists.intro
        refine ⟨fun X => ?_, ?_⟩
        · (go_simp
           first | done | rfl)
        simp only [Act.put, List.setIfInBounds_toArray, List.set_cons_zero, List.set_cons_succ])
     | (refine headZ_pass (by rfl) ?_
        simp only [Act.put, List.setIfInBounds_toArray, List.set_cons_zero, List.set_cons_succ]))
   refine headZ_nil ?_
   intro w' Bq hw' hBq hBk
   have hb := hw'.out
   clear hw'
   try simp only [List.setIfInBounds_toArray, List.set_cons_zero, List.set_cons_succ]
   obtain ⟨hz, hc, hf⟩ := bcl hb (by first | (simp; rfl) | rfl))
  obtain ⟨bY, rfl⟩ : ∃ b, b = Bq := ⟨_, rfl⟩
  have u0 := hBk.cell 0
  have f0 := hBk.frozen 0
  have u1 := hBk.cell 1
  have f1 := hBk.frozen 1
  have zq := hBk.lt
  simp only [List.getElem?_toArray, List.getElem?_cons_zero, List.getElem?_cons_succ] at u0 u1
  clear cA0 cA1 hc hf
  go_wp2_with fail
  refine calls_letter ?_
  intro W2 hW2
  have k2 : Below w.heap.size w W2 := by
    rw [hW2]
    exact bl_set' (by show w.heap.size ≤ bY; have := k1.size; omega) (bl_set' (by show w.heap.size ≤ bY; have := k1.size; omega) (bl_trans k1 hb))
  have A2 : Blk W2 v1.heap.size 23 #[.int .i64 440, .int .i64 1] := by
    rw [hW2]
    exact (((A1.below hb zA).far (by show v1.heap.size ≠ bY; omega) _).far (by show v1.heap.size ≠ bY; omega) _)
  have X2 : Blk W2 bX 23 #[.int .i64 2, .int .i64 1] := by
    rw [hW2]
    exact (((X1.below hb zX).far (by show bX ≠ bY; omega) _).far (by show bX ≠ bY; omega) _)
  have Y2 : Blk W2 bY 23 #[.int .i64 2639, .int .i64 4] := by
    rw [hW2]
    exact ((hBk.set_ 0 (.int .i64 2639)).set_ 1 (.int .i64 4))
  clear hW2
  clear hb hBk hBq hz u0 u1 f0 f1 zq
  ((with_reducible refine (pair17_a _).mono ?_); rintro e v2 ⟨rfl, b2⟩)
  go_wp2_with fail
  ((with_reducible refine (of17_2_3 _).mono ?_); rintro e v3 ⟨rfl, b3⟩)
  go_wp2_with fail
  ((with_reducible refine (of17_10_1 _).mono ?_); rintro e v4 ⟨rfl, b4⟩)
  go_wp2_with fail
  ((with_reducible refine (counts17_a _).mono ?_); rintro e v5 ⟨rfl, b5⟩)
  go_wp2_with fail
  ((with_reducible refine (of17_10_1 _).mono ?_); rintro e v6 ⟨rfl, b6⟩)
  go_wp2_with fail
  ((with_reducible refine (band17_a _).mono ?_); rintro e v7 ⟨rfl, b7⟩)
  go_wp2_with fail
  refine wp_letter ?_
  intro W3 hW3
  have k3 : Below w.heap.size w W3 := by
    rw [hW3]
    repeat (first | (with_reducible exact k2) | (with_reducible refine bl_alloc ?_ _) | (with_reducible refine bl_last (by assumption) ?_) | (with_reducible exact bl_refl _))
  have A3 : Blk W3 v1.heap.size 23 #[.int .i64 440, .int .i64 1] := by
    rw [hW3]
    repeat (first | (with_reducible assumption) | (with_reducible exact Blk.new _ _ _) | (with_reducible refine blk_last ?_ (by assumption)) | (with_reducible refine Blk.alloc ?_ _))
  have X3 : Blk W3 bX 23 #[.int .i64 2, .int .i64 1] := by
    rw [hW3]
    repeat (first | (with_reducible assumption) | (with_reducible exact Blk.new _ _ _) | (with_reducible refine blk_last ?_ (by assumption)) | (with_reducible refine Blk.alloc ?_ _))
  have Y3 : Blk W3 bY 23 #[.int .i64 2639, .int .i64 4] := by
    rw [hW3]
    repeat (first | (with_reducible assumption) | (with_reducible exact Blk.new _ _ _) | (with_reducible refine blk_last ?_ (by assumption)) | (with_reducible refine Blk.alloc ?_ _))
  have B3 : Blk W3 v7.heap.size 27 #[.int .i64 1, .int .i64 2, .int .i64 7, .int .i64 10] := by
    rw [hW3]
    repeat (first | (with_reducible assumption) | (with_reducible exact Blk.new _ _ _) | (with_reducible refine blk_last ?_ (by assumption)) | (with_reducible refine Blk.alloc ?_ _))
  clear hW3
  have zA := A3.lt
  have zX := X3.lt
  have zY := Y3.lt
  have zB := B3.lt
  have cA0 := A3.cell 0
  have cA1 := A3.cell 1
  simp only [List.getElem?_toArray, List.getElem?_cons_zero, List.getElem?_cons_succ] at cA0 cA1
  (refine wp_region_alloc [0,1,2,3,4,5,6,7,8,9] [9] [11,12] 10 27 #[.int .i64 0, .int .i64 0, .int .i64 0, .int .i64 0] _ (by kernel_rfl) (by kernel_rfl) (by kernel_rfl) (by rfl) (by repeat (first | exact panic_body | refine panic_then ?_ | refine panic_block ?_)) rfl (fun _ _ => by go_simp) ?_
   simp only [pickI, pick, List.getElem?_cons_succ, List.getElem?_cons_zero]
   iterate 10 (first
     | (refine headZ_val (by rfl) (by rfl) ?_
        apply Exists.intro
        refine ⟨fun X hX => ?_, ?_⟩
        · (obtain ⟨qz, qc, qf⟩ := bcl hX.out (by first | (simp; rfl) | rfl)
           go_simp
           first | done | (go_at_call 28; ((with_reducible refine (of17_441_1 _).mono ?_); rintro e w2 ⟨rfl, hb2⟩; exact ⟨rfl, hb2⟩)) | (go_at_call 28; ((with_reducible refine (of17_0_1 _).mono ?_); rintro e w2 ⟨rfl, hb2⟩; exact ⟨rfl, hb2⟩)) | (go_at_call 28; ((with_reducible refine (of17_1_1 _).mono ?_); rintro e w2 ⟨rfl, hb2⟩; exact ⟨rfl, hb2⟩)) | (go_at_call 22; ((with_reducible refine (move17_a _).mono ?_); rintro e w2 ⟨rfl, hb2⟩; exact ⟨rfl, hb2⟩)) | rfl | exact ⟨rfl, rfl⟩)
        simp only [Act.put, List.setIfInBounds_toArray, List.set_cons_zero, List.set_cons_succ])
     | (refine headZ_pure (by rfl) (by rfl) ?_
        apply Exists.intro
        refine ⟨fun X => ?_, ?_⟩
        · (go_simp
           first | done | rfl)
        simp only [Act.put, List.setIfInBounds_toArray, List.set_cons_zero, List.set_cons_succ])
     | (refine headZ_pass (by rfl) ?_
        simp only [Act.put, List.setIfInBounds_toArray, List.set_cons_zero, List.set_cons_succ]))
   refine headZ_nil ?_
   intro w' Bq hw' hBq hBk
   have hb := hw'.out
   clear hw'
   try simp only [List.setIfInBounds_toArray, List.set_cons_zero, List.set_cons_succ]
   obtain ⟨hz, hc, hf⟩ := bcl hb (by first | (simp; rfl) | rfl))
  obtain ⟨bM, rfl⟩ : ∃ b, b = Bq := ⟨_, rfl⟩
  have u0 := hBk.cell 0
  have f0 := hBk.frozen 0
  have u1 := hBk.cell 1
  have f1 := hBk.frozen 1
  have u2 := hBk.cell 2
  have f2 := hBk.frozen 2
  have u3 := hBk.cell 3
  have f3 := hBk.frozen 3
  have zq := hBk.lt
  simp only [List.getElem?_toArray, List.getElem?_cons_zero, List.getElem?_cons_succ] at u0 u1 u2 u3
  clear cA0 cA1 hc hf
  have A9 := A3.below hb zA
  have cA0 := A9.cell 0
  have cA1 := A9.cell 1
  simp only [List.getElem?_toArray, List.getElem?_cons_zero, List.getElem?_cons_succ] at cA0 cA1
  have nA : v1.heap.size ≠ bM := by omega
  go_wp2_with fail
  clear cA0 cA1 nA
  refine calls_letter ?_
  intro W4 hW4
  have k4 : Below w.heap.size w W4 := by
    rw [hW4]
    exact bl_set' (by show w.heap.size ≤ bM; have := k3.size; omega) (bl_set' (by show w.heap.size ≤ bM; have := k3.size; omega) (bl_set' (by show w.heap.size ≤ bM; have := k3.size; omega) (bl_set' (by show w.heap.size ≤ bM; have := k3.size; omega) (bl_trans k3 hb))))
  have A4 : Blk W4 v1.heap.size 23 #[.int .i64 440, .int .i64 1] := by
    rw [hW4]
    exact (((((A3.below hb zA).far (by show v1.heap.size ≠ bM; omega) _).far (by show v1.heap.size ≠ bM; omega) _).far (by show v1.heap.size ≠ bM; omega) _).far (by show v1.heap.size ≠ bM; omega) _)
  have X4 : Blk W4 bX 23 #[.int .i64 2, .int .i64 1] := by
    rw [hW4]
    exact (((((X3.below hb zX).far (by show bX ≠ bM; omega) _).far (by show bX ≠ bM; omega) _).far (by show bX ≠ bM; omega) _).far (by show bX ≠ bM; omega) _)
  have Y4 : Blk W4 bY 23 #[.int .i64 2639, .int .i64 4] := by
    rw [hW4]
    exact (((((Y3.below hb zY).far (by show bY ≠ bM; omega) _).far (by show bY ≠ bM; omega) _).far (by show bY ≠ bM; omega) _).far (by show bY ≠ bM; omega) _)
  have B4 : Blk W4 v7.heap.size 27 #[.int .i64 1, .int .i64 2, .int .i64 7, .int .i64 10] := by
    rw [hW4]
    exact (((((B3.below hb zB).far (by show v7.heap.size ≠ bM; omega) _).far (by show v7.heap.size ≠ bM; omega) _).far (by show v7.heap.size ≠ bM; omega) _).far (by show v7.heap.size ≠ bM; omega) _)
  have M4 : Blk W4 bM 27 #[.int .i64 660, .int .i64 1, .int .i64 662, .int .i64 1] := by
    rw [hW4]
    exact ((((hBk.set_ 0 (.int .i64 660)).set_ 1 (.int .i64 1)).set_ 2 (.int .i64 662)).set_ 3 (.int .i64 1))
  clear hW4
  clear hb hBk hBq hz u0 u1 u2 u3 f0 f1 f2 f3 zq
  ((with_reducible refine (hertz17_a _).mono ?_); rintro e v8 ⟨rfl, b8⟩)
  go_wp2_with fail
  refine wp_letter ?_
  intro W5 hW5
  have k5 : Below w.heap.size w W5 := by
    rw [hW5]
    repeat (first | (with_reducible exact k4) | (with_reducible refine bl_alloc ?_ _) | (with_reducible refine bl_last (by assumption) ?_) | (with_reducible exact bl_refl _))
  have A5 : Blk W5 v1.heap.size 23 #[.int .i64 440, .int .i64 1] := by
    rw [hW5]
    repeat (first | (with_reducible assumption) | (with_reducible exact Blk.new _ _ _) | (with_reducible refine blk_last ?_ (by assumption)) | (with_reducible refine Blk.alloc ?_ _))
  have X5 : Blk W5 bX 23 #[.int .i64 2, .int .i64 1] := by
    rw [hW5]
    repeat (first | (with_reducible assumption) | (with_reducible exact Blk.new _ _ _) | (with_reducible refine blk_last ?_ (by assumption)) | (with_reducible refine Blk.alloc ?_ _))
  have Y5 : Blk W5 bY 23 #[.int .i64 2639, .int .i64 4] := by
    rw [hW5]
    repeat (first | (with_reducible assumption) | (with_reducible exact Blk.new _ _ _) | (with_reducible refine blk_last ?_ (by assumption)) | (with_reducible refine Blk.alloc ?_ _))
  have B5 : Blk W5 v7.heap.size 27 #[.int .i64 1, .int .i64 2, .int .i64 7, .int .i64 10] := by
    rw [hW5]
    repeat (first | (with_reducible assumption) | (with_reducible exact Blk.new _ _ _) | (with_reducible refine blk_last ?_ (by assumption)) | (with_reducible refine Blk.alloc ?_ _))
  have M5 : Blk W5 bM 27 #[.int .i64 660, .int .i64 1, .int .i64 662, .int .i64 1] := by
    rw [hW5]
    repeat (first | (with_reducible assumption) | (with_reducible exact Blk.new _ _ _) | (with_reducible refine blk_last ?_ (by assumption)) | (with_reducible refine Blk.alloc ?_ _))
  have Z5 : Blk W5 v8.heap.size 27 #[.int .i64 466163, .int .i64 1000, .int .i64 116541, .int .i64 250] := by
    rw [hW5]
    repeat (first | (with_reducible assumption) | (with_reducible exact Blk.new _ _ _) | (with_reducible refine blk_last ?_ (by assumption)) | (with_reducible refine Blk.alloc ?_ _))
  clear hW5
  have zA := A5.lt
  have zX := X5.lt
  have zY := Y5.lt
  have zB := B5.lt
  have zM := M5.lt
  have zZ := Z5.lt
  have cA0 := A5.cell 0
  have cA1 := A5.cell 1
  simp only [List.getElem?_toArray, List.getElem?_cons_zero, List.getElem?_cons_succ] at cA0 cA1
  (refine wp_region_alloc [0,1,2,3,4,5] [5] [7,8] 6 23 #[.int .i64 0, .int .i64 0] _ (by kernel_rfl) (by kernel_rfl) (by kernel_rfl) (by rfl) (by repeat (first | exact panic_body | refine panic_then ?_ | refine panic_block ?_)) rfl (fun _ _ => by go_simp) ?_
   simp only [pickI, pick, List.getElem?_cons_succ, List.getElem?_cons_zero]
   iterate 6 (first
     | (refine headZ_val (by rfl) (by rfl) ?_
        apply Exists.intro
        refine ⟨fun X hX => ?_, ?_⟩
        · (obtain ⟨qz, qc, qf⟩ := bcl hX.out (by first | (simp; rfl) | rfl)
           go_simp
           first | done | (go_at_call 28; ((with_reducible refine (of17_0_1 _).mono ?_); rintro e w2 ⟨rfl, hb2⟩; exact ⟨rfl, hb2⟩)) | (go_at_call 12; ((with_reducible refine (rate17_b _).mono ?_); rintro e w2 ⟨rfl, hb2⟩; exact ⟨rfl, hb2⟩)) | rfl | exact ⟨rfl, rfl⟩)
        simp only [Act.put, List.setIfInBounds_toArray, List.set_cons_zero, List.set_cons_succ])
     | (refine headZ_pure (by rfl) (by rfl) ?_
        apply Exists.intro
        refine ⟨fun X => ?_, ?_⟩
        · (go_simp
           first | done | rfl)
        simp only [Act.put, List.setIfInBounds_toArray, List.set_cons_zero, List.set_cons_succ])
     | (refine headZ_pass (by rfl) ?_
        simp only [Act.put, List.setIfInBounds_toArray, List.set_cons_zero, List.set_cons_succ]))
   refine headZ_nil ?_
   intro w' Bq hw' hBq hBk
   have hb := hw'.out
   clear hw'
   try simp only [List.setIfInBounds_toArray, List.set_cons_zero, List.set_cons_succ]
   obtain ⟨hz, hc, hf⟩ := bcl hb (by first | (simp; rfl) | rfl))
  obtain ⟨bL, rfl⟩ : ∃ b, b = Bq := ⟨_, rfl⟩
  have u0 := hBk.cell 0
  have f0 := hBk.frozen 0
  have u1 := hBk.cell 1
  have f1 := hBk.frozen 1
  have zq := hBk.lt
  simp only [List.getElem?_toArray, List.getElem?_cons_zero, List.getElem?_cons_succ] at u0 u1
  clear cA0 cA1 hc hf
  go_wp2
  refine wp_letter ?_
  intro W6 hW6
  have k6 : Below w.heap.size w W6 := by
    rw [hW6]
    exact bl_set' (by show w.heap.size ≤ bL; have := k5.size; omega) (bl_set' (by show w.heap.size ≤ bL; have := k5.size; omega) (bl_trans k5 hb))
  have A6 : Blk W6 v1.heap.size 23 #[.int .i64 440, .int .i64 1] := by
    rw [hW6]
    exact (((A5.below hb zA).far (by show v1.heap.size ≠ bL; omega) _).far (by show v1.heap.size ≠ bL; omega) _)
  have X6 : Blk W6 bX 23 #[.int .i64 2, .int .i64 1] := by
    rw [hW6]
    exact (((X5.below hb zX).far (by show bX ≠ bL; omega) _).far (by show bX ≠ bL; omega) _)
  have Y6 : Blk W6 bY 23 #[.int .i64 2639, .int .i64 4] := by
    rw [hW6]
    exact (((Y5.below hb zY).far (by show bY ≠ bL; omega) _).far (by show bY ≠ bL; omega) _)
  have B6 : Blk W6 v7.heap.size 27 #[.int .i64 1, .int .i64 2, .int .i64 7, .int .i64 10] := by
    rw [hW6]
    exact (((B5.below hb zB).far (by show v7.heap.size ≠ bL; omega) _).far (by show v7.heap.size ≠ bL; omega) _)
  have M6 : Blk W6 bM 27 #[.int .i64 660, .int .i64 1, .int .i64 662, .int .i64 1] := by
    rw [hW6]
    exact (((M5.below hb zM).far (by show bM ≠ bL; omega) _).far (by show bM ≠ bL; omega) _)
  have Z6 : Blk W6 v8.heap.size 27 #[.int .i64 466163, .int .i64 1000, .int .i64 116541, .int .i64 250] := by
    rw [hW6]
    exact (((Z5.below hb zZ).far (by show v8.heap.size ≠ bL; omega) _).far (by show v8.heap.size ≠ bL; omega) _)
  have L6 : Blk W6 bL 23 #[.int .i64 0, .int .i64 0] := by
    rw [hW6]
    exact ((hBk.set_ 0 (.int .i64 0)).set_ 1 (.int .i64 0))
  clear hW6
  clear hb hBk hBq hz u0 u1 f0 f1 zq
  have zA := A6.lt
  have zX := X6.lt
  have zY := Y6.lt
  have zB := B6.lt
  have zM := M6.lt
  have zZ := Z6.lt
  have zL := L6.lt
  have cX0 := X6.cell 0
  have cX1 := X6.cell 1
  have cY0 := Y6.cell 0
  have cY1 := Y6.cell 1
  simp only [List.getElem?_toArray, List.getElem?_cons_zero, List.getElem?_cons_succ] at cX0 cX1 cY0 cY1
  (refine wp_region_bl [0,1,2,3,4,5,6,7,8,9,10,11,12,13,14,15,16,17,18,19,20,21,22,23,24,25,26] [27] (by kernel_rfl) (by kernel_rfl) (by rfl) ?_
   simp only [pickI, pick, List.getElem?_cons_succ, List.getElem?_cons_zero]
   iterate 27 (first
     | (refine head_val (by rfl) (by rfl) ?_
        apply Exists.intro
        refine ⟨fun X hX => ?_, ?_⟩
        · (obtain ⟨qz, qc, qf⟩ := bcl hX.out (by first | (simp; rfl) | rfl)
           go_simp
           first | done | (go_at_call 28; ((with_reducible refine (of17_2_1 _).mono ?_); rintro e w2 ⟨rfl, hb2⟩; exact ⟨rfl, hX.trans hb2⟩)) | (go_at_call 28; ((with_reducible refine (of17_2639_4 _).mono ?_); rintro e w2 ⟨rfl, hb2⟩; exact ⟨rfl, hX.trans hb2⟩)) | rfl | exact ⟨rfl, rfl⟩)
        simp only [Act.put, List.setIfInBounds_toArray, List.set_cons_zero, List.set_cons_succ])
     | (refine head_pass (by rfl) ?_
        simp only [Act.put, List.setIfInBounds_toArray, List.set_cons_zero, List.set_cons_succ]))
   refine head_nil ?_
   intro w' hw'
   have hb := hw'.out
   clear hw'
   obtain ⟨hz, hc, hf⟩ := bcl hb (by first | (simp; rfl) | rfl))
  clear cX0 cX1 cY0 cY1 hc hf
  go_wp2
  refine wp_letter ?_
  intro W7 hW7
  have k7 : Below w.heap.size w W7 := by
    rw [hW7]
    exact bl_trans k6 hb
  have A7 : Blk W7 v1.heap.size 23 #[.int .i64 440, .int .i64 1] := by
    rw [hW7]
    exact A6.below hb zA
  have X7 : Blk W7 bX 23 #[.int .i64 2, .int .i64 1] := by
    rw [hW7]
    exact X6.below hb zX
  have Y7 : Blk W7 bY 23 #[.int .i64 2639, .int .i64 4] := by
    rw [hW7]
    exact Y6.below hb zY
  have B7 : Blk W7 v7.heap.size 27 #[.int .i64 1, .int .i64 2, .int .i64 7, .int .i64 10] := by
    rw [hW7]
    exact B6.below hb zB
  have M7 : Blk W7 bM 27 #[.int .i64 660, .int .i64 1, .int .i64 662, .int .i64 1] := by
    rw [hW7]
    exact M6.below hb zM
  have Z7 : Blk W7 v8.heap.size 27 #[.int .i64 466163, .int .i64 1000, .int .i64 116541, .int .i64 250] := by
    rw [hW7]
    exact Z6.below hb zZ
  have L7 : Blk W7 bL 23 #[.int .i64 0, .int .i64 0] := by
    rw [hW7]
    exact L6.below hb zL
  clear hW7
  clear hb hz
  have zA := A7.lt
  have zX := X7.lt
  have zY := Y7.lt
  have zB := B7.lt
  have zM := M7.lt
  have zZ := Z7.lt
  have zL := L7.lt
  have cB0 := B7.cell 0
  have cB1 := B7.cell 1
  have cB2 := B7.cell 2
  have cB3 := B7.cell 3
  have cM0 := M7.cell 0
  have cM1 := M7.cell 1
  have cM2 := M7.cell 2
  have cM3 := M7.cell 3
  have cZ0 := Z7.cell 0
  have cZ1 := Z7.cell 1
  have cZ2 := Z7.cell 2
  have cZ3 := Z7.cell 3
  simp only [List.getElem?_toArray, List.getElem?_cons_zero, List.getElem?_cons_succ] at cB0 cB1 cB2 cB3 cM0 cM1 cM2 cM3 cZ0 cZ1 cZ2 cZ3
  (refine wp_region_bl [0,1,2,3,4,5,6,7,8,9,10,11,12,13,14,15,16,17,18,19,20,21] [22] (by kernel_rfl) (by kernel_rfl) (by rfl) ?_
   simp only [pickI, pick, List.getElem?_cons_succ, List.getElem?_cons_zero]
   iterate 22 (first
     | (refine head_val (by rfl) (by rfl) ?_
        apply Exists.intro
        refine ⟨fun X hX => ?_, ?_⟩
        · (obtain ⟨qz, qc, qf⟩ := bcl hX.out (by first | (simp; rfl) | rfl)
           go_simp
           first | done | (go_at_call 28; ((with_reducible refine (of17_1_2 _).mono ?_); rintro e w2 ⟨rfl, hb2⟩; exact ⟨rfl, hX.trans hb2⟩)) | (go_at_call 28; ((with_reducible refine (of17_7_10 _).mono ?_); rintro e w2 ⟨rfl, hb2⟩; exact ⟨rfl, hX.trans hb2⟩)) | (go_at_call 28; ((with_reducible refine (of17_660_1 _).mono ?_); rintro e w2 ⟨rfl, hb2⟩; exact ⟨rfl, hX.trans hb2⟩)) | (go_at_call 28; ((with_reducible refine (of17_662_1 _).mono ?_); rintro e w2 ⟨rfl, hb2⟩; exact ⟨rfl, hX.trans hb2⟩)) | (go_at_call 28; ((with_reducible refine (of17_466163_1000 _).mono ?_); rintro e w2 ⟨rfl, hb2⟩; exact ⟨rfl, hX.trans hb2⟩)) | (go_at_call 28; ((with_reducible refine (of17_116541_250 _).mono ?_); rintro e w2 ⟨rfl, hb2⟩; exact ⟨rfl, hX.trans hb2⟩)) | rfl | exact ⟨rfl, rfl⟩)
        simp only [Act.put, List.setIfInBounds_toArray, List.set_cons_zero, List.set_cons_succ])
     | (refine head_pass (by rfl) ?_
        simp only [Act.put, List.setIfInBounds_toArray, List.set_cons_zero, List.set_cons_succ]))
   refine head_nil ?_
   intro w' hw'
   have hb := hw'.out
   clear hw'
   obtain ⟨hz, hc, hf⟩ := bcl hb (by first | (simp; rfl) | rfl))
  go_wp2
  go_ret
  exact ⟨rfl, bl_trans k7 hb⟩
end Go.Proofs.Ythlnfjllkmielaa
