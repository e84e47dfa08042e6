/- natural.Div at numbers of one limb. -/
import Derived.Test.YtgbiiaaeabflnaaDoorNatD
import Derived.Test.YtgbiiaaeabflnaaDoorBlksP
import Derived.Test.YtgbiiaaeabflnaaDoorRegion
import Derived.Laws.Bits64b
import Derived.LoopN
namespace Go.Proofs.YtgbiiaaeabflnaaDoor
open Go Go.RowKit

set_option maxRecDepth 100000 in
set_option maxHeartbeats 4000000 in
theorem Div32_c (x y : Nat) (hx : x < 4294967296) (hy0 : 1 ≤ y) (hy : y < 4294967296) (w : World) : Calls Tryd.prog 79 #[.int .u32 0, .int .u32 (x : Int), .int .u32 (y : Int)] w (Ret (.tuple #[.int .u32 ((x / y : Nat) : Int), .int .u32 ((x % y : Nat) : Int)]) w) := by
  have e0 : ((y : Int) != 0) = true := by simp; omega
  have e1 : ¬ ((y : Int) ≤ 0) := by omega
  have q1 : x / y ≤ x := Nat.div_le_self _ _
  have q2 : x % y < y := Nat.mod_lt _ (by omega)
  have e2 : IntKind.u64.wrap (x : Int) = x := by rw [IntKind.wrap_u64]; omega
  have e3 : IntKind.u64.wrap (y : Int) = y := by rw [IntKind.wrap_u64]; omega
  have e4 : (x : Int).tdiv (y : Int) = ((x / y : Nat) : Int) := by rw [Int.tdiv_eq_ediv_of_nonneg (by omega)]; rfl
  have e5 : (x : Int).tmod (y : Int) = ((x % y : Nat) : Int) := by rw [Int.tmod_eq_emod_of_nonneg (by omega)]; rfl
  obtain ⟨q, hq⟩ : ∃ q : Nat, q = x / y := ⟨_, rfl⟩
  obtain ⟨r, hr⟩ : ∃ r : Nat, r = x % y := ⟨_, rfl⟩
  rw [← hq] at e4 q1 ⊢
  rw [← hr] at e5 q2 ⊢
  have e6 : IntKind.u32.wrap (q : Int) = (q : Int) := by rw [IntKind.wrap_u32]; omega
  have e7 : IntKind.u32.wrap (r : Int) = (r : Int) := by rw [IntKind.wrap_u32]; omega
  have e8 : IntKind.u64.wrap (q : Int) = (q : Int) := by rw [IntKind.wrap_u64]; omega
  have e9 : IntKind.u64.wrap (r : Int) = (r : Int) := by rw [IntKind.wrap_u64]; omega
  have f1 : (y : Int) ≠ 0 := by omega
  have f4 : (x : Int) / (y : Int) = (q : Int) := by rw [hq]; rfl
  have f5 : (x : Int) % (y : Int) = (r : Int) := by rw [hr]; rfl
  have eo : bits BinOp.or IntKind.u64 0 (x : Int) = (x : Int) := by
    have := bits_or_u64_nat 0 x (by omega) (by omega)
    rw [Nat.zero_or] at this
    exact this
  clear hq hr
  go_enter Tryd.func79, Tryd.ntmps79
  go_wp2
  (refine wp_region_ble [0,1,2,3,4,5,6,7,8,9] [0,1,2,3,4,5,6,7,8,9] [10,11] (by kernel_rfl) (by kernel_rfl) (by rfl) (by repeat (first | exact panic_body | refine panic_then ?_ | refine panic_block ?_)) ?_
   simp only [pickI, pick, List.getElem?_cons_succ, List.getElem?_cons_zero]
   iterate 10 (first
     | (refine head_val (by rfl) (by rfl) ?_
        apply Exists.intro
        refine ⟨fun X hX => ?_, ?_⟩
        · (obtain ⟨qz, qc, qf⟩ := bcl hX.out (by first | (simp; rfl) | rfl)
           go_simp
           first | done | rfl | exact ⟨rfl, rfl⟩)
        simp only [Act.put, List.setIfInBounds_toArray, List.set_cons_zero, List.set_cons_succ])
     | (refine head_pure (by rfl) (by rfl) ?_
        apply Exists.intro
        refine ⟨fun X => ?_, ?_⟩
        · (go_simp
           first | done | rfl)
        simp only [Act.put, List.setIfInBounds_toArray, List.set_cons_zero, List.set_cons_succ])
     | (refine head_pass (by rfl) ?_
        simp only [Act.put, List.setIfInBounds_toArray, List.set_cons_zero, List.set_cons_succ]))
   refine head_nil ?_
   intro w' hw'
   have hb := hw'.out
   clear hw'
   obtain ⟨hz, hc, hf⟩ := bcl hb (by first | (simp; rfl) | rfl))
  go_wp2
  (refine bodyPost_ret (v := (.tuple #[.int .u32 (q : Int), .int .u32 (r : Int)])) (by simp only [results, Tryd.results79]; go_simp) rfl ⟨rfl, ?_⟩)
  (repeat (first | (with_reducible exact bl_refl _) | (with_reducible refine bl_drew ?_) | (with_reducible refine bl_alloc ?_ _) | (with_reducible refine bl_set' ?_ ?_; · (first | omega | (simp; done) | (simp; omega))) | (with_reducible refine bl_last (by assumption) ?_) | (with_reducible refine bl_drewN ?_ _)))
theorem limb1 {f : Nat → Nat} {x : Nat} (h : IsN f 1 x) : f 0 = x ∧ 1 ≤ x ∧ x < 4294967296 := by
  have h1 := h.val
  have h2 := h.lt 0 (by omega)
  have h3 : f 0 ≠ 0 := h.top 0 rfl
  have e : nvF f 1 = f 0 := by show 0 + f 0 * 4294967296 ^ 0 = f 0; omega
  omega
theorem nil_zero {f : Nat → Nat} {n : Nat} (h : IsN f n 0) : n = 0 := by
  rcases n with _ | k
  · rfl
  · have h3 := h.top k rfl
    have h1 := h.val
    have e : nvF f (k + 1) = nvF f k + f k * 4294967296 ^ k := rfl
    have : 1 ≤ f k * 4294967296 ^ k := Nat.mul_pos (by omega) (Nat.pow_pos (by omega))
    omega
set_option maxRecDepth 100000 in
set_option maxHeartbeats 4000000 in
theorem short1_c (b c x y : Nat) (w : World) (hb : b < w.heap.size) (hc : w.cell? ⟨b, 0, none⟩ = some (.int .u32 (x : Int))) (hx : x < 4294967296) (hy0 : 1 ≤ y) (hy : y < 4294967296) :
    Calls Tryd.prog 61 #[.slice (some ⟨b, 0, none⟩) 1 c, .int .u32 (y : Int)] w (fun e w' => Below w.heap.size w w' ∧ ∃ q n : Nat, e = .returned (.tuple #[.slice (some ⟨q, 0, none⟩) n n, .int .u32 ((x % y : Nat) : Int)])) := by
  have hmk : ∀ W, (Instr.makeSlice 45 (.int .i64 1) (.int .i64 1)).run Tryd.prog W = .ok (.slice (some ⟨W.heap.size, 0, none⟩) 1 1) (W.alloc (.cells #[.int .u32 0] 57)) := fun W => make_limbs 1 (by omega) W
  have HD := Lib.hid (fun W => Div32_c x y hx hy0 hy W)
  have hq : x / y < 4294967296 := Nat.lt_of_le_of_lt (Nat.div_le_self _ _) hx
  generalize x / y = q at *
  have HF := Lib.hid (fun W B (h : Blk W B 57 #[.int .u32 (q : Int)]) => form_c (fun _ => q) 1 1 B W ⟨h.lt, fun i hi => by
    obtain rfl : i = 0 := by omega
    exact h.cell 0⟩ (by omega) (by omega) (fun _ _ => hq) (by
      have : nvF (fun _ => q) 1 = q := by show 0 + q * 4294967296 ^ 0 = q; omega
      rw [this]
      exact big_le (k := 1) (by omega) (by omega)))
  generalize x % y = r at *
  go_enter Tryd.func61, Tryd.ntmps61
  go_wp2
  refine wp_loop_rounds 2 ?_
  rw [rounds_succ]
  go_wp2_with (go_at_call 79; ((with_reducible refine (HD.out _).mono ?_); rintro en w1 ⟨rfl, d1⟩; obtain ⟨hz1, hc1, hf1⟩ := bcl d1 (by first | (simp; rfl) | rfl)))
  rw [rounds_succ]
  go_wp2_with fail
  refine calls_letter ?_
  intro W2 hW2
  have k2 : Below w.heap.size w W2 := by
    rw [hW2]
    (repeat (first | (with_reducible exact bl_refl _) | (with_reducible refine bl_drew ?_) | (with_reducible refine bl_alloc ?_ _) | (with_reducible refine bl_set' ?_ ?_; · (first | omega | (simp; done) | (simp; omega))) | (with_reducible refine bl_last (by assumption) ?_) | (with_reducible refine bl_drewN ?_ _)))
  have B2 : Blk W2 w.heap.size 57 #[.int .u32 (q : Int)] := by
    rw [hW2]
    exact blk_s (blk_up (Blk.new _ _ _) d1) rfl
  clear hW2
  ((with_reducible refine (HF.out _ _ B2).mono ?_); rintro en w3 ⟨n, hn, rfl, rfl, hI⟩)
  go_wp2
  (refine bodyPost_ret (v := (.tuple #[.slice (some ⟨w.heap.size, 0, none⟩) n n, .int .u32 (r : Int)])) (by simp only [results, Tryd.results61]; go_simp) rfl ⟨k2, _, _, rfl⟩)
set_option maxRecDepth 100000 in
set_option maxHeartbeats 4000000 in
/-- natural.Div at two numbers of one limb. -/
theorem Div1_c (ba bb x y ca cb : Nat) (w : World) (ha : Num w w.heap.size ba 1 x) (hb : Num w w.heap.size bb 1 y) :
    Calls Tryd.prog 38 #[.slice (some ⟨ba, 0, none⟩) 1 ca, .slice (some ⟨bb, 0, none⟩) 1 cb] w (fun e w' => Below w.heap.size w w' ∧ ∃ q n r m : Nat, e = .returned (.tuple #[.slice (some ⟨q, 0, none⟩) n n, .slice (some ⟨r, 0, none⟩) m m, .int .i64 0]) ∧ (x % y = 0 → m = 0)) := by
  have H1 := Lib.hid (Nvalid_c ba 1 x ca w ha (by omega))
  have H2 := Lib.hid (Nvalid_c bb 1 y cb w hb (by omega))
  obtain ⟨fa, ⟨ha0, hac⟩, hA⟩ := ha
  obtain ⟨fb, ⟨hb0, hbc⟩, hB⟩ := hb
  obtain ⟨a1, a2, a3⟩ := limb1 hA
  obtain ⟨b1, b2, b3⟩ := limb1 hB
  have c1 := hac 0 (by omega)
  have c2 := hbc 0 (by omega)
  rw [a1] at c1
  rw [b1] at c2
  have HS := Lib.hid (short1_c ba ca x y w ha0 c1 a3 b2 b3)
  have hr : x % y < 4294967296 := Nat.lt_trans (Nat.mod_lt _ (by omega)) b3
  clear hac hbc hA hB c1
  obtain ⟨r, hrr⟩ : ∃ r : Nat, r = x % y := ⟨_, rfl⟩
  rw [← hrr] at hr HS ⊢
  have e7 : IntKind.u64.wrap (r : Int) = (r : Int) := by rw [IntKind.wrap_u64]; omega
  have HM := Lib.hid (fun W => Nmake_c r W (by omega))
  clear hrr
  go_enter Tryd.func38, Tryd.ntmps38
  go_wp2_with (first | (go_at_call 59; ((with_reducible refine H1.out.mono ?_); rintro en v1 ⟨rfl, rfl⟩)) | (go_at_call 59; ((with_reducible refine H2.out.mono ?_); rintro en v2 ⟨rfl, rfl⟩)))
  ((with_reducible refine HS.out.mono ?_); rintro en v3 ⟨d3, q, n, rfl⟩)
  obtain ⟨hz3, hc3, hf3⟩ := bcl d3 (by first | (simp; rfl) | rfl)
  go_wp2_with fail
  ((with_reducible refine (HM.out _).mono ?_); rintro en v4 ⟨d4, b, m, hbm, rfl, ⟨g, _, hI⟩, _⟩)
  go_wp2_with fail
  (refine bodyPost_ret (v := (.tuple #[.slice (some ⟨q, 0, none⟩) n n, .slice (some ⟨b, 0, none⟩) m m, .int .i64 0])) (by simp only [results, Tryd.results38]; go_simp) rfl ⟨?_, _, _, _, _, rfl, fun h => ?_⟩)
  · exact bl_last d4 (bl_last d3 (bl_refl _))
  · subst h
    exact nil_zero hI
end Go.Proofs.YtgbiiaaeabflnaaDoor
