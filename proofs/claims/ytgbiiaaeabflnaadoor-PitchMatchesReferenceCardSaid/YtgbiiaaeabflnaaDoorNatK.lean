/- The reference's natural numbers: Pow of 1. -/
import Derived.Test.YtgbiiaaeabflnaaDoorNatJ
namespace Go.Proofs.YtgbiiaaeabflnaaDoor
open Go.RowKit

theorem num_one {w : World} {B b n : Nat} (h : Num w B b n 1) : n = 1 ∧ b < B ∧ w.cell? ⟨b, 0, none⟩ = some (.int .u32 1) := by
  obtain ⟨f, ⟨h1, h2⟩, hI⟩ := h
  have hn : n ≤ 1 := isN_len (k := 1) hI (by decide)
  have hv := hI.val
  rcases n with _ | n
  · have : (0 : Nat) = 1 := hv
    omega
  · obtain rfl : n = 0 := by omega
    have e : f 0 = 1 := by
      have : 0 + f 0 * 4294967296 ^ 0 = 1 := hv
      simpa using this
    have := h2 0 (by omega)
    rw [e] at this
    exact ⟨rfl, h1, this⟩
set_option maxRecDepth 100000 in
set_option maxHeartbeats 4000000 in
theorem RPow_one (ba n ca N : Nat) (w : World) (ha : Num w w.heap.size ba n 1) (hN : 1 ≤ N) (hN2 : N ≤ 20000) :
    Calls Tryd.prog 74 #[.slice (some ⟨ba, 0, none⟩) n ca, .int .i64 (N : Int)] w (RNumE 1 w) := by
  obtain ⟨rfl, hb0, hcell⟩ := num_one ha
  have hV := Lib.hid (RNvalid_c ba 1 1 ca w ha (by omega))
  have HO := Lib.hid (fun W (hw : Below w.heap.size w W) => ROrder_c ba W.heap.size 1 1 1 1 ca 1 (W.alloc (.cells #[.int .u32 1] 57)) (ha.up (bl_alloc hw _)) (one_num W 57) (by omega) (by omega))
  rw [ordZ_eq] at HO
  have hN0 : ((N : Int) == 0) = false := by simp; omega
  clear ha
  go_enter Tryd.func74, Tryd.ntmps74
  go_wp2_with (first | (go_at_call 93; ((with_reducible refine (hV.out).mono ?_); rintro e w' ⟨rfl, rfl⟩)) | (go_at_call 72; ((with_reducible refine (HO.out _ (by (repeat (first | (with_reducible exact bl_refl _) | (with_reducible refine bl_drew ?_) | (with_reducible refine bl_alloc ?_ _) | (with_reducible refine bl_set' ?_ ?_; · (first | omega | (simp; done) | (simp; omega))) | (with_reducible refine bl_last (by assumption) ?_) | (with_reducible refine bl_drewN ?_ _))))).mono ?_); rintro e w' ⟨rfl, hb⟩; obtain ⟨hz, hc, hf⟩ := bcl hb (by first | (simp; rfl) | rfl))))
  go_ret2
  have hC : ∀ t : Nat, 1 ≤ (Question.appendCap 1 0 57).cut t := fun t => by
    show 1 ≤ 1 + t % (2 ^ 63 - 1)
    omega
  have hk := hC (w'.tape w'.drawn (Question.appendCap 1 0 57))
  generalize (Question.appendCap 1 0 57).cut (w'.tape w'.drawn (Question.appendCap 1 0 57)) = c at *
  have hX : Below w.heap.size w ((w'.alloc (Obj.cells #[] 57)).alloc (Obj.cells (#[Value.int IntKind.u32 1] ++ Builtin.zeroCells #[Value.int IntKind.u32 0] (c - 1)) 57)) := by (repeat (first | (with_reducible exact bl_refl _) | (with_reducible refine bl_drew ?_) | (with_reducible refine bl_alloc ?_ _) | (with_reducible refine bl_set' ?_ ?_; · (first | omega | (simp; done) | (simp; omega))) | (with_reducible refine bl_last (by assumption) ?_) | (with_reducible refine bl_drewN ?_ _)))
  have hB := Blk.new (w'.alloc (Obj.cells #[] 57)) 57 (#[Value.int IntKind.u32 1] ++ Builtin.zeroCells #[Value.int IntKind.u32 0] (c - 1))
  have hc0 := hB.cell 0
  have h1 : (#[Value.int IntKind.u32 1] ++ Builtin.zeroCells #[Value.int IntKind.u32 0] (c - 1))[0]? = some (Value.int IntKind.u32 1) := by simp [Array.getElem?_append]
  rw [h1] at hc0
  have hs : (w'.alloc (Obj.cells #[] 57)).heap.size = w'.heap.size + 1 := by simp
  have hl := hB.lt
  rw [hs] at hc0 hl
  refine ⟨⟨hX.os, hX.tape, hX.output, hX.size, hX.block⟩, w'.heap.size + 1, 1, c, by omega, rfl, ⟨fun _ => 1, ⟨hl, fun i hi => ?_⟩, ⟨fun i hi => by omega, by simp [nvF], fun k hk => by omega⟩⟩, by omega, hk⟩
  obtain rfl : i = 0 := by omega
  exact hc0
/-- Pow of a number that is not 0, for an exponent that is not 0. -/
theorem RPow_pos (ba n x ca N : Nat) (w : World) (ha : Num w w.heap.size ba n x) (hn : n ≤ 640) (hN : 1 ≤ N) (hN2 : N ≤ 20000) (hx1 : 1 ≤ x) (hx : x ^ N < Cap) :
    Calls Tryd.prog 74 #[.slice (some ⟨ba, 0, none⟩) n ca, .int .i64 (N : Int)] w (RNumE (x ^ N) w) := by
  by_cases h : 2 ≤ x
  · exact RPow_c ba n x ca N w ha hn hN hN2 h hx
  · obtain rfl : x = 1 := by omega
    rw [Nat.one_pow]
    exact RPow_one ba n ca N w ha hN hN2
end Go.Proofs.YtgbiiaaeabflnaaDoor
