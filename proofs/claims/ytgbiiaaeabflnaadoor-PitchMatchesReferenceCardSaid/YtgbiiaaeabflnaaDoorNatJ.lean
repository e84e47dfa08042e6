/- The reference's natural numbers: Pow of a number above 1. -/
import Derived.Test.YtgbiiaaeabflnaaDoorNatI
import Derived.Test.YtgbiiaaeabflnaaDoorNatE
namespace Go.Proofs.YtgbiiaaeabflnaaDoor
open Go.RowKit

theorem num_len {w : World} {B b n x : Nat} (h : Num w B b n x) (hx : x < Cap) : n ≤ 640 := by
  obtain ⟨f, _, hI⟩ := h
  exact cap_len hI hx
/-- The state of Pow after k rounds. -/
def RPowI (x : Nat) (w wr : World) (k b m : Nat) : Prop := Below w.heap.size w wr ∧ w.heap.size ≤ b ∧ Num wr wr.heap.size b m (x ^ k) ∧ m ≤ 640
theorem RPowI.bel {x : Nat} {w wr : World} {k b m : Nat} (h : RPowI x w wr k b m) : Below w.heap.size w wr := h.1
theorem RPowI.num {x : Nat} {w wr : World} {k b m : Nat} (h : RPowI x w wr k b m) : Num wr wr.heap.size b m (x ^ k) := h.2.2.1
theorem RPowI.len {x : Nat} {w wr : World} {k b m : Nat} (h : RPowI x w wr k b m) : m ≤ 640 := h.2.2.2
set_option maxRecDepth 100000 in
set_option maxHeartbeats 4000000 in
theorem RPow_c (ba n x ca N : Nat) (w : World) (ha : Num w w.heap.size ba n x) (hn : n ≤ 640) (hN : 1 ≤ N) (hN2 : N ≤ 20000) (hx1 : 2 ≤ x) (hx : x ^ N < Cap) :
    Calls Tryd.prog 74 #[.slice (some ⟨ba, 0, none⟩) n ca, .int .i64 (N : Int)] w (RNumE (x ^ N) w) := by
  have hV := Lib.hid (RNvalid_c ba n x ca w ha hn)
  have hc : ¬ ordZ (x : Int) ((1 : Nat) : Int) ≤ 0 := by rw [ordZ_gt (by omega)]; omega
  have HO := Lib.hid (fun W (hw : Below w.heap.size w W) => ROrder_c ba W.heap.size n 1 x 1 ca 1 (W.alloc (.cells #[.int .u32 1] 57)) (ha.up (bl_alloc hw _)) (one_num W 57) (by omega) (by omega))
  have H0 := Lib.hid (fun W (hw : Below w.heap.size w W) => (⟨bl_alloc hw _, hw.size, by rw [Nat.pow_zero]; exact one_num W 57, by omega⟩ : RPowI x w (W.alloc (.cells #[.int .u32 1] 57)) 0 W.heap.size 1))
  have HM := Lib.hid (fun W k b m c (h : RPowI x w W k b m) => RProduct_c b ba m n (x ^ k) x c ca W h.num (ha.up h.bel) h.len hn)
  have HX := Lib.hid (fun k (hk : k ≤ N) => (Nat.lt_of_le_of_lt (Nat.pow_le_pow_right (by omega) hk) hx : x ^ k < Cap))
  generalize ordZ (x : Int) ((1 : Nat) : Int) = o at *
  have hN0 : ((N : Int) == 0) = false := by simp; omega
  clear ha hx hx1
  go_enter Tryd.func74, Tryd.ntmps74
  go_wp2_with (first | (go_at_call 93; ((with_reducible refine (hV.out).mono ?_); rintro e w' ⟨rfl, rfl⟩)) | (go_at_call 72; ((with_reducible refine (HO.out _ (by (repeat (first | (with_reducible exact bl_refl _) | (with_reducible refine bl_drew ?_) | (with_reducible refine bl_alloc ?_ _) | (with_reducible refine bl_set' ?_ ?_; · (first | omega | (simp; done) | (simp; omega))) | (with_reducible refine bl_last (by assumption) ?_) | (with_reducible refine bl_drewN ?_ _))))).mono ?_); rintro e w' ⟨rfl, hb⟩; obtain ⟨hz, hc, hf⟩ := bcl hb (by first | (simp; rfl) | rfl))))
  have HS := Lib.hid (H0.out w' (by (repeat (first | (with_reducible exact bl_refl _) | (with_reducible refine bl_drew ?_) | (with_reducible refine bl_alloc ?_ _) | (with_reducible refine bl_set' ?_ ?_; · (first | omega | (simp; done) | (simp; omega))) | (with_reducible refine bl_last (by assumption) ?_) | (with_reducible refine bl_drewN ?_ _)))))
  clear H0 HO
  go_loopw [6, 7] (fun c i wr => ∃ (k b m cc : Nat), k ≤ N ∧ i = .int .i64 (k : Int) ∧ c = .slice (some ⟨b, 0, none⟩) m cc ∧ m ≤ cc ∧ cc ≤ 1280 ∧ Hid (RPowI x w wr k b m)) (fun _ i _ => N - (intOf i).toNat)
  case atStart => exact ⟨0, _, _, _, Nat.zero_le _, rfl, rfl, Nat.le_refl _, by omega, HS⟩
  case round =>
    clear HS
    obtain ⟨k, b, m, cc, hk, rfl, rfl, hcc, hcc2, HI⟩ := hrel
    have hmm := HI.out.len
    by_cases hlt : k < N
    · have e8 : IntKind.i64.wrap ((k : Int) + 1) = ((k + 1 : Nat) : Int) := by rw [IntKind.wrap_i64]; omega
      go_wp2_with (go_at_call 95; ((with_reducible refine (HM.out _ k b m cc HI.out).mono ?_); rintro e w2 ⟨hb2, b2, m2, c2, hk2, hc2, rfl, hN2, _, hc3⟩; have h6 := num_len hN2 (HX.out (k + 1) (by omega)); obtain ⟨hz2, hcc2, hff2⟩ := bcl hb2 (by first | (simp; rfl) | rfl)))
      go_roundw
      case rel => exact ⟨k + 1, b2, m2, c2, by omega, by go_num, rfl, hc2, hc3, Lib.hid ⟨bl_trans HI.out.bel hb2, by have := HI.out.bel.size; omega, hN2, h6⟩⟩
      case measure => simp [intOf]; omega
    · obtain rfl : k = N := by omega
      go_wp2
      go_ret2
      exact ⟨HI.out.bel, b, m, cc, HI.out.2.1, rfl, HI.out.num, hmm, hcc⟩
end Go.Proofs.YtgbiiaaeabflnaaDoor
