/- The reference's natural numbers: Bounded, Mul. -/
import Derived.Test.YtgbiiaaeabflnaaDoorNatH
namespace Go.Proofs.YtgbiiaaeabflnaaDoor
open Go.RowKit

/-- A number that the reference returns beside OK. -/
def RNumE (x : Nat) (w : World) (e : Ending) (w' : World) : Prop := Below w.heap.size w w' ∧ ∃ b n c, w.heap.size ≤ b ∧ e = .returned (.tuple #[.slice (some ⟨b, 0, none⟩) n c, .int .i64 0]) ∧ Num w' w'.heap.size b n x ∧ n ≤ 640 ∧ n ≤ c
/-- What Bounded leaves. -/
def BndP (x b c : Nat) (w : World) (e : Ending) (w' : World) : Prop := ∃ n, e = .returned (.tuple #[.slice (some ⟨b, 0, none⟩) n c, .int .i64 0]) ∧ w = w' ∧ Num w w.heap.size b n x ∧ n ≤ 640 ∧ n ≤ c
set_option maxRecDepth 100000 in
set_option maxHeartbeats 1000000 in
theorem RBounded_c (b n c x : Nat) (w : World) (h : Num w w.heap.size b n x) (hc : n ≤ c) (hn : n ≤ 1280) (hx : x < Cap) : Calls Tryd.prog 96 #[.slice (some ⟨b, 0, none⟩) n c] w (BndP x b c w) := by
  obtain ⟨f, hat, hI⟩ := h
  have HF := Lib.hid (RTrim_c f n c b w hat hc (by omega) hI.lt)
  have HL := Lib.hid (fun k (hk : IsN f k x) => cap_len hk hx)
  have HA := Lib.hid hat
  have HE := Lib.hid hI.val
  clear hat hI hx
  go_enter Tryd.func96, Tryd.ntmps96
  go_wp2_with (go_at_call 94; ((with_reducible refine (HF.out).mono ?_); rintro e w' ⟨n', hn', rfl, rfl, hI⟩; have hk := HL.out n' (HE.out ▸ hI); have HI := Lib.hid hI; clear hI))
  go_ret2
  exact ⟨n', rfl, rfl, ⟨f, ⟨HA.out.1, fun i hi => HA.out.2 i (by omega)⟩, HE.out ▸ HI.out⟩, hk, by omega⟩
set_option maxRecDepth 100000 in
set_option maxHeartbeats 1000000 in
theorem RNmul_c (ba bb n m x y ca cb : Nat) (w : World) (ha : Num w w.heap.size ba n x) (hb : Num w w.heap.size bb m y) (hn : n ≤ 640) (hm : m ≤ 640) (hxy : x * y < Cap) :
    Calls Tryd.prog 75 #[.slice (some ⟨ba, 0, none⟩) n ca, .slice (some ⟨bb, 0, none⟩) m cb] w (RNumE (x * y) w) := by
  have HB := Lib.hid (RNboth_c ba n x ca bb m y cb w ha hn hb hm)
  have HP := Lib.hid (RProduct_c ba bb n m x y ca cb w ha hb hn hm)
  have HD := Lib.hid (fun (b k c : Nat) (W : World) (h : Num W W.heap.size b k (x * y)) (hc : k ≤ c) (hk : k ≤ 1280) => RBounded_c b k c (x * y) W h hc hk hxy)
  clear ha hb hxy
  go_enter Tryd.func75, Tryd.ntmps75
  go_wp2_with (first | (go_at_call 71; ((with_reducible refine (HB.out).mono ?_); rintro e w' ⟨rfl, rfl⟩)) | (go_at_call 95; ((with_reducible refine (HP.out).mono ?_); rintro e w' ⟨hb', b1, k1, c1, hk1, hc1, rfl, hN, _, hc2⟩)) | (go_at_call 96; ((with_reducible refine (HD.out _ _ _ _ hN hc1 (by omega)).mono ?_); rintro e w'' ⟨n', rfl, rfl, hN', h6, h7⟩)))
  go_ret2
  exact ⟨hb', b1, n', c1, hk1, rfl, hN', h6, h7⟩
end Go.Proofs.YtgbiiaaeabflnaaDoor
