/- Beat: the reference's power and product. -/
import Derived.Test.YthlnfjllkmielaaNatK
import Derived.Test.YthlnfjllkmielaaBeatAA
namespace Go.Proofs.Ythlnfjllkmielaa
open Go.RowKit

/-- A number that the reference returns. -/
def RNumS (x : Nat) (w : World) (e : Ending) (w' : World) : Prop := Below w.heap.size w w' ∧ ∃ b n c, w.heap.size ≤ b ∧ e = .returned (.slice (some ⟨b, 0, none⟩) n c) ∧ Num w' w'.heap.size b n x ∧ n ≤ 640 ∧ n ≤ c
theorem two_len {w : World} {B b n x : Nat} (h : Num w B b n x) (hx : x < 18446744073709551616) : n ≤ 640 := by
  obtain ⟨f, _, hI⟩ := h
  have := isN_len (k := 2) hI (by omega)
  omega
set_option maxRecDepth 100000 in
set_option maxHeartbeats 2000000 in
theorem Rpower_c (z N : Nat) (w : World) (hz1 : 1 ≤ z) (hz2 : z ≤ 9223372036854775807) (hN : 1 ≤ N) (hN2 : N ≤ 20000) (hx : z ^ N < Cap) :
    Calls Try.prog 59 #[.int .i64 (z : Int), .int .i64 (N : Int)] w (RNumS (z ^ N) w) := by
  have hzz : z < 18446744073709551616 := by omega
  have HM := Lib.hid (fun w => RNmake_c z w hzz)
  have HP := Lib.hid (fun b n c W (h : Num W W.heap.size b n z) => RPow_pos b n z c N W h (two_len h hzz) hN hN2 hz1 hx)
  have e0 : IntKind.u64.wrap (z : Int) = (z : Int) := by rw [IntKind.wrap_u64]; omega
  clear hx hzz
  go_enter Try.func59, Try.ntmps59
  go_wp2_with (first | (go_at_call 85; ((with_reducible refine (HM.out _).mono ?_); rintro e w1 ⟨hb1, b1, n1, c1, hk1, hc1, rfl, hN1, _, _⟩)) | (go_at_call 84; ((with_reducible refine (HP.out _ _ _ _ hN1).mono ?_); rintro e w2 ⟨hb2, b2, n2, c2, hk2, rfl, hN2', h6, h7⟩)))
  go_ret
  exact ⟨bl_trans hb1 hb2, b2, n2, c2, by have := hb1.size; omega, rfl, hN2', h6, h7⟩
end Go.Proofs.Ythlnfjllkmielaa
