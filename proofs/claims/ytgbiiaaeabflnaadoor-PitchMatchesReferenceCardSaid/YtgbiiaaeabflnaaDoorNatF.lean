/- The reference's natural numbers: Trim, Valid, Make, Order, Product, Mul. -/
import Derived.Test.YtgbiiaaeabflnaaDoorNatD
import Derived.WalkSmall
namespace Go.Proofs.YtgbiiaaeabflnaaDoor
open Go.RowKit

theorem u64_low (E : Int) (h0 : 0 ≤ E) (h1 : E ≤ 18446744073709551615) : bits BinOp.and IntKind.u64 E 4294967295 = E % 4294967296 := by
  have h := bits_and_u64_nat E.toNat 4294967295 (by omega) (by omega)
  have e : E.toNat &&& 4294967295 = E.toNat % 4294967296 := Nat.and_two_pow_sub_one_eq_mod E.toNat 32
  rw [e, Int.toNat_of_nonneg h0] at h
  have h2 : ((E.toNat % 4294967296 : Nat) : Int) = E % 4294967296 := by omega
  exact h.trans h2
/-- What Trim leaves. -/
def TrimP (f : Nat → Nat) (N b c : Nat) (w : World) (e : Ending) (w' : World) : Prop := ∃ n, n ≤ N ∧ e = .returned (.slice (some ⟨b, 0, none⟩) n c) ∧ w = w' ∧ IsN f n (nvF f N)
set_option maxRecDepth 100000 in
set_option maxHeartbeats 1000000 in
theorem RTrim_c (f : Nat → Nat) (N c b : Nat) (w : World) (h : NatAt w w.heap.size b f N) (hc : N ≤ c) (hN : N ≤ 100000) (hl : ∀ i, i < N → f i < 4294967296) :
    Calls Tryd.prog 94 #[.slice (some ⟨b, 0, none⟩) N c] w (TrimP f N b c w) := by
  obtain ⟨hb, hcell⟩ := h
  have HC := Lib.hid hcell
  have HL := Lib.hid (fun n hn hv ht => isN_mk (f := f) (n := n) hn hl hv ht)
  clear hcell hl
  go_enter Tryd.func94, Tryd.ntmps94
  go_wp2
  go_loop [3] (fun v => ∃ n : Nat, n ≤ N ∧ v = .int .i64 n ∧ Hid (nvF f n = nvF f N)) (fun v => (intOf v).toNat)
  case atStart => exact ⟨N, Nat.le_refl _, rfl, rfl⟩
  case round =>
    obtain ⟨n, hn, rfl, HV⟩ := hrel
    have hdone : (n = 0 ∨ ∃ k, n = k + 1 ∧ f k ≠ 0) ∨ (∃ k, n = k + 1 ∧ f k = 0) := by
      rcases n with _ | k
      · exact Or.inl (Or.inl rfl)
      · by_cases hk : f k = 0
        · exact Or.inr ⟨k, rfl, hk⟩
        · exact Or.inl (Or.inr ⟨k, rfl, hk⟩)
    rcases hdone with hd | ⟨k, rfl, hk⟩
    · have hI : IsN f n (nvF f N) := HL.out n hn HV.out (fun k hk => by
        rcases hd with rfl | ⟨j, rfl, hj⟩
        · omega
        · obtain rfl : j = k := by omega
          exact hj)
      have HI := Lib.hid hI
      clear hI
      rcases hd with rfl | ⟨k, rfl, hk⟩
      · go_wp2
        go_ret
        exact ⟨0, Nat.zero_le _, rfl, rfl, HI.out⟩
      · have hce := HC.out k (by omega)
        have hk' : ((f k : Int) == 0) = false := by simpa using hk
        have hkn : k < N := by omega
        rw [show ((k + 1 : Nat) : Int) = (k : Int) + 1 by omega]
        go_wp2
        go_ret
        exact ⟨k + 1, hn, rfl, rfl, HI.out⟩
    · have hce := HC.out k (by omega)
      rw [hk] at hce
      have hv' : nvF f k = nvF f N := by
        have := HV.out
        rw [show nvF f (k + 1) = nvF f k + f k * 4294967296 ^ k from rfl, hk, Nat.zero_mul, Nat.add_zero] at this
        exact this
      have HV2 := Lib.hid hv'
      have hkn : k < N := by omega
      clear hv'
      rw [show ((k + 1 : Nat) : Int) = (k : Int) + 1 by omega]
      go_wp2
      go_round
      case rel => exact ⟨k, by omega, by go_num, HV2⟩
      case measure => simp [intOf]
set_option maxRecDepth 100000 in
theorem RNvalid_c (ba n x c : Nat) (w : World) (ha : Num w w.heap.size ba n x) (hn : n ≤ 640) : Calls Tryd.prog 93 #[.slice (some ⟨ba, 0, none⟩) n c] w (RetS (.bool true) w) := by
  obtain ⟨fa, ⟨ha0, hac⟩, hA⟩ := ha
  rcases n with _ | k
  · go_enter Tryd.func93, Tryd.ntmps93
    go_wp2
    go_ret
    exact ⟨rfl, rfl⟩
  · have h1 := hac k (by omega)
    have h2 := hA.top k rfl
    have h3 : ((fa k : Int) != 0) = true := by simpa using h2
    clear hac hA
    go_enter Tryd.func93, Tryd.ntmps93
    go_wp2
    go_ret
    exact ⟨rfl, rfl⟩
theorem RNboth_c (ba n x c bb m y d : Nat) (w : World) (ha : Num w w.heap.size ba n x) (hn : n ≤ 640) (hb : Num w w.heap.size bb m y) (hm : m ≤ 640) : Calls Tryd.prog 71 #[.slice (some ⟨ba, 0, none⟩) n c, .slice (some ⟨bb, 0, none⟩) m d] w (RetS (.bool true) w) := by
  have H1 := Lib.hid (RNvalid_c ba n x c w ha hn)
  have H2 := Lib.hid (RNvalid_c bb m y d w hb hm)
  clear ha hb
  go_enter Tryd.func71, Tryd.ntmps71
  go_wp2_with (first | (go_at_call 93; ((with_reducible refine (H1.out).mono ?_); rintro e w' ⟨rfl, rfl⟩)) | (go_at_call 93; ((with_reducible refine (H2.out).mono ?_); rintro e w' ⟨rfl, rfl⟩)))
  go_ret
  exact ⟨rfl, rfl⟩
/-- A number that the reference makes. -/
def RNumP (x : Nat) (w : World) (e : Ending) (w' : World) : Prop := Below w.heap.size w w' ∧ ∃ b n c, w.heap.size ≤ b ∧ n ≤ c ∧ e = .returned (.slice (some ⟨b, 0, none⟩) n c) ∧ Num w' w'.heap.size b n x ∧ n ≤ c ∧ c ≤ 1280
set_option maxHeartbeats 1000000 in
theorem RNmake_c (v : Nat) (w : World) (h : v < 18446744073709551616) : Calls Tryd.prog 73 #[.int .u64 v] w (RNumP v w) := by
  have hF := fun (W : World) (B : Blk W w.heap.size 57 #[.int .u32 ((v : Int) % 4294967296), .int .u32 ((v : Int) / 4294967296)]) =>
    RTrim_c (twoF v) 2 2 w.heap.size W (two_at v W _ _ B) (by omega) (by omega) (fun i hi => by unfold twoF; split <;> omega)
  have HF := Lib.hid hF
  have hlow := u64_low (v : Int) (by omega) (by omega)
  clear hF
  go_enter Tryd.func73, Tryd.ntmps73
  go_wp2_with (go_at_call 94; ((with_reducible refine (HF.out _ (Blk.new _ _ _)).mono ?_); rintro e w' ⟨n', hn', rfl, rfl, hI⟩))
  go_ret
  rw [twoF_val] at hI
  have hN := two_at v _ _ _ (Blk.new w 57 #[.int .u32 ((v : Int) % 4294967296), .int .u32 ((v : Int) / 4294967296)])
  exact ⟨by (repeat (first | (with_reducible exact bl_refl _) | (with_reducible refine bl_drew ?_) | (with_reducible refine bl_alloc ?_ _) | (with_reducible refine bl_set' ?_ ?_; · (first | omega | (simp; done) | (simp; omega))) | (with_reducible refine bl_last (by assumption) ?_) | (with_reducible refine bl_drewN ?_ _))), _, _, _, Nat.le_refl _, hn', rfl, ⟨twoF v, ⟨hN.1, fun i hi => hN.2 i (by omega)⟩, hI⟩, hn', by omega⟩
end Go.Proofs.YtgbiiaaeabflnaaDoor
