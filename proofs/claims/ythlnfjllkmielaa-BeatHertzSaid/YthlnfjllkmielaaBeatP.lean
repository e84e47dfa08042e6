/- Beat: the product of powers. -/
import Derived.Test.YthlnfjllkmielaaNatE
import Derived.Deep.RegionHeld3
namespace Go.Proofs.Ythlnfjllkmielaa
open Go.RowKit

def pwF (b : Nat) (e : Int) : Nat := if 0 < e then b ^ e.toNat else 1
def prodF (fb : Nat → Nat) (fe : Nat → Int) : Nat → Nat
  | 0 => 1
  | i + 1 => prodF fb fe i * pwF (fb i) (fe i)
set_option maxRecDepth 100000 in
set_option maxHeartbeats 4000000 in
theorem bproduct_c (bl k c : Nat) (fb : Nat → Nat) (fe : Nat → Int) (w : World) (hbl : 0 < k → bl < w.heap.size) (hc : ∀ i, i < k → w.cell? ⟨bl, i * 2, none⟩ = some (.int .i64 (fb i)) ∧ w.cell? ⟨bl, i * 2 + 1, none⟩ = some (.int .i64 (fe i)))
    (hk : k ≤ 100) (hfb : ∀ i, i < k → fb i ≤ 1000000000000000000) (hfe : ∀ i, i < k → fe i ≤ 20000) (hp : ∀ i, i < k → pwF (fb i) (fe i) < Cap) (hq : ∀ i, i ≤ k → prodF fb fe i < Cap) :
    Calls Try.prog 50 #[.slice (some ⟨bl, 0, none⟩) k c] w (NumP (prodF fb fe k) w) := by
  have HC := Lib.hid hc
  have HB := Lib.hid hbl
  have HFB := Lib.hid hfb
  have HFE := Lib.hid hfe
  have HP := Lib.hid hp
  have HQ := Lib.hid hq
  have hM1 : ∀ w, Calls Try.prog 71 #[.int .u64 1] w (NumP 1 w) := fun w => Nmake_c 1 w (by omega)
  have HM := Lib.hid hM1
  clear hc hbl hfb hfe hp hq hM1
  go_enter Try.func50, Try.ntmps50
  go_wp2_with (go_at_call 71; ((with_reducible refine (HM.out _).mono ?_); rintro e w1 ⟨hb1, b1, n1, hk1, rfl, hN1, h61⟩))
  go_loopw [3, 11] (fun o i wr => ∃ (j b m : Nat), j ≤ k ∧ i = .int .i64 (j : Int) ∧ o = .slice (some ⟨b, 0, none⟩) m m ∧ Below w.heap.size w wr ∧ w.heap.size ≤ b ∧ Hid (Num wr wr.heap.size b m (prodF fb fe j)) ∧ m ≤ 640) (fun _ i _ => k - (intOf i).toNat)
  case atStart => exact ⟨0, b1, n1, Nat.zero_le _, rfl, rfl, hb1, hk1, Lib.hid hN1, h61⟩
  case round =>
    clear hb1 hN1 hk1 h61
    obtain ⟨j, b, m, hj, rfl, rfl, hbw, hwb, HN, hm⟩ := hrel
    by_cases hlt : j < k
    · obtain ⟨c1, c2⟩ := HC.out j hlt
      have c1 := (hbw.cell (p := ⟨bl, j * 2, none⟩) (HB.out (by omega))).trans c1
      have c2 := (hbw.cell (p := ⟨bl, j * 2 + 1, none⟩) (HB.out (by omega))).trans c2
      have q1 := HFB.out j hlt
      have q2 := HFE.out j hlt
      have hpj := HP.out j hlt
      have hqj := HQ.out (j + 1) hlt
      have hqe : prodF fb fe (j + 1) = prodF fb fe j * pwF (fb j) (fe j) := rfl
      rw [hqe] at hqj
      by_cases h0 : 0 < fe j
      · have hpw : pwF (fb j) (fe j) = fb j ^ (fe j).toNat := by rw [pwF, if_pos h0]
        rw [hpw] at hpj hqj
        obtain ⟨E, hE⟩ : ∃ E : Nat, fe j = (E : Int) := ⟨(fe j).toNat, by omega⟩
        have hEt : (fe j).toNat = E := by omega
        rw [hE] at c2 h0 q2
        rw [hEt] at hpj hqj hpw
        have HS : Hid (prodF fb fe (j + 1) = prodF fb fe j * fb j ^ E) := Lib.hid (by rw [hqe, hpw])
        have hPF := HN.out
        generalize prodF fb fe j = PP at *
        clear hqe hpw hE hEt HP HQ HFB HFE HN
        have HPJ := Lib.hid hpj
        have HQJ := Lib.hid hqj
        have HN := Lib.hid hPF
        clear hpj hqj hPF
        generalize fb j = B at *
        have hw1 : IntKind.u64.wrap (B : Int) = B := by rw [IntKind.wrap_u64]; omega
        have HMk := Lib.hid (fun w => Nmake_c B w (by omega))
        go_wp2
        go_region_held3 (fun w' => w'.cell? ⟨wr.heap.size, 0, none⟩ = some (.int .i64 (B : Int)) ∧ w'.cell? ⟨wr.heap.size, 1, none⟩ = some (.int .i64 (E : Int)))
          (first | go_keep | (refine ⟨?_, ?_⟩ <;> (go_simp; done)))
          ((first | (go_at_call 71; ((with_reducible refine (HMk.out _).mono ?_); rintro e w2 ⟨hb2, b2, n2, hk2, rfl, hN2, h62⟩; obtain ⟨hz2, hc2, hf2⟩ := bcl hb2 (by first | (simp; rfl) | rfl))) | (go_at_call 72; ((with_reducible refine (Npow_c _ _ _ _ _ _ hN2 h62 (by omega) HPJ.out).mono ?_); rintro e w3 ⟨hb3, b3, n3, hk3, rfl, hN3, h63⟩; obtain ⟨hz3, hc3, hf3⟩ := bcl hb3 (by first | (simp; rfl) | rfl)))))
        go_wp2_with (go_at_call 52; ((with_reducible refine (Nmul_c _ _ _ _ _ _ _ _ _ (HN.out.up (by (repeat (first | (with_reducible exact bl_refl _) | (with_reducible refine bl_drew ?_) | (with_reducible refine bl_alloc ?_ _) | (with_reducible refine bl_set' ?_ ?_; · (first | omega | (simp; done) | (simp; omega))) | (with_reducible refine bl_last (by assumption) ?_) | (with_reducible refine bl_drewN ?_ _))))) hN3 hm h63 HQJ.out).mono ?_); rintro e w4 ⟨hb4, b4, n4, hk4, rfl, hN4, h64⟩; obtain ⟨hz4, hc4, hf4⟩ := bcl hb4 (by first | (simp; rfl) | rfl)))
        go_roundw
        case rel =>
          have hbb : Below wr.heap.size wr w3 := by (repeat (first | (with_reducible exact bl_refl _) | (with_reducible refine bl_drew ?_) | (with_reducible refine bl_alloc ?_ _) | (with_reducible refine bl_set' ?_ ?_; · (first | omega | (simp; done) | (simp; omega))) | (with_reducible refine bl_last (by assumption) ?_) | (with_reducible refine bl_drewN ?_ _)))
          exact ⟨j + 1, b4, n4, by omega, by go_num, rfl, by (repeat (first | (with_reducible exact bl_refl _) | (with_reducible refine bl_drew ?_) | (with_reducible refine bl_alloc ?_ _) | (with_reducible refine bl_set' ?_ ?_; · (first | omega | (simp; done) | (simp; omega))) | (with_reducible refine bl_last (by assumption) ?_) | (with_reducible refine bl_drewN ?_ _))), by have := hbw.size; have := hbb.size; omega, Lib.hid (by rw [HS.out]; exact hN4), h64⟩
        case measure => simp [intOf]; omega
      · have hpw : pwF (fb j) (fe j) = 1 := by rw [pwF, if_neg h0]
        have HS : Hid (prodF fb fe (j + 1) = prodF fb fe j) := Lib.hid (by rw [hqe, hpw, Nat.mul_one])
        clear hqe hpw hpj hqj
        go_wp2
        go_roundw
        case rel => exact ⟨j + 1, b, m, by omega, by go_num, rfl, by (repeat (first | (with_reducible exact bl_refl _) | (with_reducible refine bl_drew ?_) | (with_reducible refine bl_alloc ?_ _) | (with_reducible refine bl_set' ?_ ?_; · (first | omega | (simp; done) | (simp; omega))) | (with_reducible refine bl_last (by assumption) ?_) | (with_reducible refine bl_drewN ?_ _))), hwb, Lib.hid (by rw [HS.out]; exact HN.out.up (bl_alloc (bl_refl _) _)), hm⟩
        case measure => simp [intOf]; omega
    · obtain rfl : j = k := by omega
      go_wp2
      go_ret
      exact ⟨hbw, b, m, hwb, rfl, HN.out, hm⟩
end Go.Proofs.Ythlnfjllkmielaa
