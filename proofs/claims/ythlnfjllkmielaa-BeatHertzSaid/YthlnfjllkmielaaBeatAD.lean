/- Beat: the reference's product, walked. -/
import Derived.Test.YthlnfjllkmielaaBeatAC
namespace Go.Proofs.Ythlnfjllkmielaa
open Go.RowKit

set_option maxRecDepth 100000 in
set_option maxHeartbeats 4000000 in
theorem Rproduct_c (s a b c d e f : Int) (w : World) (hs : s = 1 ∨ s = -1) (hp : pV a b c d e f 576 = true) : Calls Try.prog 60 #[.agg #[.int .i64 a, .int .i64 b, .int .i64 c, .int .i64 d, .int .i64 e, .int .i64 f], .int .i64 s] w (RNumS (prodF prm (sgE s a b c d e f) 6) w) := by
  have HBD := Lib.hid (fun i (hi : i < 6) => sgE_bd hs hp hi)
  have HCap := Lib.hid (sg_cap hs hp)
  have HQ : Hid (∀ i, prodF prm (sgE s a b c d e f) (i + 1) = prodF prm (sgE s a b c d e f) i * pwF (prm i) (sgE s a b c d e f i)) := Lib.hid (fun i => rfl)
  have HPB := Lib.hid (fun i (hi : i < 6) => Nat.lt_of_le_of_lt (sg_le2 hs hp i hi) (by
    have h := Nat.lt_of_le_of_lt (Nat.le_refl (2 ^ prG i)) (lt_big (k := prG i) (Nat.le_refl _) (by rcases lt6 hi with rfl | rfl | rfl | rfl | rfl | rfl <;> decide))
    exact h))
  have HG : Hid (∀ i, sgE s a b c d e f i = s * pex a b c d e f i) := Lib.hid (fun _ => rfl)
  have HQ0 : Hid (prodF prm (sgE s a b c d e f) 0 = 1) := Lib.hid rfl
  have HMk : Hid (∀ w, Calls Try.prog 85 #[.int .u64 1] w (RNumP 1 w)) := Lib.hid (fun w => RNmake_c 1 w (by omega))
  generalize sgE s a b c d e f = g at *
  clear hs hp
  go_enter Try.func60, Try.ntmps60
  go_wp2_with (go_at_call 85; ((with_reducible refine (HMk.out _).mono ?_); rintro e w1 ⟨hb, b1, n1, c1, hk1, hc1, rfl, hN1, _, _⟩; obtain ⟨hz, hc, hf⟩ := bcl hb (by first | (simp; rfl) | rfl)))
  have HB : Hid (Blk w1 w.heap.size 28 #[.int .i64 a, .int .i64 b, .int .i64 c, .int .i64 d, .int .i64 e, .int .i64 f]) := Lib.hid ((Blk.new w _ _).below hb (by simp))
  have hbel : Below w.heap.size w w1 := by (repeat (first | (with_reducible exact bl_refl _) | (with_reducible refine bl_drew ?_) | (with_reducible refine bl_alloc ?_ _) | (with_reducible refine bl_set' ?_ ?_; · (first | omega | (simp; done) | (simp; omega))) | (with_reducible refine bl_last (by assumption) ?_) | (with_reducible refine bl_drewN ?_ _)))
  have hk1' : w.heap.size ≤ b1 := by have : w.heap.size + 1 ≤ b1 := by simpa using hk1
                                     omega
  have hn1 : n1 ≤ 640 := two_len hN1 (by omega)
  go_loopw [5, 6] (fun o i wr => ∃ j q n cc : Nat, j ≤ 6 ∧ i = .int .i64 (j : Int) ∧ o = .slice (some ⟨q, 0, none⟩) n cc ∧ Below w.heap.size w wr ∧ w.heap.size ≤ q ∧ Hid (Blk wr w.heap.size 28 #[.int .i64 a, .int .i64 b, .int .i64 c, .int .i64 d, .int .i64 e, .int .i64 f]) ∧ Hid (Num wr wr.heap.size q n (prodF prm g j)) ∧ n ≤ 640 ∧ n ≤ cc) (fun _ i _ => 6 - (intOf i).toNat)
  case atStart => exact ⟨0, b1, n1, c1, by omega, rfl, rfl, hbel, hk1', HB, Lib.hid (by rw [HQ0.out]; exact hN1), hn1, hc1⟩
  case round =>
    clear HB hbel hc hf hb
    obtain ⟨j, q, n, cc, hj, rfl, rfl, hbw, hwb, HB, HN, hn, hcc⟩ := hrel
    by_cases hlt : j < 6
    · have hv := vec_at HB.out hlt
      have HP := Lib.hid (fun w => RPrime_c j hlt w)
      obtain ⟨x1, x2, x3, x4⟩ := HBD.out j hlt
      obtain ⟨pp, pq⟩ := prm_pos hlt
      have hgj := HG.out j
      have hq := HQ.out j
      have hcp := HCap.out (j + 1) (by omega)
      have hpb := HPB.out j hlt
      have z1 : w.heap.size < wr.heap.size := HB.out.lt
      have e8 : IntKind.i64.wrap ((j : Int) + 1) = ((j + 1 : Nat) : Int) := by rw [IntKind.wrap_i64]; omega
      generalize pex a b c d e f j = x at *
      generalize prm j = P at *
      generalize g j = y at *
      have e9 : IntKind.i64.wrap (s * x) = y := by rw [← hgj, IntKind.wrap_i64]; omega
      by_cases h0 : 0 < y
      · obtain ⟨E, rfl⟩ : ∃ E : Nat, y = (E : Int) := ⟨y.toNat, by omega⟩
        have hpw : pwF P (E : Int) = P ^ E := by rw [pwF_toNat, Int.toNat_natCast]
        rw [hpw] at hq hpb
        rw [hq] at hcp
        have HS := Lib.hid hq
        have HPw := Lib.hid (fun w => Rpower_c P E w (by omega) (by omega) (by omega) (by omega) hpb)
        have HCP := Lib.hid hcp
        clear hq hcp hpb hpw hgj
        go_wp2
        go_region_held3 (fun w' => w'.cell? ⟨w.heap.size, j, none⟩ = some (.int .i64 x))
          (first | go_keep | (go_simp; done))
          ((first | (go_at_call 45; ((with_reducible refine (HP.out _).mono ?_); rintro e w' ⟨rfl, rfl⟩)) | (go_at_call 59; ((with_reducible refine (HPw.out _).mono ?_); rintro e w3 ⟨hb3, b3, n3, c3, hk3, rfl, hN3, h63, h73⟩; obtain ⟨hz3, hc3, hf3⟩ := bcl hb3 (by first | (simp; rfl) | rfl))) | (go_at_call 58; ((with_reducible refine (RNmul_c _ _ _ _ _ _ _ _ _ (HN.out.up (by (repeat (first | (with_reducible exact bl_refl _) | (with_reducible refine bl_drew ?_) | (with_reducible refine bl_alloc ?_ _) | (with_reducible refine bl_set' ?_ ?_; · (first | omega | (simp; done) | (simp; omega))) | (with_reducible refine bl_last (by assumption) ?_) | (with_reducible refine bl_drewN ?_ _))))) hN3 hn h63 HCP.out).mono ?_); rintro e w4 ⟨hb4, b4, n4, c4, hk4, rfl, hN4, h64, h74⟩; obtain ⟨hz4, hc4, hf4⟩ := bcl hb4 (by first | (simp; rfl) | rfl)))))
        go_wp2
        go_roundw
        case rel =>
          have hbb : Below wr.heap.size wr w4 := by (repeat (first | (with_reducible exact bl_refl _) | (with_reducible refine bl_drew ?_) | (with_reducible refine bl_alloc ?_ _) | (with_reducible refine bl_set' ?_ ?_; · (first | omega | (simp; done) | (simp; omega))) | (with_reducible refine bl_last (by assumption) ?_) | (with_reducible refine bl_drewN ?_ _)))
          exact ⟨j + 1, b4, n4, c4, by omega, by go_num, rfl, bl_trans hbw hbb, by have := hbw.size; omega, Lib.hid (HB.out.below hbb z1), Lib.hid (by rw [HS.out]; exact hN4), h64, h74⟩
        case measure => simp [intOf]; omega
      · have hpw : pwF P y = 1 := by rw [pwF, if_neg h0]
        rw [hpw, Nat.mul_one] at hq
        have HS := Lib.hid hq
        clear hq hpw hcp hpb hgj
        go_wp2
        go_roundw
        case rel => exact ⟨j + 1, q, n, cc, by omega, by go_num, rfl, hbw, hwb, HB, Lib.hid (by rw [HS.out]; exact HN.out), hn, hcc⟩
        case measure => simp [intOf]; omega
    · obtain rfl : j = 6 := by omega
      go_wp2
      go_ret
      exact ⟨hbw, q, n, cc, hwb, rfl, HN.out, hn, hcc⟩
end Go.Proofs.Ythlnfjllkmielaa
