/- Natural: power, Pow. -/
import Derived.Test.YtehifkdfbiebfaaDoorK08
import Derived.Test.YtehifkdfbiebfaaDoorK09
import Derived.Lib.RabinKarpLaws
namespace Go.Proofs.YtehifkdfbiebfaaDoor
open Go.RowKit

theorem bitLenAux_div : ∀ (f x : Nat), x < 2 ^ f → x / 2 ^ Lib.bitLenAux f x = 0 ∧ Lib.bitLenAux f x ≤ f
  | 0, x, h => by
    have : x = 0 := by simpa using h
    subst this
    exact ⟨rfl, Nat.le_refl _⟩
  | f + 1, x, h => by
    unfold Lib.bitLenAux
    by_cases h0 : x = 0
    · subst h0
      simp
    · rw [if_neg h0]
      obtain ⟨h1, h2⟩ := bitLenAux_div f (x / 2) (by rw [Nat.pow_succ] at h; omega)
      refine ⟨?_, by omega⟩
      rw [Nat.add_comm, Nat.pow_succ, Nat.mul_comm, ← Nat.div_div_eq_div_mul]
      exact h1
theorem bitLen_div {x : Nat} (h : x < 18446744073709551616) : x / 2 ^ Lib.bitLen x = 0 ∧ Lib.bitLen x ≤ 64 := bitLenAux_div 64 x h
theorem pow_bd {x a N B : Nat} (h : a ≤ N) (hB : 1 < B) (hx : x ^ N < B) : x ^ a < B := by
  rcases Nat.eq_zero_or_pos x with rfl | hp
  · rcases Nat.eq_zero_or_pos a with rfl | ha
    · simpa using hB
    · rw [Nat.zero_pow ha]; omega
  · exact Nat.lt_of_le_of_lt (Nat.pow_le_pow_right hp h) hx
theorem half_step (N k : Nat) : N / 2 ^ k = 2 * (N / 2 ^ (k + 1)) + N / 2 ^ k % 2 := by
  rw [Nat.pow_succ, ← Nat.div_div_eq_div_mul]
  omega
set_option maxHeartbeats 1000000 in
theorem Len_c (x : Nat) (w : World) (h : x < 18446744073709551616) : Calls Tryd.prog 127 #[.int .u64 x] w (RetS (.int .i64 (Lib.bitLen x)) w) := by
  have HL := Lib.hid (fun w => Tryd.bits_Len64 (x : Int) w (by omega) (by omega))
  clear h
  go_enter Tryd.func127, Tryd.ntmps127
  go_wp2_with (first | (go_at_call 147; ((with_reducible refine (HL.out _).mono ?_); rintro e w' ⟨rfl, rfl⟩)))
  go_ret
  exact ⟨rfl, rfl⟩
theorem one_num (w : World) (t : TypeId) : Num (w.alloc (.cells #[.int .u32 1] t)) (w.alloc (.cells #[.int .u32 1] t)).heap.size w.heap.size 1 1 := by
  have B := Blk.new w t #[.int .u32 1]
  refine ⟨fun _ => 1, ⟨B.lt, fun i hi => ?_⟩, ⟨fun _ _ => by omega, by simp [nvF], fun _ _ => by omega⟩⟩
  obtain rfl : i = 0 := by omega
  exact B.cell 0
/-- What the rounds of power keep. -/
def PowI (x N : Nat) (w wr : World) (k b m : Nat) : Prop := Below w.heap.size w wr ∧ w.heap.size ≤ b ∧ Num wr wr.heap.size b m (x ^ (N / 2 ^ k)) ∧ m ≤ 640
theorem PowI.bel {x N k b m : Nat} {w a : World} (h : PowI x N w a k b m) : Below w.heap.size w a := h.1
theorem PowI.up {x N k b m : Nat} {w a c : World} (h : PowI x N w a k b m) (hb : Below a.heap.size a c) : PowI x N w c k b m := ⟨bl_trans h.1 hb, h.2.1, h.2.2.1.up hb, h.2.2.2⟩
theorem bit_of (M k : Nat) (h : M ≤ 20000) : bits .and .i64 ((M : Int) / 2 ^ k) 1 = ((M / 2 ^ k % 2 : Nat) : Int) := by
  have h1 := Nat.div_le_self M (2 ^ k)
  have := Go.Proofs.and_one (M / 2 ^ k) (by omega)
  rwa [Int.natCast_ediv, Int.natCast_pow] at this
theorem PowI.step {x N k b m b2 m2 : Nat} {w a c : World} (h : PowI x N w a (k + 1) b m) (hb : Below a.heap.size a c) (hk : a.heap.size ≤ b2) (hN : Num c c.heap.size b2 m2 (x ^ (N / 2 ^ (k + 1)) * x ^ (N / 2 ^ (k + 1)))) (h6 : m2 ≤ 640) (h0 : N / 2 ^ k % 2 = 0) : PowI x N w c k b2 m2 :=
  ⟨bl_trans h.1 hb, Nat.le_trans h.1.size hk, by
    rw [← Nat.pow_add] at hN
    have h1 := half_step N k
    rw [show N / 2 ^ k = N / 2 ^ (k + 1) + N / 2 ^ (k + 1) by omega]
    exact hN, h6⟩
theorem PowI.odd {x N k b m b3 m3 : Nat} {w a c e : World} (h : PowI x N w a (k + 1) b m) (hb : Below a.heap.size a c) (hc : Below c.heap.size c e) (hk3 : c.heap.size ≤ b3)
    (hN : Num e e.heap.size b3 m3 (x ^ (N / 2 ^ (k + 1)) * x ^ (N / 2 ^ (k + 1)) * x)) (h6 : m3 ≤ 640) (h0 : N / 2 ^ k % 2 = 1) : PowI x N w e k b3 m3 :=
  ⟨bl_trans (bl_trans h.1 hb) hc, Nat.le_trans (Nat.le_trans h.1.size hb.size) hk3, by
    rw [← Nat.pow_add, ← Nat.pow_succ] at hN
    have h1 := half_step N k
    rw [show N / 2 ^ k = N / 2 ^ (k + 1) + N / 2 ^ (k + 1) + 1 by omega]
    exact hN, h6⟩
set_option maxRecDepth 100000 in
set_option maxHeartbeats 4000000 in
theorem power_c (ba n x ca N : Nat) (w : World) (ha : Num w w.heap.size ba n x) (hn : n ≤ 640) (hN : N ≤ 20000) (hx : x ^ N < Cap) :
    Calls Tryd.prog 134 #[.slice (some ⟨ba, 0, none⟩) n ca, .int .i64 N] w (NumP (x ^ N) w) := by
  have hB : 1 < Cap := by
    obtain ⟨c, hc, e⟩ := cap_is
    rw [e]
    exact Nat.one_lt_pow (by omega) (by omega)
  obtain ⟨M, hM1, hM2, hM3⟩ : ∃ M : Nat, x ^ M = x ^ N ∧ M ≤ 20000 ∧ ((x ≤ 1 ∧ min (N : Int) 1 = (M : Int)) ∨ (2 ≤ x ∧ M = N)) := by
    by_cases h : x ≤ 1
    · by_cases h0 : N = 0
      · exact ⟨0, by rw [h0], by omega, Or.inl ⟨h, by omega⟩⟩
      · refine ⟨1, ?_, by omega, Or.inl ⟨h, by omega⟩⟩
        have : x = 0 ∨ x = 1 := by omega
        rcases this with rfl | rfl
        · rw [Nat.zero_pow (by omega), Nat.zero_pow (by omega)]
        · simp
    · exact ⟨N, rfl, hN, Or.inr ⟨by omega, rfl⟩⟩
  have hxM : x ^ M < Cap := by rw [hM1]; exact hx
  rw [← hM1]
  obtain ⟨hL0, hL1⟩ := bitLen_div (x := M) (by omega)
  have HLen := Lib.hid (fun w => Len_c M w (by omega))
  generalize Lib.bitLen M = L at *
  have HC := Lib.hid (fun W (hw : Below w.heap.size w W) => compare_c ba W.heap.size n 1 x 1 ca 1 (W.alloc (.cells #[.int .u32 1] 164)) (ha.up (bl_alloc hw _)) (one_num W 164) hn (by omega))
  have H0 := Lib.hid (fun W (hw : Below w.heap.size w W) => (⟨bl_alloc hw _, hw.size, by rw [hL0]; exact one_num W 164, by omega⟩ : PowI x M w (W.alloc (.cells #[.int .u32 1] 164)) L W.heap.size 1))
  have HSq := Lib.hid (fun W k b m (h : PowI x M w W (k + 1) b m) => product_c b b m m _ _ m m W h.2.2.1 h.2.2.1 h.2.2.2 h.2.2.2 (by
    rw [← Nat.pow_add]
    exact pow_bd (N := M) (by
      have h1 := half_step M k
      have h2 := Nat.div_le_self M (2 ^ k)
      omega) hB hxM))
  have HMu := Lib.hid (fun W k b m c (hw : Below w.heap.size w W) (h : Num W W.heap.size b m (x ^ (M / 2 ^ (k + 1)) * x ^ (M / 2 ^ (k + 1)))) (hm : m ≤ 640) (h1 : M / 2 ^ k % 2 = 1) => product_c b ba m n _ _ m c W h (ha.up hw) hm hn (by
    rw [← Nat.pow_add, ← Nat.pow_succ]
    exact pow_bd (N := M) (by
      have h1 := half_step M k
      have h2 := Nat.div_le_self M (2 ^ k)
      omega) hB hxM))
  clear ha hL0 hx hxM hM1 hB
  have hw1 : IntKind.u64.wrap (M : Int) = M := by rw [IntKind.wrap_u64]; omega
  rcases hM3 with ⟨h1, h2⟩ | ⟨h1, rfl⟩
  · have hc : ordZ (x : Int) ((1 : Nat) : Int) ≤ 0 := by unfold ordZ; split <;> (try split) <;> omega
    generalize ordZ (x : Int) ((1 : Nat) : Int) = o at *
    go_enter Tryd.func134, Tryd.ntmps134
    go_wp2_with (first | (go_at_call 87; ((with_reducible refine (HC.out _ (by (repeat (first | (with_reducible exact bl_refl _) | (with_reducible refine bl_drew ?_) | (with_reducible refine bl_alloc ?_ _) | (with_reducible refine bl_set' ?_ ?_; · (first | omega | (simp; done) | (simp; omega))) | (with_reducible refine bl_last (by assumption) ?_) | (with_reducible refine bl_drewN ?_ _))))).mono ?_); rintro e w' ⟨rfl, hb⟩; obtain ⟨hz, hc, hf⟩ := bcl hb (by first | (simp; rfl) | rfl))) | (go_at_call 127; ((with_reducible refine (HLen.out _).mono ?_); rintro e w' ⟨rfl, rfl⟩)))
    have HS := Lib.hid (PowI.up (x := x) (N := M) (w := w) (H0.out w (bl_refl w)) hb)
    clear H0 HC h2 h1
    go_loopw [5, 6] (fun c i wr => ∃ (k b m : Nat), k ≤ L ∧ i = .int .i64 ((k : Int) - 1) ∧ c = .slice (some ⟨b, 0, none⟩) m m ∧ Hid (PowI x M w wr k b m)) (fun _ i _ => (intOf i + 1).toNat)
    case atStart => exact ⟨L, _, _, Nat.le_refl _, by go_num, rfl, HS⟩
    case round =>
      clear HS
      obtain ⟨k, b, m, hk, rfl, rfl, HI⟩ := hrel
      rcases k with _ | k
      · go_wp2
        go_ret
        obtain ⟨i1, i2, i3, i4⟩ := HI.out
        rw [Nat.pow_zero, Nat.div_one] at i3
        exact ⟨i1, b, m, i2, rfl, i3, i4⟩
      · rw [show (((k + 1 : Nat) : Int) - 1) = (k : Int) by omega]
        have hbit := bit_of M k hM2
        have hpar : M / 2 ^ k % 2 = 0 ∨ M / 2 ^ k % 2 = 1 := by omega
        rcases hpar with h0 | h0
        · rw [h0] at hbit
          have HP := Lib.hid h0
          clear h0
          have hbit : bits .and .i64 ((M : Int) / 2 ^ k) 1 = 0 := hbit
          go_wp2_with (first | (go_at_call 153; ((with_reducible refine (HSq.out _ k b m HI.out).mono ?_); rintro e w2 ⟨hb2, b2, m2, hk2, rfl, hN2, h62⟩; obtain ⟨hz2, hc2, hf2⟩ := bcl hb2 (by first | (simp; rfl) | rfl))))
          go_roundw
          case rel => exact ⟨k, b2, m2, by omega, rfl, rfl, Lib.hid (HI.out.step hb2 hk2 hN2 h62 HP.out)⟩
          case measure => simp [intOf]
        · rw [h0] at hbit
          have HP := Lib.hid h0
          clear h0
          have hbit : bits .and .i64 ((M : Int) / 2 ^ k) 1 = 1 := hbit
          go_wp2_with (first | (go_at_call 153; ((with_reducible refine (HSq.out _ k b m HI.out).mono ?_); rintro e w2 ⟨hb2, b2, m2, hk2, rfl, hN2, h62⟩; obtain ⟨hz2, hc2, hf2⟩ := bcl hb2 (by first | (simp; rfl) | rfl))) | (go_at_call 153; ((with_reducible refine (HMu.out _ k b2 m2 ca (bl_trans HI.out.bel hb2) hN2 h62 HP.out).mono ?_); rintro e w3 ⟨hb3, b3, m3, hk3, rfl, hN3, h63⟩; obtain ⟨hz3, hc3, hf3⟩ := bcl hb3 (by first | (simp; rfl) | rfl))))
          go_roundw
          case rel => exact ⟨k, b3, m3, by omega, rfl, rfl, Lib.hid (HI.out.odd hb2 hb3 hk3 hN3 h63 HP.out)⟩
          case measure => simp [intOf]
  · have hc : ¬ ordZ (x : Int) ((1 : Nat) : Int) ≤ 0 := by rw [ordZ_gt (by omega)]; omega
    generalize ordZ (x : Int) ((1 : Nat) : Int) = o at *
    go_enter Tryd.func134, Tryd.ntmps134
    go_wp2_with (first | (go_at_call 87; ((with_reducible refine (HC.out _ (by (repeat (first | (with_reducible exact bl_refl _) | (with_reducible refine bl_drew ?_) | (with_reducible refine bl_alloc ?_ _) | (with_reducible refine bl_set' ?_ ?_; · (first | omega | (simp; done) | (simp; omega))) | (with_reducible refine bl_last (by assumption) ?_) | (with_reducible refine bl_drewN ?_ _))))).mono ?_); rintro e w' ⟨rfl, hb⟩; obtain ⟨hz, hc, hf⟩ := bcl hb (by first | (simp; rfl) | rfl))) | (go_at_call 127; ((with_reducible refine (HLen.out _).mono ?_); rintro e w' ⟨rfl, rfl⟩)))
    have HS := Lib.hid (PowI.up (x := x) (N := M) (w := w) (H0.out w (bl_refl w)) hb)
    clear H0 HC h1
    go_loopw [5, 6] (fun c i wr => ∃ (k b m : Nat), k ≤ L ∧ i = .int .i64 ((k : Int) - 1) ∧ c = .slice (some ⟨b, 0, none⟩) m m ∧ Hid (PowI x M w wr k b m)) (fun _ i _ => (intOf i + 1).toNat)
    case atStart => exact ⟨L, _, _, Nat.le_refl _, by go_num, rfl, HS⟩
    case round =>
      clear HS
      obtain ⟨k, b, m, hk, rfl, rfl, HI⟩ := hrel
      rcases k with _ | k
      · go_wp2
        go_ret
        obtain ⟨i1, i2, i3, i4⟩ := HI.out
        rw [Nat.pow_zero, Nat.div_one] at i3
        exact ⟨i1, b, m, i2, rfl, i3, i4⟩
      · rw [show (((k + 1 : Nat) : Int) - 1) = (k : Int) by omega]
        have hbit := bit_of M k hM2
        have hpar : M / 2 ^ k % 2 = 0 ∨ M / 2 ^ k % 2 = 1 := by omega
        rcases hpar with h0 | h0
        · rw [h0] at hbit
          have HP := Lib.hid h0
          clear h0
          have hbit : bits .and .i64 ((M : Int) / 2 ^ k) 1 = 0 := hbit
          go_wp2_with (first | (go_at_call 153; ((with_reducible refine (HSq.out _ k b m HI.out).mono ?_); rintro e w2 ⟨hb2, b2, m2, hk2, rfl, hN2, h62⟩; obtain ⟨hz2, hc2, hf2⟩ := bcl hb2 (by first | (simp; rfl) | rfl))))
          go_roundw
          case rel => exact ⟨k, b2, m2, by omega, rfl, rfl, Lib.hid (HI.out.step hb2 hk2 hN2 h62 HP.out)⟩
          case measure => simp [intOf]
        · rw [h0] at hbit
          have HP := Lib.hid h0
          clear h0
          have hbit : bits .and .i64 ((M : Int) / 2 ^ k) 1 = 1 := hbit
          go_wp2_with (first | (go_at_call 153; ((with_reducible refine (HSq.out _ k b m HI.out).mono ?_); rintro e w2 ⟨hb2, b2, m2, hk2, rfl, hN2, h62⟩; obtain ⟨hz2, hc2, hf2⟩ := bcl hb2 (by first | (simp; rfl) | rfl))) | (go_at_call 153; ((with_reducible refine (HMu.out _ k b2 m2 ca (bl_trans HI.out.bel hb2) hN2 h62 HP.out).mono ?_); rintro e w3 ⟨hb3, b3, m3, hk3, rfl, hN3, h63⟩; obtain ⟨hz3, hc3, hf3⟩ := bcl hb3 (by first | (simp; rfl) | rfl))))
          go_roundw
          case rel => exact ⟨k, b3, m3, by omega, rfl, rfl, Lib.hid (HI.out.odd hb2 hb3 hk3 hN3 h63 HP.out)⟩
          case measure => simp [intOf]

set_option maxRecDepth 100000 in
set_option maxHeartbeats 1000000 in
theorem Npow1_c (p q ba n x ca N : Nat) (w : World) (hp : w.cell? ⟨p, 0, none⟩ = some (.slice (some ⟨ba, 0, none⟩) n ca)) (hq : w.cell? ⟨q, 0, none⟩ = some (.int .i64 N))
    (ha : Num w w.heap.size ba n x) (hn : n ≤ 640) (hN : N ≤ 20000) (hx : x ^ N < Cap) :
    Calls Tryd.prog 133 #[.pointer (some ⟨p, 0, none⟩), .pointer (some ⟨q, 0, none⟩)] w (NumP (x ^ N) w) := by
  have HP := Lib.hid (power_c ba n x ca N w ha hn hN hx)
  clear ha hx
  go_enter Tryd.func133, Tryd.ntmps133
  go_wp2_with (go_at_call 134; ((with_reducible refine (HP.out).mono ?_); rintro e w' ⟨hb, b, k, hk, rfl, hN, h6⟩))
  go_ret
  exact ⟨hb, b, k, hk, rfl, hN, h6⟩

set_option maxRecDepth 100000 in
set_option maxHeartbeats 2000000 in
theorem guarded1_c (p q L ba n x ca N : Nat) (w : World) (hp : w.cell? ⟨p, 0, none⟩ = some (.slice (some ⟨ba, 0, none⟩) n ca)) (hq : w.cell? ⟨q, 0, none⟩ = some (.int .i64 N))
    (h0 : w.cell? ⟨L, 0, none⟩ = some (.slice (some ⟨ba, 0, none⟩) n ca)) (ha : Num w w.heap.size ba n x) (hn : n ≤ 640) (hN : N ≤ 20000) (hx : x ^ N < Cap) :
    Calls Tryd.prog 132 #[.func (.func 133) #[] #[.pointer (some ⟨p, 0, none⟩), .pointer (some ⟨q, 0, none⟩)], .slice (some ⟨L, 0, none⟩) 1 1] w (NumE (x ^ N) w) := by
  have hmf := nhmkf
  have HV1 := Lib.hid (fun W (hw : Below w.heap.size w W) => Nvalid_c ba n x ca W (ha.up hw) hn)
  have HM := Lib.hid (fun W (hw : Below w.heap.size w W) => Npow1_c p q ba n x ca N W (keep_cell hw hp) (keep_cell hw hq) (ha.up hw) hn hN hx)
  have z1 : L < w.heap.size := World.block_lt_of_cell? _ _ h0
  clear ha hx hp hq
  go_enter_defers Tryd.func132, Tryd.ntmps132
  go_wp2
  refine wp_loop_rounds 2 ?_
  rw [rounds_succ]
  go_wp2_with (first | (go_at_call 86; ((with_reducible refine (HV1.out _ (by (repeat (first | (with_reducible exact bl_refl _) | (with_reducible refine bl_drew ?_) | (with_reducible refine bl_alloc ?_ _) | (with_reducible refine bl_set' ?_ ?_; · (first | omega | (simp; done) | (simp; omega))) | (with_reducible refine bl_last (by assumption) ?_) | (with_reducible refine bl_drewN ?_ _))))).mono ?_); rintro e w' ⟨rfl, rfl⟩)))
  rw [rounds_succ]
  go_wp2_with (first | (go_at_call 133; ((with_reducible refine (HM.out _ (by (repeat (first | (with_reducible exact bl_refl _) | (with_reducible refine bl_drew ?_) | (with_reducible refine bl_alloc ?_ _) | (with_reducible refine bl_set' ?_ ?_; · (first | omega | (simp; done) | (simp; omega))) | (with_reducible refine bl_last (by assumption) ?_) | (with_reducible refine bl_drewN ?_ _))))).mono ?_); rintro e w' ⟨hb, b, k, hk, rfl, hN, h6⟩; obtain ⟨hz, hc, hf⟩ := bcl hb (by first | (simp; rfl) | rfl))))
  refine leaves_cons (f := 152) (args := #[.pointer (some ⟨w.heap.size, 0, none⟩), .pointer (some ⟨w.heap.size + 1, 0, none⟩)]) (by simp) (by simp [go_sem]) ?_
  refine (ng1_idle (w.heap.size) (w.heap.size + 1) _).mono ?_
  rintro e u' w'' ⟨rfl, rfl, rfl⟩
  refine ⟨.tuple #[.slice (some ⟨b, 0, none⟩) k k, .int .i64 0], ?_, ?_⟩
  · simp only [results, Tryd.results132]
    go_simp
  · have hk2 : w.heap.size + 2 ≤ b := by simpa using hk
    refine ⟨by (repeat (first | (with_reducible exact bl_refl _) | (with_reducible refine bl_drew ?_) | (with_reducible refine bl_alloc ?_ _) | (with_reducible refine bl_set' ?_ ?_; · (first | omega | (simp; done) | (simp; omega))) | (with_reducible refine bl_last (by assumption) ?_) | (with_reducible refine bl_drewN ?_ _))), b, k, by omega, rfl, (hN.far (by show w.heap.size ≠ b; omega) _).far (by show w.heap.size + 1 ≠ b; omega) _, h6⟩

set_option maxRecDepth 100000 in
set_option maxHeartbeats 2000000 in
theorem Npow_c (ba n x ca N : Nat) (w : World) (ha : Num w w.heap.size ba n x) (hn : n ≤ 640) (hN : N ≤ 20000) (hx : x ^ N < Cap) :
    Calls Tryd.prog 117 #[.slice (some ⟨ba, 0, none⟩) n ca, .int .i64 N] w (NumE (x ^ N) w) := by
  have hmf := nhmkf
  have HM := Lib.hid (fun W (hw : Below w.heap.size w W) p q L hp hq h0 => guarded1_c p q L ba n x ca N W hp hq h0 (ha.up hw) hn hN hx)
  clear ha hx
  go_enter Tryd.func117, Tryd.ntmps117
  go_wp2_with (first | (go_at_call 132; ((with_reducible refine (HM.out _ (by (repeat (first | (with_reducible exact bl_refl _) | (with_reducible refine bl_drew ?_) | (with_reducible refine bl_alloc ?_ _) | (with_reducible refine bl_set' ?_ ?_; · (first | omega | (simp; done) | (simp; omega))) | (with_reducible refine bl_last (by assumption) ?_) | (with_reducible refine bl_drewN ?_ _)))) _ _ _ (by go_simp) (by go_simp) (by go_simp)).mono ?_); rintro e w' ⟨hb, b, k, hk, rfl, hN, h6⟩)))
  go_ret2
  exact ⟨by (repeat (first | (with_reducible exact bl_refl _) | (with_reducible refine bl_drew ?_) | (with_reducible refine bl_alloc ?_ _) | (with_reducible refine bl_set' ?_ ?_; · (first | omega | (simp; done) | (simp; omega))) | (with_reducible refine bl_last (by assumption) ?_) | (with_reducible refine bl_drewN ?_ _))), b, k, Nat.le_trans (by simp; omega) hk, rfl, hN, h6⟩
end Go.Proofs.YtehifkdfbiebfaaDoor
