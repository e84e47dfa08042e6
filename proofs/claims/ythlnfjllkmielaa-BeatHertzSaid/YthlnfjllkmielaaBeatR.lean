/- Beat: the comparison inside Hertz; sort.Search over it. -/
import Derived.Test.YthlnfjllkmielaaBeatQ
namespace Go.Proofs.Ythlnfjllkmielaa
open Go.RowKit

/-- How k / d compares with the frequency. -/
def hzO (D R G k : Nat) : Int := ordZ (((k * D) ^ 12 * R : Nat) : Int) (G : Int)
structure HzW (A R G br nr cr bg ng cg D r g : Nat) (w : World) : Prop where
  dc : w.cell? ⟨A, 1, none⟩ = some (.int .i64 (D : Int))
  rc : w.cell? ⟨R, 0, none⟩ = some (.slice (some ⟨br, 0, none⟩) nr cr)
  gc : w.cell? ⟨G, 0, none⟩ = some (.slice (some ⟨bg, 0, none⟩) ng cg)
  rn : Num w w.heap.size br nr r
  gn : Num w w.heap.size bg ng g
theorem HzW.up {A R G br nr cr bg ng cg D r g : Nat} {w w' : World} (h : HzW A R G br nr cr bg ng cg D r g w) (hb : Below w.heap.size w w') : HzW A R G br nr cr bg ng cg D r g w' :=
  ⟨keep_cell hb h.dc, keep_cell hb h.rc, keep_cell hb h.gc, h.rn.up hb, h.gn.up hb⟩

theorem pow_le_two {a k m n : Nat} (h : a ≤ 2 ^ m) (hn : m * k ≤ n) : a ^ k ≤ 2 ^ n := by
  refine Nat.le_trans (Nat.pow_le_pow_left h k) ?_
  rw [← Nat.pow_mul]
  exact Nat.pow_le_pow_right (by omega) hn
set_option maxRecDepth 100000 in
set_option maxHeartbeats 4000000 in
theorem hertz1_c (A R G br nr cr bg ng cg D r g k : Nat) (w : World) (h : HzW A R G br nr cr bg ng cg D r g w) (hk : k ≤ 1000000000) (hD : D ≤ 100000000) (hr : r ≤ 2 ^ 9792) (hnr : nr ≤ 640) (hng : ng ≤ 640) :
    Calls Try.prog 51 #[.int .i64 (k : Int), .pointer (some ⟨A, 0, none⟩), .pointer (some ⟨R, 0, none⟩), .pointer (some ⟨G, 0, none⟩)] w (Ret (.int .i64 (hzO D r g k)) w) := by
  have hkD : k * D ≤ 100000000000000000 := Nat.mul_le_mul hk hD
  have hBig : (k * D) ^ 12 * r < Cap := by
    obtain ⟨c1, hc1⟩ : ∃ c : Nat, c = 684 := ⟨_, rfl⟩
    obtain ⟨c2, hc2⟩ : ∃ c : Nat, c = 9792 := ⟨_, rfl⟩
    rw [← hc2] at hr
    refine lt_big (k := c1 + c2) ?_ (by omega)
    rw [Nat.pow_add]
    refine Nat.mul_le_mul ?_ hr
    exact pow_le_two (m := 57) (Nat.le_trans hkD (show _ ≤ 2 ^ 57 by decide)) (by omega)
  have hw1 : IntKind.i64.wrap ((k : Int) * (D : Int)) = ((k * D : Nat) : Int) := by rw [IntKind.wrap_i64]; rw [← Int.natCast_mul]; omega
  have HP := Lib.hid (fun W q B => bprod1_c W q (k * D) hkD B)
  have HG := Lib.hid h
  have c1 := h.dc
  have c2 := h.rc
  have c3 := h.gc
  have z1 := World.block_lt_of_cell? _ _ c1
  have z2 := World.block_lt_of_cell? _ _ c2
  have z3 := World.block_lt_of_cell? _ _ c3
  have z1 : A < w.heap.size := z1
  have z2 : R < w.heap.size := z2
  have z3 : G < w.heap.size := z3
  have HB := Lib.hid hBig
  clear hBig h hr
  have hO : Hid (hzO D r g k = ordZ (((k * D) ^ 12 * r : Nat) : Int) (g : Int)) := Lib.hid rfl
  generalize hzO D r g k = O at *
  clear hkD
  generalize k * D = Z at *
  have HM := Lib.hid (fun W b n (hb : Below w.heap.size w W) (hN : Num W W.heap.size b n (Z ^ 12)) (hn : n ≤ 640) => Nmul_c b br n nr (Z ^ 12) r n cr W hN (HG.out.rn.up hb) hn hnr HB.out)
  have HC := Lib.hid (fun W b n (hb : Below w.heap.size w W) (hN : Num W W.heap.size b n (Z ^ 12 * r)) (hn : n ≤ 640) => Ncmp_c b bg n ng (Z ^ 12 * r) g n cg W hN (HG.out.gn.up hb) hn hng)
  go_enter Try.func51, Try.ntmps51
  go_wp2
  go_region_held3 (fun w' => w'.cell? ⟨A, 1, none⟩ = some (.int .i64 (D : Int)) ∧ w'.cell? ⟨R, 0, none⟩ = some (.slice (some ⟨br, 0, none⟩) nr cr) ∧ w'.cell? ⟨G, 0, none⟩ = some (.slice (some ⟨bg, 0, none⟩) ng cg))
    (first | go_keep | (refine ⟨?_, ?_, ?_⟩ <;> (go_simp; done)))
    ((first | (go_at_call 50; ((with_reducible refine (HP.out _ _ (by first | exact Blk.new _ _ _ | exact (Blk.new _ _ _).drew)).mono ?_); rintro e w2 ⟨hb2, b2, n2, hk2, rfl, hN2, h62⟩; obtain ⟨hz2, hc2, hf2⟩ := bcl hb2 (by first | (simp; rfl) | rfl))) | (go_at_call 52; ((with_reducible refine (HM.out _ _ _ (by (repeat (first | (with_reducible exact bl_refl _) | (with_reducible refine bl_drew ?_) | (with_reducible refine bl_alloc ?_ _) | (with_reducible refine bl_set' ?_ ?_; · (first | omega | (simp; done) | (simp; omega))) | (with_reducible refine bl_last (by assumption) ?_) | (with_reducible refine bl_drewN ?_ _)))) hN2 h62).mono ?_); rintro e w3 ⟨hb3, b3, n3, hk3, rfl, hN3, h63⟩; obtain ⟨hz3, hc3, hf3⟩ := bcl hb3 (by first | (simp; rfl) | rfl)))))
  go_wp2_with (go_at_call 53; ((with_reducible refine (HC.out _ _ _ (by (repeat (first | (with_reducible exact bl_refl _) | (with_reducible refine bl_drew ?_) | (with_reducible refine bl_alloc ?_ _) | (with_reducible refine bl_set' ?_ ?_; · (first | omega | (simp; done) | (simp; omega))) | (with_reducible refine bl_last (by assumption) ?_) | (with_reducible refine bl_drewN ?_ _)))) hN3 h63).mono ?_); rintro e w4 ⟨rfl, hb4⟩; obtain ⟨hz4, hc4, hf4⟩ := bcl hb4 (by first | (simp; rfl) | rfl)))
  go_ret
  exact ⟨ret_int hO.out.symm, by (repeat (first | (with_reducible exact bl_refl _) | (with_reducible refine bl_drew ?_) | (with_reducible refine bl_alloc ?_ _) | (with_reducible refine bl_set' ?_ ?_; · (first | omega | (simp; done) | (simp; omega))) | (with_reducible refine bl_last (by assumption) ?_) | (with_reducible refine bl_drewN ?_ _)))⟩

/-- What the search asks. -/
def hzB (D R G k : Nat) : Bool := decide (0 ≤ hzO D R G k)
set_option maxRecDepth 100000 in
set_option maxHeartbeats 1000000 in
theorem hertz2_c (F A R G br nr cr bg ng cg D r g k : Nat) (w : World) (hF : w.cell? ⟨F, 0, none⟩ = some (.func (.func 51) #[] #[.pointer (some ⟨A, 0, none⟩), .pointer (some ⟨R, 0, none⟩), .pointer (some ⟨G, 0, none⟩)])) (h : HzW A R G br nr cr bg ng cg D r g w) (hk : k ≤ 1000000000) (hD : D ≤ 100000000) (hr : r ≤ 2 ^ 9792) (hnr : nr ≤ 640) (hng : ng ≤ 640) :
    Calls Try.prog 55 #[.int .i64 (k : Int), .pointer (some ⟨F, 0, none⟩)] w (Ret (.bool (hzB D r g k)) w) := by
  have HH := Lib.hid (fun W (hb : Below w.heap.size w W) => hertz1_c A R G br nr cr bg ng cg D r g k W (h.up hb) hk hD hr hnr hng)
  have hB : Hid (hzB D r g k = decide (0 ≤ hzO D r g k)) := Lib.hid rfl
  generalize hzB D r g k = B at *
  generalize hzO D r g k = O at *
  clear h hr
  go_enter Try.func55, Try.ntmps55
  go_wp2_with (go_at_call 51; ((with_reducible refine (HH.out _ (by (repeat (first | (with_reducible exact bl_refl _) | (with_reducible refine bl_drew ?_) | (with_reducible refine bl_alloc ?_ _) | (with_reducible refine bl_set' ?_ ?_; · (first | omega | (simp; done) | (simp; omega))) | (with_reducible refine bl_last (by assumption) ?_) | (with_reducible refine bl_drewN ?_ _))))).mono ?_); rintro e w4 ⟨rfl, hb4⟩; obtain ⟨hz4, hc4, hf4⟩ := bcl hb4 (by first | (simp; rfl) | rfl)))
  go_ret
  exact ⟨ret_bool hB.out.symm, by (repeat (first | (with_reducible exact bl_refl _) | (with_reducible refine bl_drew ?_) | (with_reducible refine bl_alloc ?_ _) | (with_reducible refine bl_set' ?_ ?_; · (first | omega | (simp; done) | (simp; omega))) | (with_reducible refine bl_last (by assumption) ?_) | (with_reducible refine bl_drewN ?_ _)))⟩

/-- What the search leaves. -/
def SeaP (p : Nat → Bool) (n : Nat) (w : World) (e : Ending) (w' : World) : Prop := Below w.heap.size w w' ∧ ∃ r : Nat, r ≤ n ∧ e = .returned (.int .i64 (r : Int)) ∧ (∀ i, i < r → p i = false) ∧ (∀ i, r ≤ i → i < n → p i = true)
set_option maxRecDepth 100000 in
set_option maxHeartbeats 4000000 in
theorem search_c (F n : Nat) (p : Nat → Bool) (w : World) (hn : n ≤ 2000000000) (hp : ∀ i j, i ≤ j → p i = true → p j = true) (hc : ∀ W k, Below w.heap.size w W → k < n → Calls Try.prog 55 #[.int .i64 (k : Int), .pointer (some ⟨F, 0, none⟩)] W (Ret (.bool (p k)) W)) :
    Calls Try.prog 54 #[.int .i64 (n : Int), .func (.func 55) #[] #[.pointer (some ⟨F, 0, none⟩)]] w (SeaP p n w) := by
  have HP := Lib.hid hp
  have HC := Lib.hid hc
  clear hp hc
  go_enter Try.func54, Try.ntmps54
  go_wp2
  go_loopw [5, 6] (fun a b wr => ∃ (i j : Nat), i ≤ j ∧ j ≤ n ∧ a = .int .i64 (i : Int) ∧ b = .int .i64 (j : Int) ∧ Below w.heap.size w wr ∧ Hid ((∀ k, k < i → p k = false) ∧ (∀ k, j ≤ k → k < n → p k = true))) (fun a b _ => (intOf b - intOf a).toNat)
  case atStart => exact ⟨0, n, Nat.zero_le _, Nat.le_refl _, rfl, rfl, bl_refl _, Lib.hid ⟨fun k h => by omega, fun k h1 h2 => by omega⟩⟩
  case round =>
    obtain ⟨i, j, hij, hjn, rfl, rfl, hbw, HI⟩ := hrel
    by_cases hlt : i < j
    · have hw1 : IntKind.u64.wrap ((i : Int) + j) = i + j := by rw [IntKind.wrap_u64]; omega
      have hw2 : IntKind.i64.wrap (((i : Int) + j) / 2) = ((i : Int) + j) / 2 := by rw [IntKind.wrap_i64]; omega
      obtain ⟨h, hh, h1, h2⟩ : ∃ h : Nat, ((i : Int) + j) / 2 = h ∧ i ≤ h ∧ h < j := ⟨(i + j) / 2, by omega, by omega, by omega⟩
      have HH := Lib.hid (fun W (hb : Below w.heap.size w W) => HC.out W h hb (by omega))
      cases hph : p h
      · rw [hph] at HH
        have HH := Lib.hid HH.out
        have HI2 := Lib.hid (show (∀ k, k < h + 1 → p k = false) ∧ (∀ k, j ≤ k → k < n → p k = true) from ⟨(fun k hk => by
          cases e : p k
          · rfl
          · have := HP.out k h (by omega) e
            rw [hph] at this
            cases this), HI.out.2⟩)
        clear hph
        go_wp2_with (go_at_call 55; ((with_reducible refine (HH.out _ (by (repeat (first | (with_reducible exact bl_refl _) | (with_reducible refine bl_drew ?_) | (with_reducible refine bl_alloc ?_ _) | (with_reducible refine bl_set' ?_ ?_; · (first | omega | (simp; done) | (simp; omega))) | (with_reducible refine bl_last (by assumption) ?_) | (with_reducible refine bl_drewN ?_ _))))).mono ?_); rintro e w4 ⟨rfl, hb4⟩; obtain ⟨hz4, hc4, hf4⟩ := bcl hb4 (by first | (simp; rfl) | rfl)))
        go_roundw
        case rel => exact ⟨h + 1, j, by omega, hjn, by go_num, rfl, by (repeat (first | (with_reducible exact bl_refl _) | (with_reducible refine bl_drew ?_) | (with_reducible refine bl_alloc ?_ _) | (with_reducible refine bl_set' ?_ ?_; · (first | omega | (simp; done) | (simp; omega))) | (with_reducible refine bl_last (by assumption) ?_) | (with_reducible refine bl_drewN ?_ _))), HI2⟩
        case measure => simp [intOf]; omega
      · rw [hph] at HH
        have HH := Lib.hid HH.out
        have HI2 := Lib.hid (show (∀ k, k < i → p k = false) ∧ (∀ k, h ≤ k → k < n → p k = true) from ⟨HI.out.1, fun k hk _ => HP.out h k hk hph⟩)
        clear hph
        go_wp2_with (go_at_call 55; ((with_reducible refine (HH.out _ (by (repeat (first | (with_reducible exact bl_refl _) | (with_reducible refine bl_drew ?_) | (with_reducible refine bl_alloc ?_ _) | (with_reducible refine bl_set' ?_ ?_; · (first | omega | (simp; done) | (simp; omega))) | (with_reducible refine bl_last (by assumption) ?_) | (with_reducible refine bl_drewN ?_ _))))).mono ?_); rintro e w4 ⟨rfl, hb4⟩; obtain ⟨hz4, hc4, hf4⟩ := bcl hb4 (by first | (simp; rfl) | rfl)))
        go_roundw
        case rel => exact ⟨i, h, h1, by omega, rfl, rfl, by (repeat (first | (with_reducible exact bl_refl _) | (with_reducible refine bl_drew ?_) | (with_reducible refine bl_alloc ?_ _) | (with_reducible refine bl_set' ?_ ?_; · (first | omega | (simp; done) | (simp; omega))) | (with_reducible refine bl_last (by assumption) ?_) | (with_reducible refine bl_drewN ?_ _))), HI2⟩
        case measure => simp [intOf]; omega
    · obtain rfl : i = j := by omega
      go_wp2
      go_ret
      exact ⟨hbw, i, hjn, rfl, HI.out.1, HI.out.2⟩
end Go.Proofs.Ythlnfjllkmielaa
