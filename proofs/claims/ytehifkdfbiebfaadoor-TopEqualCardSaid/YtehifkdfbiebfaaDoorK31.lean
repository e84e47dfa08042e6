/- TopEqual: Valid of a matrix of one row. -/
import Derived.Test.YtehifkdfbiebfaaDoorK30
namespace Go.Proofs.YtehifkdfbiebfaaDoor
open Go Go.RowKit

set_option maxRecDepth 100000 in
theorem mabs_c (x : Int) (hx : -400 ≤ x ∧ x ≤ 400) (w : World) : Calls Tryd.prog 160 #[.int .i64 x] w (fun e w' => (∃ y : Int, e = .returned (.int .i64 y) ∧ 0 ≤ y ∧ y ≤ 400) ∧ Below w.heap.size w w') := by
  by_cases h : x < 0
  · have q : decide (x < 0) = true := decide_eq_true h
    have w1 : IntKind.i64.wrap (-x) = -x := by rw [IntKind.wrap_i64]; omega
    have hb : 0 ≤ -x ∧ -x ≤ 400 := by omega
    have HB := Lib.hid hb
    clear h hb
    go_enter Tryd.func160, Tryd.ntmps160
    go_wp2
    go_ret
    exact ⟨⟨_, rfl, HB.out⟩, bl_refl _⟩
  · have q : decide (x < 0) = false := decide_eq_false h
    have HB := Lib.hid (show 0 ≤ x ∧ x ≤ 400 by omega)
    clear h
    go_enter Tryd.func160, Tryd.ntmps160
    go_wp2
    go_ret
    exact ⟨⟨_, rfl, HB.out⟩, bl_refl _⟩
set_option maxRecDepth 100000 in
set_option maxHeartbeats 16000000 in
theorem mvalid_c (g : Nat → Nat → Int) (hg : ∀ i, i < 6 → -400 ≤ g 0 i ∧ g 0 i ≤ 400) (b o c : Nat) (w : World) (hv : VecsR w w.heap.size (some ⟨b, o, none⟩) 1 g) :
    Calls Tryd.prog 148 #[.slice (some ⟨b, o, none⟩) 1 c] w (Ret (.bool true) w) := by
  obtain ⟨b', o', hbo, hb0, hcl⟩ := hv (by omega)
  obtain ⟨rfl, rfl⟩ : b = b' ∧ o = o' := by
    have := Option.some.inj hbo
    injection this with e1 e2
    exact ⟨e1, e2⟩
  have h0 := hcl 0 (by omega)
  simp only [Nat.zero_mul, Nat.add_zero] at h0
  obtain ⟨r, hr⟩ : ∃ r, r = g 0 := ⟨_, rfl⟩
  rw [← hr] at h0 hg
  have HR := Lib.hid (fun X (hX : Below w.heap.size w X) => And.intro ((hX.cell (p := ⟨b, o, none⟩) hb0).trans (h0 0 (by omega))) (And.intro ((hX.cell (p := ⟨b, o + 1, none⟩) hb0).trans (h0 1 (by omega))) (And.intro ((hX.cell (p := ⟨b, o + 2, none⟩) hb0).trans (h0 2 (by omega))) (And.intro ((hX.cell (p := ⟨b, o + 3, none⟩) hb0).trans (h0 3 (by omega))) (And.intro ((hX.cell (p := ⟨b, o + 4, none⟩) hb0).trans (h0 4 (by omega))) (And.intro ((hX.cell (p := ⟨b, o + 5, none⟩) hb0).trans (h0 5 (by omega))) (show b < X.heap.size by have := hX.size; omega)))))))
  have HG := Lib.hid hg
  clear hcl hv h0 hr hg hbo
  go_enter Tryd.func148, Tryd.ntmps148
  go_wp2
  go_loopw [3, 11] (fun vv kv wr => (vv = .int .i64 1 ∧ kv = .int .i64 0 ∨ (∃ y : Int, vv = .int .i64 y) ∧ kv = .int .i64 1) ∧ Hid (Below w.heap.size w wr)) (fun _ kv _ => 1 - (intOf kv).toNat)
  case atStart => exact ⟨Or.inl ⟨rfl, rfl⟩, Lib.hid (bl_refl _)⟩
  case round =>
    obtain ⟨h, HB⟩ := hrel
    rcases h with ⟨rfl, rfl⟩ | ⟨⟨y, rfl⟩, rfl⟩
    · obtain ⟨s_0, s_1, s_2, s_3, s_4, s_5, zs⟩ := HR.out wr HB.out
      go_upto_region 5 with fail
      refine wp_letter ?_
      intro W2 hW2
      have HB2 : Hid (Below w.heap.size w W2) := Lib.hid (by rw [hW2]; exact bl_alloc HB.out _)
      have P2 : Blk W2 wr.heap.size 27 #[.int .i64 (r 0), .int .i64 (r 1), .int .i64 (r 2), .int .i64 (r 3), .int .i64 (r 4), .int .i64 (r 5)] := by rw [hW2]; exact Blk.new _ _ _
      clear hW2 s_0 s_1 s_2 s_3 s_4 s_5 zs HB
      generalize wr.heap.size = pa at *
      have p_0 := P2.cell 0
      have p_1 := P2.cell 1
      have p_2 := P2.cell 2
      have p_3 := P2.cell 3
      have p_4 := P2.cell 4
      have p_5 := P2.cell 5
      have zp := P2.lt
      simp only [List.getElem?_toArray, List.getElem?_cons_zero, List.getElem?_cons_succ] at p_0 p_1 p_2 p_3 p_4 p_5
      go_wp2
      clear p_0 p_1 p_2 p_3 p_4 p_5 zp P2
      go_loopw [6, 16] (fun sv jv wr => ∃ (j : Nat) (s : Int), j ≤ 6 ∧ 0 ≤ s ∧ s ≤ 400 * (j : Int) ∧ sv = .int .i64 s ∧ jv = .int .i64 (j : Int) ∧ Hid (Below w.heap.size w wr)) (fun _ jv _ => 6 - (intOf jv).toNat)
      case atStart => exact ⟨0, 0, by omega, by omega, by omega, rfl, rfl, HB2⟩
      case round =>
        obtain ⟨j, s, hj, hs0, hs1, rfl, rfl, HBj⟩ := hrel
        by_cases hj6 : j < 6
        · have hgj := HG.out j hj6
          have HM := Lib.hid (fun X => mabs_c (r j) hgj X)
          have q1 : decide ((1000000000 : Int) < r j) = false := decide_eq_false (by omega)
          have q2 : decide (r j < (-1000000000 : Int)) = false := decide_eq_false (by omega)
          clear hgj
          rcases lt6 hj6 with rfl | rfl | rfl | rfl | rfl | rfl
          all_goals
            go_wp2_with fail
            (with_reducible refine (HM.out _).mono ?_)
            rintro e w5 ⟨⟨y, rfl, hy0, hy1⟩, hb5⟩
            have HB5 := Lib.hid (bl_trans HBj.out hb5)
            have ws : IntKind.i64.wrap (s + y) = s + y := by rw [IntKind.wrap_i64]; omega
            have HS := Lib.hid (And.intro (And.intro hs0 hs1) (And.intro hy0 hy1))
            clear hb5 HBj HM q1 q2 hs0 hs1 hy0 hy1
            simp only
            go_wp2
            go_roundw
            case rel => first | exact ⟨1, s + y, by omega, by have := HS.out; omega, by have := HS.out; omega, rfl, rfl, HB5⟩ | exact ⟨2, s + y, by omega, by have := HS.out; omega, by have := HS.out; omega, rfl, rfl, HB5⟩ | exact ⟨3, s + y, by omega, by have := HS.out; omega, by have := HS.out; omega, rfl, rfl, HB5⟩ | exact ⟨4, s + y, by omega, by have := HS.out; omega, by have := HS.out; omega, rfl, rfl, HB5⟩ | exact ⟨5, s + y, by omega, by have := HS.out; omega, by have := HS.out; omega, rfl, rfl, HB5⟩ | exact ⟨6, s + y, by omega, by have := HS.out; omega, by have := HS.out; omega, rfl, rfl, HB5⟩
            case measure => simp [intOf]
        · obtain rfl : j = 6 := by omega
          obtain ⟨m, hm, hm2⟩ : ∃ m : Int, m = max s 1 ∧ (1 ≤ m ∧ m ≤ 2400) := ⟨_, rfl, by omega⟩
          have hm' : (if s < 1 then 1 else s) = m := by rw [hm]; split <;> omega
          have q1 : decide ((1000000000 : Int) < m) = false := decide_eq_false (by omega)
          have wm : IntKind.i64.wrap m = m := by rw [IntKind.wrap_i64]; omega
          clear hm2
          go_wp2
          go_roundw
          case rel => exact ⟨Or.inr ⟨⟨_, rfl⟩, rfl⟩, HBj⟩
          case measure => simp [intOf]
    · go_wp2
      go_ret
      exact ⟨rfl, HB.out⟩
end Go.Proofs.YtehifkdfbiebfaaDoor
