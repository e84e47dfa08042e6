/- TopEqual: the tuned pitch. -/
import Derived.Test.YtehifkdfbiebfaaDoorK43
namespace Go.Proofs.YtehifkdfbiebfaaDoor
open Go Go.RowKit

/-- The first coordinate of the tuned pitch, as the loop goes. -/
def tnE (p : Int) (k : Nat) : Int := if k = 0 then 0 else p
set_option maxRecDepth 100000 in
set_option maxHeartbeats 16000000 in
theorem tune_c (g : Nat → Nat → Int) (v : Nat → Int) (hr : rowOk g = true) (hi : vecOk v = true) (d : Int) (hd : 0 ≤ d ∧ d ≤ 12) (b o c gb go gc : Nat) (w : World) (hv : VecsR w w.heap.size (some ⟨b, o, none⟩) 1 g) (hgs : VecsR w w.heap.size (some ⟨gb, go, none⟩) 1 (stG (fun _ => d))) :
    Calls Tryd.prog 103 #[.func (.func 102) #[mapV b o c] #[], .slice (some ⟨gb, go, none⟩) 1 gc, vagg v] w (Ret (one6 (imS (g 0) v 6 * d)) w) := by
  have HIm := Lib.hid (fun X (hX : Below w.heap.size w X) => image_c g v (rowOk_bd hr) (vecOk_bd hi) b o c X (hv.up hX))
  have hbd := imS_bd (rowOk_bd hr) (vecOk_bd hi) 6 (by omega)
  obtain ⟨b', o', hbo, hb0, hcl⟩ := st_cells hgs (by omega)
  obtain ⟨rfl, rfl⟩ : gb = b' ∧ go = o' := by
    have := Option.some.inj hbo
    injection this with e1 e2
    exact ⟨e1, e2⟩
  have hG := hcl 0 (by omega)
  simp only [Nat.zero_mul, Nat.add_zero] at hG
  have HG := Lib.hid hG
  clear hr hi hv hgs hcl hb0 hG hbo
  generalize imS (g 0) v 6 = a at *
  have hab := mulbd2 (x := a) (y := d) (a := 115200) (b := 12) (by omega) (by omega)
  obtain ⟨p, hp⟩ : ∃ p, p = a * d := ⟨_, rfl⟩
  rw [← hp] at hab ⊢
  have wm : IntKind.i64.wrap (a * d) = p := by rw [IntKind.wrap_i64, ← hp]; omega
  have wa : IntKind.i64.wrap p = p := by rw [IntKind.wrap_i64]; omega
  clear hp hab hbd hd
  go_enter Tryd.func103, Tryd.ntmps103
  go_upto_region 2 with fail
  refine wp_letter ?_
  intro W1 hW1
  have b1 : Below w.heap.size w W1 := by rw [hW1]; exact bl_alloc (bl_alloc (bl_alloc (bl_refl _) _) _) _
  have V1 : Blk W1 w.heap.size 27 #[.int .i64 (v 0), .int .i64 (v 1), .int .i64 (v 2), .int .i64 (v 3), .int .i64 (v 4), .int .i64 (v 5)] := by rw [hW1]; exact ((Blk.new _ _ _).alloc _).alloc _
  have Q1 : Blk W1 (w.heap.size + 1) 72 (arr1 0) := by rw [hW1]; exact (blkAt _ _ _ _ (by simp)).alloc _
  have P1 : Blk W1 (w.heap.size + 1 + 1) 72 (arr1 0) := by rw [hW1]; exact blkAt _ _ _ _ (by simp)
  obtain ⟨pq, hpq⟩ : ∃ pq, pq = w.heap.size + 1 := ⟨_, rfl⟩
  rw [← hpq] at Q1 P1 ⊢
  have HP := Lib.hid hpq
  have p_0 := V1.cell 0
  have p_1 := V1.cell 1
  have p_2 := V1.cell 2
  have p_3 := V1.cell 3
  have p_4 := V1.cell 4
  have p_5 := V1.cell 5
  have zp := V1.lt
  simp only [List.getElem?_toArray, List.getElem?_cons_zero, List.getElem?_cons_succ] at p_0 p_1 p_2 p_3 p_4 p_5
  have HB1 := Lib.hid b1
  have HQ1 := Lib.hid Q1
  have HP1 := Lib.hid P1
  have HC1 := Lib.hid (HIm.out W1 b1)
  clear hW1 b1 V1 Q1 P1 hpq
  go_wp2_with fail
  (with_reducible refine HC1.out.mono ?_)
  rintro e w2 ⟨hb2, x, cc, rfl, x_0, zx0⟩
  have HB2 := Lib.hid (bl_trans HB1.out hb2)
  have HQ2 := Lib.hid (HQ1.out.below hb2 HQ1.out.lt)
  have HP2 := Lib.hid (HP1.out.below hb2 HP1.out.lt)
  clear hb2 p_0 p_1 p_2 p_3 p_4 p_5 zp HC1 HB1 HQ1 HP1
  simp only
  go_upto_block 0 with fail
  go_wp2
  refine wp_loop_rounds 2 ?_
  rw [rounds_succ]
  obtain ⟨s_0, s_1, s_2, s_3, s_4, s_5, zs⟩ := HG.out w2 HB2.out
  go_upto_block 2 with fail
  clear s_0 s_1 s_2 s_3 s_4 s_5 zs x_0 zx0
  go_wp2
  go_loopw [25] (fun kv wr => ∃ k : Nat, k ≤ 6 ∧ kv = .int .i64 (k : Int) ∧ Hid (Below w.heap.size w wr) ∧ Hid (Blk wr pq 72 (arr1 0)) ∧ Hid (Blk wr (pq + 1) 72 (arr1 (tnE p k)))) (fun kv _ => 6 - (intOf kv).toNat)
  case atStart => exact ⟨0, by omega, rfl, HB2, HQ2, HP2⟩
  case round =>
    obtain ⟨k, hk, rfl, HB, HQ, HPk⟩ := hrel
    clear HB2 HQ2 HP2
    by_cases hk6 : k < 6
    · have HP4 := Lib.hid HPk.out
      have hn : arr1 (tnE p (k + 1)) = #[.int .i64 p, .int .i64 0, .int .i64 0, .int .i64 0, .int .i64 0, .int .i64 0] := by simp [arr1, tnE]
      have hz0 : k = 0 → arr1 (tnE p k) = arr1 0 := fun h => by rw [h]; rfl
      have wz : IntKind.i64.wrap (a * 0) = 0 := by rw [Int.mul_zero]; rfl
      have f_0 := HPk.out.frozen 0
      have f_1 := HPk.out.frozen 1
      have f_2 := HPk.out.frozen 2
      have f_3 := HPk.out.frozen 3
      have f_4 := HPk.out.frozen 4
      have f_5 := HPk.out.frozen 5
      have p_0 := HPk.out.cell 0
      have p_1 := HPk.out.cell 1
      have p_2 := HPk.out.cell 2
      have p_3 := HPk.out.cell 3
      have p_4 := HPk.out.cell 4
      have p_5 := HPk.out.cell 5
      have zp := HPk.out.lt
      clear hn hz0
      rcases lt6 hk6 with rfl | rfl | rfl | rfl | rfl | rfl
      all_goals
        clear hk hk6
        simp only [arr1, tnE, List.getElem?_toArray, List.getElem?_cons_zero, List.getElem?_cons_succ, Nat.succ_ne_zero, if_true, if_false] at p_0 p_1 p_2 p_3 p_4 p_5
        go_wp2
        go_roundw
        case rel =>
          have hBl : ∀ (i : Nat) (u : Value), Below w.heap.size w (wr.setCell ⟨pq + 1, i, none⟩ u) := fun i u => bl_set' (p := ⟨pq + 1, i, none⟩) (by have := HP.out; show w.heap.size ≤ pq + 1; omega) HB.out
          have hQf : ∀ (i : Nat) (u : Value), Blk (wr.setCell ⟨pq + 1, i, none⟩ u) pq 72 (arr1 0) := fun i u => HQ.out.far (p := ⟨pq + 1, i, none⟩) (by show pq ≠ pq + 1; omega) u
          first
            | exact ⟨1, by omega, rfl, Lib.hid (hBl _ _), Lib.hid (hQf _ _), Lib.hid (HP4.out.set_ _ _)⟩
            | exact ⟨2, by omega, rfl, Lib.hid (hBl _ _), Lib.hid (hQf _ _), Lib.hid (HP4.out.set_ _ _)⟩
            | exact ⟨3, by omega, rfl, Lib.hid (hBl _ _), Lib.hid (hQf _ _), Lib.hid (HP4.out.set_ _ _)⟩
            | exact ⟨4, by omega, rfl, Lib.hid (hBl _ _), Lib.hid (hQf _ _), Lib.hid (HP4.out.set_ _ _)⟩
            | exact ⟨5, by omega, rfl, Lib.hid (hBl _ _), Lib.hid (hQf _ _), Lib.hid (HP4.out.set_ _ _)⟩
            | exact ⟨6, by omega, rfl, Lib.hid (hBl _ _), Lib.hid (hQf _ _), Lib.hid (HP4.out.set_ _ _)⟩
        case measure => simp [intOf]
    · obtain rfl : k = 6 := by omega
      have p_0 := HPk.out.cell 0
      have p_1 := HPk.out.cell 1
      have p_2 := HPk.out.cell 2
      have p_3 := HPk.out.cell 3
      have p_4 := HPk.out.cell 4
      have p_5 := HPk.out.cell 5
      have zp := HPk.out.lt
      have q_0 := HQ.out.cell 0
      have q_1 := HQ.out.cell 1
      have q_2 := HQ.out.cell 2
      have q_3 := HQ.out.cell 3
      have q_4 := HQ.out.cell 4
      have q_5 := HQ.out.cell 5
      have f_0 := HQ.out.frozen 0
      have f_1 := HQ.out.frozen 1
      have f_2 := HQ.out.frozen 2
      have f_3 := HQ.out.frozen 3
      have f_4 := HQ.out.frozen 4
      have f_5 := HQ.out.frozen 5
      have zq := HQ.out.lt
      have ht : tnE p 6 = p := rfl
      simp only [arr1, ht, List.getElem?_toArray, List.getElem?_cons_zero, List.getElem?_cons_succ] at p_0 p_1 p_2 p_3 p_4 p_5 q_0 q_1 q_2 q_3 q_4 q_5
      clear hk hk6 ht
      go_wp2
      rw [rounds_succ]
      go_wp2
      refine bodyPost_ret (v := one6 p) (by simp only [results, Tryd.results103]; go_simp) rfl ⟨rfl, ?_⟩
      have hpq := HP.out
      exact bl_set' (by show w.heap.size ≤ pq; omega) (bl_set' (by show w.heap.size ≤ pq; omega) (bl_set' (by show w.heap.size ≤ pq; omega) (bl_set' (by show w.heap.size ≤ pq; omega) (bl_set' (by show w.heap.size ≤ pq; omega) (bl_set' (by show w.heap.size ≤ pq; omega) HB.out)))))
end Go.Proofs.YtehifkdfbiebfaaDoor
