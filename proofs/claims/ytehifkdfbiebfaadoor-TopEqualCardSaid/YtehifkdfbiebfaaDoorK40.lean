/- TopEqual: the frame of one row, its rank. -/
import Derived.Test.YtehifkdfbiebfaaDoorK39
namespace Go.Proofs.YtehifkdfbiebfaaDoor
open Go Go.RowKit

theorem own1 {w : World} {base b c n : Nat} {e : TypeId} {xs : List Value} (h : w.ownsRow base e 1 (.slice (some ⟨b, 0, none⟩) n c) n xs) : base ≤ b ∧ b < w.heap.size ∧ ∀ k, k < n → w.cell? ⟨b, k, none⟩ = xs[k]? :=
  ⟨(h.lt b rfl).1, (h.lt b rfl).2, fun k hk => World.ownsRow.cellAt h k (by omega)⟩
theorem set3_cell {w : World} {pf n k : Nat} {x y z : Value} (h : n ≠ pf) : (((w.setCell ⟨pf, 1, none⟩ x).setCell ⟨pf, 2, none⟩ y).setCell ⟨pf, 3, none⟩ z).cell? ⟨n, k, none⟩ = w.cell? ⟨n, k, none⟩ :=
  World.cell?_of_block (a := ⟨n, k, none⟩) ((Below.heap_setCell _ _ _ n h).trans ((Below.heap_setCell _ _ _ n h).trans (Below.heap_setCell _ _ _ n h)))
/-- The frame, before round k of the columns. -/
def FrK (pf : Nat) (R : Value) (x : Int) (w : World) (k : Nat) : Prop :=
  (k = 0 ∧ Blk w pf (235) #[R, .slice none 0 0, .slice none 0 0, .int .i64 1]) ∨
  (0 < k ∧ ∃ ib ic jb jc, Blk w pf (235) #[R, .slice (some ⟨ib, 0, none⟩) 1 ic, .slice (some ⟨jb, 0, none⟩) 1 jc, .int .i64 x] ∧ ib < w.heap.size ∧ w.cell? ⟨ib, 0, none⟩ = some (.int .i64 0) ∧ jb < w.heap.size ∧ w.cell? ⟨jb, 0, none⟩ = some (.int .i64 0))
def col2 (k i : Nat) : Nat := if i = 0 then 0 else k
set_option maxRecDepth 100000 in
set_option maxHeartbeats 16000000 in
theorem framed_c (g : Nat → Nat → Int) (hx : g 0 0 ≠ 0) (hg : ∀ i, i < 6 → -400 ≤ g 0 i ∧ g 0 i ≤ 400) (b o c ob oc : Nat) (w : World) (hv : VecsR w w.heap.size (some ⟨b, o, none⟩) 1 g) (hob : ob < w.heap.size) (hor : ∀ k, k < 6 → w.cell? ⟨ob, k, none⟩ = some (.int .i64 (k : Int))) :
    Calls Tryd.prog 149 #[.slice (some ⟨b, o, none⟩) 1 c, .slice (some ⟨ob, 0, none⟩) 6 oc] w (fun e w' => Below w.heap.size w w' ∧ ∃ (ib ic jb jc : Nat) (d : Int), e = .returned (.agg #[.slice (some ⟨b, o, none⟩) 1 c, .slice (some ⟨ib, 0, none⟩) 1 ic, .slice (some ⟨jb, 0, none⟩) 1 jc, .int .i64 d])) := by
  obtain ⟨b', o', hbo, hb0, hcl⟩ := hv (by omega)
  obtain ⟨rfl, rfl⟩ : b = b' ∧ o = o' := by
    have := Option.some.inj hbo
    injection this with e1 e2
    exact ⟨e1, e2⟩
  have h0 := hcl 0 (by omega)
  simp only [Nat.zero_mul, Nat.add_zero] at h0
  obtain ⟨r, hr⟩ : ∃ r, r = g 0 := ⟨_, rfl⟩
  rw [← hr] at h0 hg hx
  obtain ⟨ii, hii, hi0, hi1, hi2⟩ := info_parts Tryd.infoInt1
  have HRow := Lib.hid (fun X (hX : Below w.heap.size w X) => And.intro (show b < X.heap.size by have := hX.size; omega) (fun i (hi : i < 6) => (hX.cell (p := ⟨b, o + i, none⟩) hb0).trans (h0 i hi)))
  have HOr := Lib.hid (fun X (hX : Below w.heap.size w X) => And.intro (show ob < X.heap.size by have := hX.size; omega) (fun k (hk : k < 6) => (hX.cell (p := ⟨ob, k, none⟩) hob).trans (hor k hk)))
  have HM1 := Lib.hid (fun ib ic jb jc X (hX : Below w.heap.size w X) => minor1_c (fun _ => 0) r (by omega) hx (hg 0 (by omega)) b o c ib ic jb jc X)
  have HM2 := Lib.hid (fun k (hk : k < 6) ib ic jb jc X (hX : Below w.heap.size w X) => minor2_c (col2 k) r (by unfold col2; simp) (by unfold col2; simpa using hk) (by simpa [col2] using hx) (by simpa [col2] using hg 0 (by omega)) (by simpa [col2] using hg k hk) b o c ib ic jb jc X)
  have q1 : (r 0 != 0) = true := by simpa using hx
  clear hcl hv h0 hr hg hbo hor hx
  go_enter Tryd.func149, Tryd.ntmps149
  go_upto_region 2 with fail
  refine wp_letter ?_
  intro W1 hW1
  have b1 : Below w.heap.size w W1 := by rw [hW1]; exact bl_alloc (bl_alloc (bl_refl _) _) _
  have Q1 : Blk W1 w.heap.size (235) #[.slice none 0 0, .slice none 0 0, .slice none 0 0, .int .i64 0] := by rw [hW1]; exact (Blk.new _ _ _).alloc _
  have F1 : Blk W1 (w.heap.size + 1) (235) #[.slice (some ⟨b, o, none⟩) 1 c, .slice none 0 0, .slice none 0 0, .int .i64 1] := by rw [hW1]; exact blkAt _ _ _ _ (by simp)
  obtain ⟨pq, hpq⟩ : ∃ pq, pq = w.heap.size := ⟨_, rfl⟩
  obtain ⟨pf, hpf⟩ : ∃ pf, pf = w.heap.size + 1 := ⟨_, rfl⟩
  rw [← hpf] at F1
  rw [← hpq] at Q1
  rw [← hpf, ← hpq]
  have HP := Lib.hid (And.intro hpq hpf)
  have HB1 := Lib.hid b1
  have HQ1 := Lib.hid Q1
  have HF1 : Hid (FrK pf (.slice (some ⟨b, o, none⟩) 1 c) (r 0) W1 0) := Lib.hid (Or.inl ⟨rfl, F1⟩)
  clear hW1 b1 Q1 F1 hpq hpf
  go_upto_block 0 with fail
  go_wp2
  go_loopw [16] (fun kv wr => ∃ k : Nat, k ≤ 6 ∧ kv = .int .i64 (k : Int) ∧ Hid (Below w.heap.size w wr) ∧ Hid (Blk wr pq (235) #[.slice none 0 0, .slice none 0 0, .slice none 0 0, .int .i64 0]) ∧ Hid (FrK pf (.slice (some ⟨b, o, none⟩) 1 c) (r 0) wr k)) (fun kv _ => 6 - (intOf kv).toNat)
  case atStart => exact ⟨0, by omega, rfl, HB1, HQ1, HF1⟩
  case round =>
    obtain ⟨k, hk, rfl, HB, HQ, HF⟩ := hrel
    clear HB1 HQ1 HF1
    by_cases hlt : k < 6
    · have hki : (k : Int) < 6 := by omega
      have wk : IntKind.i64.wrap ((k : Int) + 1) = (k : Int) + 1 := by rw [IntKind.wrap_i64]; omega
      obtain ⟨zo, ho⟩ := HOr.out wr HB.out
      have o_0 := ho k hlt
      clear ho
      rcases HF.out with ⟨hk0, F0⟩ | ⟨hk0, ib, ic, jb, jc, F0, zib, i_0, zjb, j_0⟩
      · have f_1 := F0.cell 1
        have f_2 := F0.cell 2
        have zf := F0.lt
        simp only [List.getElem?_toArray, List.getElem?_cons_zero, List.getElem?_cons_succ] at f_1 f_2
        have HFB := Lib.hid F0
        have HK0 := Lib.hid hk0
        clear F0 hk0 hk
        go_wp2_with fail
        (with_reducible refine (clone0_c _).mono ?_)
        rintro e W2 ⟨rfl, hb2⟩
        have HB2 := Lib.hid hb2
        have hz2 := hb2.size
        clear hb2 f_1 f_2 zf zo o_0
        simp only
        go_wp2_with (at_builtin; refine wpList_append_lies _ rfl _ _ 22 rfl wr.heap.size 3 ii (.int .i64 0) 1 8 Tryd.underlying22 hii hi0 hi1 hi2 rfl (by decide) _ _ _ rfl (World.ownsRow_nil _ _ _ _) ⟨W2.heap.size, 0, none⟩ 1 1 [.int .i64 (k : Int)] rfl rfl (World.news_of_block (World.alloc_heap_new W2 _)) (fun u hu => by simp at hu; rcases hu with rfl; rfl) (by omega) (by unfold maxLen; omega) (by omega) (by simp; omega) _ rfl ?_; intro n3 c3 Y3 own3 grw3 hl1 hlt1)
        have HG3 : Hid (Below wr.heap.size wr Y3) := Lib.hid ((bl_alloc HB2.out _).grown grw3 (by simp; omega) (fun b h => absurd (show (none : Option Nat) = some b from h) (by simp)))
        have HO3 := Lib.hid (own1 own3)
        clear own3 grw3 hl1 hlt1 hz2 HB2
        have FB3 := HFB.out.below HG3.out HFB.out.lt
        have f_1 := FB3.cell 1
        have zf := FB3.lt
        simp only [List.getElem?_toArray, List.getElem?_cons_zero, List.getElem?_cons_succ] at f_1
        have HF3 := Lib.hid FB3
        clear FB3
        refine wp_loop_rounds 2 ?_
        rw [rounds_succ]
        go_wp2_with fail
        (with_reducible refine (clone0_c _).mono ?_)
        rintro e W4 ⟨rfl, hb4⟩
        have HB4 := Lib.hid hb4
        have hz4 := hb4.size
        clear hb4 f_1 zf
        simp only
        go_wp2_with (at_builtin; refine wpList_append_lies _ rfl _ _ 22 rfl Y3.heap.size 3 ii (.int .i64 0) 1 8 Tryd.underlying22 hii hi0 hi1 hi2 rfl (by decide) _ _ _ rfl (World.ownsRow_nil _ _ _ _) ⟨W4.heap.size, 0, none⟩ 1 1 [.int .i64 0] rfl rfl (World.news_of_block (World.alloc_heap_new W4 _)) (fun u hu => by simp at hu; rcases hu with rfl; rfl) (by omega) (by unfold maxLen; omega) (by omega) (by simp; omega) _ rfl ?_; intro n5 c5 Y5 own5 grw5 hl1 hlt1)
        have HG5 : Hid (Below Y3.heap.size Y3 Y5) := Lib.hid ((bl_alloc HB4.out _).grown grw5 (by simp; omega) (fun b h => absurd (show (none : Option Nat) = some b from h) (by simp)))
        have HO5 := Lib.hid (own1 own5)
        clear own5 grw5 hl1 hlt1 hz4 HB4
        have B5 := bl_trans HB.out (bl_trans HG3.out HG5.out)
        have HM := Lib.hid (HM1.out n5 c5 n3 c3 Y5 B5 HO5.out.2.1 (fun j hj => by obtain rfl : j = 0 := (by omega); exact HO5.out.2.2 0 (by omega)) (Nat.lt_of_lt_of_le HO3.out.2.1 HG5.out.size) (fun j hj => by
          obtain rfl : j = 0 := by omega
          have h := (HG5.out.cell (p := ⟨n3, 0, none⟩) HO3.out.2.1).trans (HO3.out.2.2 0 (by omega))
          rw [HK0.out] at h
          exact h) (HRow.out Y5 B5).1 (HRow.out Y5 B5).2)
        clear B5
        go_wp2_with fail
        (with_reducible refine HM.out.mono ?_)
        rintro e W6 ⟨rfl, hb6⟩
        have B6 := bl_trans HG3.out (bl_trans HG5.out hb6)
        have F6 := HFB.out.below B6 HFB.out.lt
        have f_0 := F6.cell 0
        have f_1 := F6.cell 1
        have f_2 := F6.cell 2
        have f_3 := F6.cell 3
        have ff1 := F6.frozen 1
        have ff2 := F6.frozen 2
        have ff3 := F6.frozen 3
        have zf := F6.lt
        simp only [List.getElem?_toArray, List.getElem?_cons_zero, List.getElem?_cons_succ] at f_0 f_1 f_2 f_3
        have HB6 := Lib.hid B6
        have HB56 := Lib.hid hb6
        have HF6 := Lib.hid F6
        clear hb6 B6 F6 HM
        simp only
        go_wp2
        go_roundw
        case rel =>
          obtain ⟨hpq, hpf⟩ := HP.out
          have hzw := HB.out.size
          have hzf := HFB.out.lt
          have hz3 := HG3.out.size
          have n5' : n5 ≠ pf := by have := HO5.out.1; omega
          have n3' : n3 ≠ pf := by have := HO3.out.1; omega
          have e5 := (HB56.out.cell (p := ⟨n5, 0, none⟩) HO5.out.2.1).trans (HO5.out.2.2 0 (by omega))
          have e3 := ((bl_trans HG5.out HB56.out).cell (p := ⟨n3, 0, none⟩) HO3.out.2.1).trans (HO3.out.2.2 0 (by omega))
          have hk0 := HK0.out
          have l5 := Nat.lt_of_lt_of_le HO5.out.2.1 HB56.out.size
          have l3 := Nat.lt_of_lt_of_le HO3.out.2.1 (bl_trans HG5.out HB56.out).size
          refine ⟨k + 1, by omega, by go_num, Lib.hid ?_, Lib.hid ?_, Lib.hid (Or.inr ⟨by omega, n5, c5, n3, c3, ?_, ?_, ?_, ?_, ?_⟩)⟩
          · exact bl_set' (by show w.heap.size ≤ pf; omega) (bl_set' (by show w.heap.size ≤ pf; omega) (bl_set' (by show w.heap.size ≤ pf; omega) (bl_trans HB.out HB6.out)))
          · exact (((HQ.out.below HB6.out HQ.out.lt).far (by show pq ≠ pf; omega) _).far (by show pq ≠ pf; omega) _).far (by show pq ≠ pf; omega) _
          · exact ((HF6.out.set_ 1 _).set_ 2 _).set_ 3 _
          · simpa [World.setCell] using l5
          · rw [set3_cell n5']
            exact e5
          · simpa [World.setCell] using l3
          · rw [set3_cell n3', e3, hk0]
            rfl
        case measure => simp [intOf]; omega
      · have f_1 := F0.cell 1
        have f_2 := F0.cell 2
        have zf := F0.lt
        simp only [List.getElem?_toArray, List.getElem?_cons_zero, List.getElem?_cons_succ] at f_1 f_2
        have HFB := Lib.hid F0
        have HK0 := Lib.hid hk0
        have HI0 := Lib.hid (And.intro zib i_0)
        have HJ0 := Lib.hid (And.intro zjb j_0)
        have HC2 := Lib.hid (clone1_c jb jc 0 wr zjb j_0)
        clear F0 hk0 hk zib i_0 zjb j_0
        go_wp2_with fail
        (with_reducible refine HC2.out.mono ?_)
        rintro e W2 ⟨hb2, g2, cap2, rfl, ho2⟩
        have HO2 := Lib.hid ho2
        have HLt2 := Lib.hid (own1 ho2)
        clear ho2 HC2
        have HB2 := Lib.hid hb2
        have hz2 := hb2.size
        clear hb2 f_1 f_2 zf zo o_0
        simp only
        go_wp2_with (at_builtin; refine wpList_append_lies _ rfl _ _ 22 rfl wr.heap.size 3 ii (.int .i64 0) 1 8 Tryd.underlying22 hii hi0 hi1 hi2 rfl (by decide) _ _ _ rfl (HO2.out.alloc _) ⟨W2.heap.size, 0, none⟩ 1 1 [.int .i64 (k : Int)] rfl rfl (World.news_of_block (World.alloc_heap_new W2 _)) (fun u hu => by simp at hu; rcases hu with rfl; rfl) (by omega) (by unfold maxLen; omega) (by omega) (by simp; omega) _ rfl ?_; intro n3 c3 Y3 own3 grw3 hl1 hlt1)
        have HG3 : Hid (Below wr.heap.size wr Y3) := Lib.hid ((bl_alloc HB2.out _).grown grw3 (by simp; omega) (fun b h => Nat.le_trans HLt2.out.1 (Nat.le_of_eq (Option.some.inj h))))
        have HO3 := Lib.hid (own1 own3)
        clear own3 grw3 hl1 hlt1 hz2 HB2
        have FB3 := HFB.out.below HG3.out HFB.out.lt
        have f_1 := FB3.cell 1
        have zf := FB3.lt
        simp only [List.getElem?_toArray, List.getElem?_cons_zero, List.getElem?_cons_succ] at f_1
        have HF3 := Lib.hid FB3
        clear FB3
        refine wp_loop_rounds 2 ?_
        rw [rounds_succ]
        go_wp2_with fail
        (with_reducible refine (clone1_c ib ic 0 Y3 (Nat.lt_of_lt_of_le HI0.out.1 HG3.out.size) ((HG3.out.cell (p := ⟨ib, 0, none⟩) HI0.out.1).trans HI0.out.2)).mono ?_)
        rintro e W4 ⟨hb4, g4, cap4, rfl, ho4⟩
        have HO4 := Lib.hid ho4
        have HLt4 := Lib.hid (own1 ho4)
        clear ho4
        have HB4 := Lib.hid hb4
        have hz4 := hb4.size
        clear hb4 f_1 zf
        simp only
        go_wp2_with (at_builtin; refine wpList_append_lies _ rfl _ _ 22 rfl Y3.heap.size 3 ii (.int .i64 0) 1 8 Tryd.underlying22 hii hi0 hi1 hi2 rfl (by decide) _ _ _ rfl (HO4.out.alloc _) ⟨W4.heap.size, 0, none⟩ 1 1 [.int .i64 0] rfl rfl (World.news_of_block (World.alloc_heap_new W4 _)) (fun u hu => by simp at hu; rcases hu with rfl; rfl) (by omega) (by unfold maxLen; omega) (by omega) (by simp; omega) _ rfl ?_; intro n5 c5 Y5 own5 grw5 hl1 hlt1)
        have HG5 : Hid (Below Y3.heap.size Y3 Y5) := Lib.hid ((bl_alloc HB4.out _).grown grw5 (by simp; omega) (fun b h => Nat.le_trans HLt4.out.1 (Nat.le_of_eq (Option.some.inj h))))
        have HO5 := Lib.hid (own1 own5)
        clear own5 grw5 hl1 hlt1 hz4 HB4
        have B5 := bl_trans HB.out (bl_trans HG3.out HG5.out)
        have HM := Lib.hid (HM2.out k hlt n5 c5 n3 c3 Y5 B5 HO5.out.2.1 (fun j hj => by
          have h := HO5.out.2.2 j (by omega)
          rcases (show j = 0 ∨ j = 1 by omega) with rfl | rfl <;> exact h) (Nat.lt_of_lt_of_le HO3.out.2.1 HG5.out.size) (fun j hj => by
          have h := (HG5.out.cell (p := ⟨n3, j, none⟩) HO3.out.2.1).trans (HO3.out.2.2 j (by omega))
          rcases (show j = 0 ∨ j = 1 by omega) with rfl | rfl <;> exact h) (HRow.out Y5 B5).1 (HRow.out Y5 B5).2)
        clear B5
        go_wp2_with fail
        (with_reducible refine HM.out.mono ?_)
        rintro e W6 ⟨rfl, hb6⟩
        have HB6 := Lib.hid (bl_trans HG3.out (bl_trans HG5.out hb6))
        clear hb6 HM
        simp only
        go_wp2
        rw [rounds_succ]
        go_wp2
        go_roundw
        case rel =>
          refine ⟨k + 1, by omega, by go_num, Lib.hid (bl_trans HB.out HB6.out), Lib.hid (HQ.out.below HB6.out HQ.out.lt), Lib.hid (Or.inr ⟨by omega, ib, ic, jb, jc, HFB.out.below HB6.out HFB.out.lt, Nat.lt_of_lt_of_le HI0.out.1 HB6.out.size, (HB6.out.cell (p := ⟨ib, 0, none⟩) HI0.out.1).trans HI0.out.2, Nat.lt_of_lt_of_le HJ0.out.1 HB6.out.size, (HB6.out.cell (p := ⟨jb, 0, none⟩) HJ0.out.1).trans HJ0.out.2⟩)⟩
        case measure => simp [intOf]; omega
    · obtain rfl : k = 6 := by omega
      rcases HF.out with ⟨h, _⟩ | ⟨_, ib, ic, jb, jc, F0, _, _, _, _⟩
      · omega
      have f_0 := F0.cell 0
      have f_1 := F0.cell 1
      have f_2 := F0.cell 2
      have f_3 := F0.cell 3
      have zf := F0.lt
      have q_0 := HQ.out.cell 0
      have q_1 := HQ.out.cell 1
      have q_2 := HQ.out.cell 2
      have q_3 := HQ.out.cell 3
      have fq0 := HQ.out.frozen 0
      have fq1 := HQ.out.frozen 1
      have fq2 := HQ.out.frozen 2
      have fq3 := HQ.out.frozen 3
      have zq := HQ.out.lt
      simp only [List.getElem?_toArray, List.getElem?_cons_zero, List.getElem?_cons_succ] at f_0 f_1 f_2 f_3 q_0 q_1 q_2 q_3
      clear F0 hk hlt HF
      go_wp2
      refine bodyPost_ret (v := .agg #[.slice (some ⟨b, o, none⟩) 1 c, .slice (some ⟨ib, 0, none⟩) 1 ic, .slice (some ⟨jb, 0, none⟩) 1 jc, .int .i64 (r 0)]) (by simp only [results, Tryd.results149]; go_simp) rfl ⟨?_, ib, ic, jb, jc, _, rfl⟩
      have hpq := HP.out.1
      exact bl_set' (by show w.heap.size ≤ pq; omega) (bl_set' (by show w.heap.size ≤ pq; omega) (bl_set' (by show w.heap.size ≤ pq; omega) (bl_set' (by show w.heap.size ≤ pq; omega) HB.out)))
end Go.Proofs.YtehifkdfbiebfaaDoor
