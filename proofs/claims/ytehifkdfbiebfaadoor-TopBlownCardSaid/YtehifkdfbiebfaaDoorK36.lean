/- Horns: the distance of two pitches, and the step of Best. -/
import Derived.Test.YtehifkdfbiebfaaDoorK35
namespace Go.Proofs.YtehifkdfbiebfaaDoor
open Go Go.RowKit

def pcN6 (a b : Nat → Int) : Int := pcN (a 0) (a 1) (a 2) (a 3) (a 4) (a 5) (b 0) (b 1) (b 2) (b 3) (b 4) (b 5)
def pcE6 (a b : Nat → Int) : Int := pcE (a 0) (a 1) (a 2) (a 3) (a 4) (a 5) (b 0) (b 1) (b 2) (b 3) (b 4) (b 5)
def dvE (a b : Nat → Int) : Int := cbE (-1) (a 0) (a 1) (a 2) (a 3) (a 4) (a 5) (b 0) (b 1) (b 2) (b 3) (b 4) (b 5)
def dvF (a b : Nat → Int) (i : Nat) : Int := cb (-1) (dvE a b) (a i) (b i)
theorem PCmp6 (a b : Nat → Int) (w : World) (hP : PR w) : Calls Tryd.prog 92 #[.agg #[.int .i64 (a 0), .int .i64 (a 1), .int .i64 (a 2), .int .i64 (a 3), .int .i64 (a 4), .int .i64 (a 5)], .agg #[.int .i64 (b 0), .int .i64 (b 1), .int .i64 (b 2), .int .i64 (b 3), .int .i64 (b 4), .int .i64 (b 5)]] w (Ret (.tuple #[.int .i64 (pcN6 a b), .int .i64 (pcE6 a b)]) w) := PCmp_c _ _ _ _ _ _ _ _ _ _ _ _ w hP
theorem PDiv6 (a b : Nat → Int) (w : World) : Calls Tryd.prog 28 #[.agg #[.int .i64 (a 0), .int .i64 (a 1), .int .i64 (a 2), .int .i64 (a 3), .int .i64 (a 4), .int .i64 (a 5)], .agg #[.int .i64 (b 0), .int .i64 (b 1), .int .i64 (b 2), .int .i64 (b 3), .int .i64 (b 4), .int .i64 (b 5)]] w (Ret (.tuple #[.agg #[.int .i64 (dvF a b 0), .int .i64 (dvF a b 1), .int .i64 (dvF a b 2), .int .i64 (dvF a b 3), .int .i64 (dvF a b 4), .int .i64 (dvF a b 5)], .int .i64 (dvE a b)]) w) := PDiv_c _ _ _ _ _ _ _ _ _ _ _ _ w
/-- Whether the distance is that of the second pitch from the first. -/
def swB (a b : Nat → Int) : Bool := decide (pcE6 a b ≠ 0) || decide (pcN6 a b < 0)
def dsE (a b : Nat → Int) : Int := if swB a b then dvE b a else dvE a b
def dsF (a b : Nat → Int) (i : Nat) : Int := if swB a b then dvF b a i else dvF a b i
set_option maxRecDepth 100000 in
set_option maxHeartbeats 8000000 in
theorem dist_c (a b : Nat → Int) (w : World) (hP : PR w) : Calls Tryd.prog 91 #[.agg #[.int .i64 (a 0), .int .i64 (a 1), .int .i64 (a 2), .int .i64 (a 3), .int .i64 (a 4), .int .i64 (a 5)], .agg #[.int .i64 (b 0), .int .i64 (b 1), .int .i64 (b 2), .int .i64 (b 3), .int .i64 (b 4), .int .i64 (b 5)]] w (Ret (.tuple #[.agg #[.int .i64 (dsF a b 0), .int .i64 (dsF a b 1), .int .i64 (dsF a b 2), .int .i64 (dsF a b 3), .int .i64 (dsF a b 4), .int .i64 (dsF a b 5)], .int .i64 (dsE a b)]) w) := by
  have HC : Hid (∀ X, Below w.heap.size w X → Calls Tryd.prog 92 #[.agg #[.int .i64 (a 0), .int .i64 (a 1), .int .i64 (a 2), .int .i64 (a 3), .int .i64 (a 4), .int .i64 (a 5)], .agg #[.int .i64 (b 0), .int .i64 (b 1), .int .i64 (b 2), .int .i64 (b 3), .int .i64 (b 4), .int .i64 (b 5)]] X (Ret (.tuple #[.int .i64 (pcN6 a b), .int .i64 (pcE6 a b)]) X)) := Lib.hid (fun X hX => PCmp6 a b X (hP.up hX))
  clear hP
  have hsw : ∀ n e : Int, pcN6 a b = n → pcE6 a b = e → swB a b = (decide (e ≠ 0) || decide (n < 0)) := by rintro n e rfl rfl; rfl
  have hsw := hsw _ _ rfl rfl
  generalize pcN6 a b = nn at *
  generalize pcE6 a b = ee at *
  have h3 : ee ≠ 0 ∨ (ee = 0 ∧ nn < 0) ∨ (ee = 0 ∧ 0 ≤ nn) := by omega
  have hB1 : Below w.heap.size w w := bl_refl _
  rcases h3 with he | ⟨he, hn⟩ | ⟨he, hn⟩
  · have hs : swB a b = true := by rw [hsw]; simp [he]
    have q1 : (ee != 0) = true := by simpa using he
    have e1 : dsE a b = dvE b a := if_pos hs
    have e2 : ∀ i, dsF a b i = dvF b a i := fun i => if_pos hs
    have HD := Lib.hid (fun w => PDiv6 b a w)
    rw [e1, e2, e2, e2, e2, e2, e2]
    clear hs hsw he e1 e2 hB1
    generalize dvE b a = dE at *
    generalize dvF b a 0 = d0 at *
    generalize dvF b a 1 = d1 at *
    generalize dvF b a 2 = d2 at *
    generalize dvF b a 3 = d3 at *
    generalize dvF b a 4 = d4 at *
    generalize dvF b a 5 = d5 at *
    generalize a 0 = a0 at *
    generalize a 1 = a1 at *
    generalize a 2 = a2 at *
    generalize a 3 = a3 at *
    generalize a 4 = a4 at *
    generalize a 5 = a5 at *
    generalize b 0 = b0 at *
    generalize b 1 = b1 at *
    generalize b 2 = b2 at *
    generalize b 3 = b3 at *
    generalize b 4 = b4 at *
    generalize b 5 = b5 at *
    go_enter Tryd.func91, Tryd.ntmps91
    go_upto_region 1 with fail
    refine wp_letter ?_
    intro W1 hW1
    have B1 : Below w.heap.size w W1 := by rw [hW1]; (repeat (first | (with_reducible exact bl_refl _) | (with_reducible refine bl_drew ?_) | (with_reducible refine bl_alloc ?_ _) | (with_reducible refine bl_set' ?_ ?_; · (first | omega | (simp; done) | (simp; omega))) | (with_reducible refine bl_last (by assumption) ?_) | (with_reducible refine bl_drewN ?_ _)))
    have P1 : Blk W1 w.heap.size 72 #[.int .i64 a0, .int .i64 a1, .int .i64 a2, .int .i64 a3, .int .i64 a4, .int .i64 a5] := by rw [hW1]; exact ((Blk.new _ _ _).alloc _).alloc _
    have Q1 : Blk W1 (w.heap.size + 1) 72 #[.int .i64 b0, .int .i64 b1, .int .i64 b2, .int .i64 b3, .int .i64 b4, .int .i64 b5] := by rw [hW1]; exact (blkAt _ _ _ _ (by simp)).alloc _
    have Z1 : Blk W1 (w.heap.size + 1 + 1) 72 #[.int .i64 0, .int .i64 0, .int .i64 0, .int .i64 0, .int .i64 0, .int .i64 0] := by rw [hW1]; exact blkAt _ _ _ _ (by simp)
    have HB1 := Lib.hid B1
    have HP1 := Lib.hid P1
    have HQ1 := Lib.hid Q1
    have HZ1 := Lib.hid Z1
    have zp := P1.lt
    have zq := Q1.lt
    have p_0 := HP1.out.cell 0
    have p_1 := HP1.out.cell 1
    have p_2 := HP1.out.cell 2
    have p_3 := HP1.out.cell 3
    have p_4 := HP1.out.cell 4
    have p_5 := HP1.out.cell 5
    have q_0 := HQ1.out.cell 0
    have q_1 := HQ1.out.cell 1
    have q_2 := HQ1.out.cell 2
    have q_3 := HQ1.out.cell 3
    have q_4 := HQ1.out.cell 4
    have q_5 := HQ1.out.cell 5
    simp only [List.getElem?_toArray, List.getElem?_cons_zero, List.getElem?_cons_succ] at p_0 p_1 p_2 p_3 p_4 p_5 q_0 q_1 q_2 q_3 q_4 q_5
    clear hW1 B1 P1 Q1 Z1
    go_wp2_with fail
    (with_reducible refine (HC.out _ HB1.out).mono ?_)
    rintro en W2 ⟨rfl, hb2⟩
    have HB2 := Lib.hid (bl_trans HB1.out hb2)
    have HP2 := Lib.hid (HP1.out.below hb2 HP1.out.lt)
    have HQ2 := Lib.hid (HQ1.out.below hb2 HQ1.out.lt)
    have HZ2 := Lib.hid (HZ1.out.below hb2 HZ1.out.lt)
    clear p_0 p_1 p_2 p_3 p_4 p_5 q_0 q_1 q_2 q_3 q_4 q_5 zp zq hb2 HB1 HP1 HQ1 HZ1
    have zp := HP2.out.lt
    have zq := HQ2.out.lt
    have p_0 := HP2.out.cell 0
    have p_1 := HP2.out.cell 1
    have p_2 := HP2.out.cell 2
    have p_3 := HP2.out.cell 3
    have p_4 := HP2.out.cell 4
    have p_5 := HP2.out.cell 5
    have q_0 := HQ2.out.cell 0
    have q_1 := HQ2.out.cell 1
    have q_2 := HQ2.out.cell 2
    have q_3 := HQ2.out.cell 3
    have q_4 := HQ2.out.cell 4
    have q_5 := HQ2.out.cell 5
    simp only [List.getElem?_toArray, List.getElem?_cons_zero, List.getElem?_cons_succ] at p_0 p_1 p_2 p_3 p_4 p_5 q_0 q_1 q_2 q_3 q_4 q_5
    have fp0 := HP2.out.frozen 0
    have fp1 := HP2.out.frozen 1
    have fp2 := HP2.out.frozen 2
    have fp3 := HP2.out.frozen 3
    have fp4 := HP2.out.frozen 4
    have fp5 := HP2.out.frozen 5
    have fq0 := HQ2.out.frozen 0
    have fq1 := HQ2.out.frozen 1
    have fq2 := HQ2.out.frozen 2
    have fq3 := HQ2.out.frozen 3
    have fq4 := HQ2.out.frozen 4
    have fq5 := HQ2.out.frozen 5
    go_upto_region 4 with fail
    refine wp_letter ?_
    intro W3 hW3
    have HB3 : Hid (Below w.heap.size w W3) := Lib.hid (by
      rw [hW3]
      have hbb := HB2.out
      (repeat (first | (with_reducible exact hbb) | (with_reducible refine bl_set' ?_ ?_; · (dsimp only; omega)))))
    have HP3 : Hid (Blk W3 w.heap.size 72 #[.int .i64 b0, .int .i64 b1, .int .i64 b2, .int .i64 b3, .int .i64 b4, .int .i64 b5]) := Lib.hid (by
      rw [hW3]
      exact blk_far (by omega) (blk_far (by omega) (blk_far (by omega) (blk_far (by omega) (blk_far (by omega) (blk_far (by omega) (blk_st6 HP2.out)))))))
    have HQ3 : Hid (Blk W3 (w.heap.size + 1) 72 #[.int .i64 a0, .int .i64 a1, .int .i64 a2, .int .i64 a3, .int .i64 a4, .int .i64 a5]) := Lib.hid (by
      rw [hW3]
      exact blk_st6 (blk_far (by omega) (blk_far (by omega) (blk_far (by omega) (blk_far (by omega) (blk_far (by omega) (blk_far (by omega) HQ2.out)))))))
    have HZ3 : Hid (Blk W3 (w.heap.size + 1 + 1) 72 #[.int .i64 0, .int .i64 0, .int .i64 0, .int .i64 0, .int .i64 0, .int .i64 0]) := Lib.hid (by
      rw [hW3]
      exact blk_far (by omega) (blk_far (by omega) (blk_far (by omega) (blk_far (by omega) (blk_far (by omega) (blk_far (by omega) (blk_far (by omega) (blk_far (by omega) (blk_far (by omega) (blk_far (by omega) (blk_far (by omega) (blk_far (by omega) HZ2.out))))))))))))
    clear hW3 p_0 p_1 p_2 p_3 p_4 p_5 q_0 q_1 q_2 q_3 q_4 q_5 zp zq fp0 fp1 fp2 fp3 fp4 fp5 fq0 fq1 fq2 fq3 fq4 fq5 HB2 HP2 HQ2 HZ2
    have zp := HP3.out.lt
    have zq := HQ3.out.lt
    have p_0 := HP3.out.cell 0
    have p_1 := HP3.out.cell 1
    have p_2 := HP3.out.cell 2
    have p_3 := HP3.out.cell 3
    have p_4 := HP3.out.cell 4
    have p_5 := HP3.out.cell 5
    have q_0 := HQ3.out.cell 0
    have q_1 := HQ3.out.cell 1
    have q_2 := HQ3.out.cell 2
    have q_3 := HQ3.out.cell 3
    have q_4 := HQ3.out.cell 4
    have q_5 := HQ3.out.cell 5
    simp only [List.getElem?_toArray, List.getElem?_cons_zero, List.getElem?_cons_succ] at p_0 p_1 p_2 p_3 p_4 p_5 q_0 q_1 q_2 q_3 q_4 q_5
    have z_z := HZ3.out.lt
    have f0 := HZ3.out.frozen 0
    have f1 := HZ3.out.frozen 1
    have f2 := HZ3.out.frozen 2
    have f3 := HZ3.out.frozen 3
    have f4 := HZ3.out.frozen 4
    have f5 := HZ3.out.frozen 5
    have c0 := HZ3.out.cell 0
    have c1 := HZ3.out.cell 1
    have c2 := HZ3.out.cell 2
    have c3 := HZ3.out.cell 3
    have c4 := HZ3.out.cell 4
    have c5 := HZ3.out.cell 5
    simp only [List.getElem?_toArray, List.getElem?_cons_zero, List.getElem?_cons_succ] at c0 c1 c2 c3 c4 c5
    go_wp2_with (go_at_call 28; ((with_reducible refine (HD.out _).mono ?_); rintro e w' ⟨rfl, hb⟩; obtain ⟨hz, hc, hf⟩ := bcl hb (by first | (simp; rfl) | rfl)))
    (refine bodyPost_ret (v := .tuple #[.agg #[.int .i64 d0, .int .i64 d1, .int .i64 d2, .int .i64 d3, .int .i64 d4, .int .i64 d5], .int .i64 dE]) (by simp only [results, Tryd.results91]; go_simp) rfl ⟨rfl, ?_⟩)
    have hb3 := bl_trans HB3.out hb
    (repeat (first | (with_reducible exact hb3) | (with_reducible refine bl_set' ?_ ?_; · (dsimp only; omega))))
  · have hs : swB a b = true := by rw [hsw]; simp [hn]
    have q1 : (ee != 0) = false := by rw [he]; rfl
    have q2 : decide (nn < 0) = true := decide_eq_true hn
    have e1 : dsE a b = dvE b a := if_pos hs
    have e2 : ∀ i, dsF a b i = dvF b a i := fun i => if_pos hs
    have HD := Lib.hid (fun w => PDiv6 b a w)
    rw [e1, e2, e2, e2, e2, e2, e2]
    clear hs hsw he hn e1 e2 hB1
    generalize dvE b a = dE at *
    generalize dvF b a 0 = d0 at *
    generalize dvF b a 1 = d1 at *
    generalize dvF b a 2 = d2 at *
    generalize dvF b a 3 = d3 at *
    generalize dvF b a 4 = d4 at *
    generalize dvF b a 5 = d5 at *
    generalize a 0 = a0 at *
    generalize a 1 = a1 at *
    generalize a 2 = a2 at *
    generalize a 3 = a3 at *
    generalize a 4 = a4 at *
    generalize a 5 = a5 at *
    generalize b 0 = b0 at *
    generalize b 1 = b1 at *
    generalize b 2 = b2 at *
    generalize b 3 = b3 at *
    generalize b 4 = b4 at *
    generalize b 5 = b5 at *
    go_enter Tryd.func91, Tryd.ntmps91
    go_upto_region 1 with fail
    refine wp_letter ?_
    intro W1 hW1
    have B1 : Below w.heap.size w W1 := by rw [hW1]; (repeat (first | (with_reducible exact bl_refl _) | (with_reducible refine bl_drew ?_) | (with_reducible refine bl_alloc ?_ _) | (with_reducible refine bl_set' ?_ ?_; · (first | omega | (simp; done) | (simp; omega))) | (with_reducible refine bl_last (by assumption) ?_) | (with_reducible refine bl_drewN ?_ _)))
    have P1 : Blk W1 w.heap.size 72 #[.int .i64 a0, .int .i64 a1, .int .i64 a2, .int .i64 a3, .int .i64 a4, .int .i64 a5] := by rw [hW1]; exact ((Blk.new _ _ _).alloc _).alloc _
    have Q1 : Blk W1 (w.heap.size + 1) 72 #[.int .i64 b0, .int .i64 b1, .int .i64 b2, .int .i64 b3, .int .i64 b4, .int .i64 b5] := by rw [hW1]; exact (blkAt _ _ _ _ (by simp)).alloc _
    have Z1 : Blk W1 (w.heap.size + 1 + 1) 72 #[.int .i64 0, .int .i64 0, .int .i64 0, .int .i64 0, .int .i64 0, .int .i64 0] := by rw [hW1]; exact blkAt _ _ _ _ (by simp)
    have HB1 := Lib.hid B1
    have HP1 := Lib.hid P1
    have HQ1 := Lib.hid Q1
    have HZ1 := Lib.hid Z1
    have zp := P1.lt
    have zq := Q1.lt
    have p_0 := HP1.out.cell 0
    have p_1 := HP1.out.cell 1
    have p_2 := HP1.out.cell 2
    have p_3 := HP1.out.cell 3
    have p_4 := HP1.out.cell 4
    have p_5 := HP1.out.cell 5
    have q_0 := HQ1.out.cell 0
    have q_1 := HQ1.out.cell 1
    have q_2 := HQ1.out.cell 2
    have q_3 := HQ1.out.cell 3
    have q_4 := HQ1.out.cell 4
    have q_5 := HQ1.out.cell 5
    simp only [List.getElem?_toArray, List.getElem?_cons_zero, List.getElem?_cons_succ] at p_0 p_1 p_2 p_3 p_4 p_5 q_0 q_1 q_2 q_3 q_4 q_5
    clear hW1 B1 P1 Q1 Z1
    go_wp2_with fail
    (with_reducible refine (HC.out _ HB1.out).mono ?_)
    rintro en W2 ⟨rfl, hb2⟩
    have HB2 := Lib.hid (bl_trans HB1.out hb2)
    have HP2 := Lib.hid (HP1.out.below hb2 HP1.out.lt)
    have HQ2 := Lib.hid (HQ1.out.below hb2 HQ1.out.lt)
    have HZ2 := Lib.hid (HZ1.out.below hb2 HZ1.out.lt)
    clear p_0 p_1 p_2 p_3 p_4 p_5 q_0 q_1 q_2 q_3 q_4 q_5 zp zq hb2 HB1 HP1 HQ1 HZ1
    have zp := HP2.out.lt
    have zq := HQ2.out.lt
    have p_0 := HP2.out.cell 0
    have p_1 := HP2.out.cell 1
    have p_2 := HP2.out.cell 2
    have p_3 := HP2.out.cell 3
    have p_4 := HP2.out.cell 4
    have p_5 := HP2.out.cell 5
    have q_0 := HQ2.out.cell 0
    have q_1 := HQ2.out.cell 1
    have q_2 := HQ2.out.cell 2
    have q_3 := HQ2.out.cell 3
    have q_4 := HQ2.out.cell 4
    have q_5 := HQ2.out.cell 5
    simp only [List.getElem?_toArray, List.getElem?_cons_zero, List.getElem?_cons_succ] at p_0 p_1 p_2 p_3 p_4 p_5 q_0 q_1 q_2 q_3 q_4 q_5
    have fp0 := HP2.out.frozen 0
    have fp1 := HP2.out.frozen 1
    have fp2 := HP2.out.frozen 2
    have fp3 := HP2.out.frozen 3
    have fp4 := HP2.out.frozen 4
    have fp5 := HP2.out.frozen 5
    have fq0 := HQ2.out.frozen 0
    have fq1 := HQ2.out.frozen 1
    have fq2 := HQ2.out.frozen 2
    have fq3 := HQ2.out.frozen 3
    have fq4 := HQ2.out.frozen 4
    have fq5 := HQ2.out.frozen 5
    go_upto_region 4 with fail
    refine wp_letter ?_
    intro W3 hW3
    have HB3 : Hid (Below w.heap.size w W3) := Lib.hid (by
      rw [hW3]
      have hbb := HB2.out
      (repeat (first | (with_reducible exact hbb) | (with_reducible refine bl_set' ?_ ?_; · (dsimp only; omega)))))
    have HP3 : Hid (Blk W3 w.heap.size 72 #[.int .i64 b0, .int .i64 b1, .int .i64 b2, .int .i64 b3, .int .i64 b4, .int .i64 b5]) := Lib.hid (by
      rw [hW3]
      exact blk_far (by omega) (blk_far (by omega) (blk_far (by omega) (blk_far (by omega) (blk_far (by omega) (blk_far (by omega) (blk_st6 HP2.out)))))))
    have HQ3 : Hid (Blk W3 (w.heap.size + 1) 72 #[.int .i64 a0, .int .i64 a1, .int .i64 a2, .int .i64 a3, .int .i64 a4, .int .i64 a5]) := Lib.hid (by
      rw [hW3]
      exact blk_st6 (blk_far (by omega) (blk_far (by omega) (blk_far (by omega) (blk_far (by omega) (blk_far (by omega) (blk_far (by omega) HQ2.out)))))))
    have HZ3 : Hid (Blk W3 (w.heap.size + 1 + 1) 72 #[.int .i64 0, .int .i64 0, .int .i64 0, .int .i64 0, .int .i64 0, .int .i64 0]) := Lib.hid (by
      rw [hW3]
      exact blk_far (by omega) (blk_far (by omega) (blk_far (by omega) (blk_far (by omega) (blk_far (by omega) (blk_far (by omega) (blk_far (by omega) (blk_far (by omega) (blk_far (by omega) (blk_far (by omega) (blk_far (by omega) (blk_far (by omega) HZ2.out))))))))))))
    clear hW3 p_0 p_1 p_2 p_3 p_4 p_5 q_0 q_1 q_2 q_3 q_4 q_5 zp zq fp0 fp1 fp2 fp3 fp4 fp5 fq0 fq1 fq2 fq3 fq4 fq5 HB2 HP2 HQ2 HZ2
    have zp := HP3.out.lt
    have zq := HQ3.out.lt
    have p_0 := HP3.out.cell 0
    have p_1 := HP3.out.cell 1
    have p_2 := HP3.out.cell 2
    have p_3 := HP3.out.cell 3
    have p_4 := HP3.out.cell 4
    have p_5 := HP3.out.cell 5
    have q_0 := HQ3.out.cell 0
    have q_1 := HQ3.out.cell 1
    have q_2 := HQ3.out.cell 2
    have q_3 := HQ3.out.cell 3
    have q_4 := HQ3.out.cell 4
    have q_5 := HQ3.out.cell 5
    simp only [List.getElem?_toArray, List.getElem?_cons_zero, List.getElem?_cons_succ] at p_0 p_1 p_2 p_3 p_4 p_5 q_0 q_1 q_2 q_3 q_4 q_5
    have z_z := HZ3.out.lt
    have f0 := HZ3.out.frozen 0
    have f1 := HZ3.out.frozen 1
    have f2 := HZ3.out.frozen 2
    have f3 := HZ3.out.frozen 3
    have f4 := HZ3.out.frozen 4
    have f5 := HZ3.out.frozen 5
    have c0 := HZ3.out.cell 0
    have c1 := HZ3.out.cell 1
    have c2 := HZ3.out.cell 2
    have c3 := HZ3.out.cell 3
    have c4 := HZ3.out.cell 4
    have c5 := HZ3.out.cell 5
    simp only [List.getElem?_toArray, List.getElem?_cons_zero, List.getElem?_cons_succ] at c0 c1 c2 c3 c4 c5
    go_wp2_with (go_at_call 28; ((with_reducible refine (HD.out _).mono ?_); rintro e w' ⟨rfl, hb⟩; obtain ⟨hz, hc, hf⟩ := bcl hb (by first | (simp; rfl) | rfl)))
    (refine bodyPost_ret (v := .tuple #[.agg #[.int .i64 d0, .int .i64 d1, .int .i64 d2, .int .i64 d3, .int .i64 d4, .int .i64 d5], .int .i64 dE]) (by simp only [results, Tryd.results91]; go_simp) rfl ⟨rfl, ?_⟩)
    have hb3 := bl_trans HB3.out hb
    (repeat (first | (with_reducible exact hb3) | (with_reducible refine bl_set' ?_ ?_; · (dsimp only; omega))))
  · have hs : swB a b = false := by rw [hsw, he]; simp; omega
    have q1 : (ee != 0) = false := by rw [he]; rfl
    have q2 : decide (nn < 0) = false := decide_eq_false (by omega)
    have e1 : dsE a b = dvE a b := by unfold dsE; rw [hs]; rfl
    have e2 : ∀ i, dsF a b i = dvF a b i := fun i => by unfold dsF; rw [hs]; rfl
    have HD := Lib.hid (fun w => PDiv6 a b w)
    rw [e1, e2, e2, e2, e2, e2, e2]
    clear hs hsw he hn e1 e2 hB1
    generalize dvE a b = dE at *
    generalize dvF a b 0 = d0 at *
    generalize dvF a b 1 = d1 at *
    generalize dvF a b 2 = d2 at *
    generalize dvF a b 3 = d3 at *
    generalize dvF a b 4 = d4 at *
    generalize dvF a b 5 = d5 at *
    generalize a 0 = a0 at *
    generalize a 1 = a1 at *
    generalize a 2 = a2 at *
    generalize a 3 = a3 at *
    generalize a 4 = a4 at *
    generalize a 5 = a5 at *
    generalize b 0 = b0 at *
    generalize b 1 = b1 at *
    generalize b 2 = b2 at *
    generalize b 3 = b3 at *
    generalize b 4 = b4 at *
    generalize b 5 = b5 at *
    go_enter Tryd.func91, Tryd.ntmps91
    go_upto_region 1 with fail
    refine wp_letter ?_
    intro W1 hW1
    have B1 : Below w.heap.size w W1 := by rw [hW1]; (repeat (first | (with_reducible exact bl_refl _) | (with_reducible refine bl_drew ?_) | (with_reducible refine bl_alloc ?_ _) | (with_reducible refine bl_set' ?_ ?_; · (first | omega | (simp; done) | (simp; omega))) | (with_reducible refine bl_last (by assumption) ?_) | (with_reducible refine bl_drewN ?_ _)))
    have P1 : Blk W1 w.heap.size 72 #[.int .i64 a0, .int .i64 a1, .int .i64 a2, .int .i64 a3, .int .i64 a4, .int .i64 a5] := by rw [hW1]; exact ((Blk.new _ _ _).alloc _).alloc _
    have Q1 : Blk W1 (w.heap.size + 1) 72 #[.int .i64 b0, .int .i64 b1, .int .i64 b2, .int .i64 b3, .int .i64 b4, .int .i64 b5] := by rw [hW1]; exact (blkAt _ _ _ _ (by simp)).alloc _
    have Z1 : Blk W1 (w.heap.size + 1 + 1) 72 #[.int .i64 0, .int .i64 0, .int .i64 0, .int .i64 0, .int .i64 0, .int .i64 0] := by rw [hW1]; exact blkAt _ _ _ _ (by simp)
    have HB1 := Lib.hid B1
    have HP1 := Lib.hid P1
    have HQ1 := Lib.hid Q1
    have HZ1 := Lib.hid Z1
    have zp := P1.lt
    have zq := Q1.lt
    have p_0 := HP1.out.cell 0
    have p_1 := HP1.out.cell 1
    have p_2 := HP1.out.cell 2
    have p_3 := HP1.out.cell 3
    have p_4 := HP1.out.cell 4
    have p_5 := HP1.out.cell 5
    have q_0 := HQ1.out.cell 0
    have q_1 := HQ1.out.cell 1
    have q_2 := HQ1.out.cell 2
    have q_3 := HQ1.out.cell 3
    have q_4 := HQ1.out.cell 4
    have q_5 := HQ1.out.cell 5
    simp only [List.getElem?_toArray, List.getElem?_cons_zero, List.getElem?_cons_succ] at p_0 p_1 p_2 p_3 p_4 p_5 q_0 q_1 q_2 q_3 q_4 q_5
    clear hW1 B1 P1 Q1 Z1
    go_wp2_with fail
    (with_reducible refine (HC.out _ HB1.out).mono ?_)
    rintro en W2 ⟨rfl, hb2⟩
    have HB2 := Lib.hid (bl_trans HB1.out hb2)
    have HP2 := Lib.hid (HP1.out.below hb2 HP1.out.lt)
    have HQ2 := Lib.hid (HQ1.out.below hb2 HQ1.out.lt)
    have HZ2 := Lib.hid (HZ1.out.below hb2 HZ1.out.lt)
    clear p_0 p_1 p_2 p_3 p_4 p_5 q_0 q_1 q_2 q_3 q_4 q_5 zp zq hb2 HB1 HP1 HQ1 HZ1
    have zp := HP2.out.lt
    have zq := HQ2.out.lt
    have p_0 := HP2.out.cell 0
    have p_1 := HP2.out.cell 1
    have p_2 := HP2.out.cell 2
    have p_3 := HP2.out.cell 3
    have p_4 := HP2.out.cell 4
    have p_5 := HP2.out.cell 5
    have q_0 := HQ2.out.cell 0
    have q_1 := HQ2.out.cell 1
    have q_2 := HQ2.out.cell 2
    have q_3 := HQ2.out.cell 3
    have q_4 := HQ2.out.cell 4
    have q_5 := HQ2.out.cell 5
    simp only [List.getElem?_toArray, List.getElem?_cons_zero, List.getElem?_cons_succ] at p_0 p_1 p_2 p_3 p_4 p_5 q_0 q_1 q_2 q_3 q_4 q_5
    have HZ3 := HZ2
    have HB3 := HB2
    have z_z := HZ3.out.lt
    have f0 := HZ3.out.frozen 0
    have f1 := HZ3.out.frozen 1
    have f2 := HZ3.out.frozen 2
    have f3 := HZ3.out.frozen 3
    have f4 := HZ3.out.frozen 4
    have f5 := HZ3.out.frozen 5
    have c0 := HZ3.out.cell 0
    have c1 := HZ3.out.cell 1
    have c2 := HZ3.out.cell 2
    have c3 := HZ3.out.cell 3
    have c4 := HZ3.out.cell 4
    have c5 := HZ3.out.cell 5
    simp only [List.getElem?_toArray, List.getElem?_cons_zero, List.getElem?_cons_succ] at c0 c1 c2 c3 c4 c5
    go_wp2_with (go_at_call 28; ((with_reducible refine (HD.out _).mono ?_); rintro e w' ⟨rfl, hb⟩; obtain ⟨hz, hc, hf⟩ := bcl hb (by first | (simp; rfl) | rfl)))
    (refine bodyPost_ret (v := .tuple #[.agg #[.int .i64 d0, .int .i64 d1, .int .i64 d2, .int .i64 d3, .int .i64 d4, .int .i64 d5], .int .i64 dE]) (by simp only [results, Tryd.results91]; go_simp) rfl ⟨rfl, ?_⟩)
    have hb3 := bl_trans HB3.out hb
    (repeat (first | (with_reducible exact hb3) | (with_reducible refine bl_set' ?_ ?_; · (dsimp only; omega))))
end Go.Proofs.YtehifkdfbiebfaaDoor
