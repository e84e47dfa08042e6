/- Horns: Sound. -/
import Derived.Test.YtehifkdfbiebfaaDoorK30
namespace Go.Proofs.YtehifkdfbiebfaaDoor
open Go Go.RowKit Go.Shelf

theorem blk_put {W : World} {g l : Nat} {t : TypeId} {cs : Array Value} {o : Obj} (h : Blk W g t cs) (hne : g ≠ l) : Blk (W.putObj l o) g t cs := (World.putObj_heap_other hne).trans h
theorem bl_put {a b : World} {B l : Nat} {o : Obj} (h : Below B a b) (hl : B ≤ l) : Below B a (b.putObj l o) := ⟨h.os, h.tape, h.output, by have := h.size; simp; omega, fun k hk => (World.putObj_heap_other (by omega)).trans (h.block k hk)⟩
theorem vecs_put {W : World} {B : Nat} {A : Option Addr} {n _ : Nat} {g : Nat → Nat → Int} {_ : Obj} {w : World} (h : VecsR w w.heap.size A n g) (hb : Below w.heap.size w W) (hB : w.heap.size ≤ B) : VecsR W B A n g := (h.below hb).more hB

/-- The blow of the number m. -/
def blwX (n m : Nat) : Nat := m / 2 ^ n + 1
def blwS (n m : Nat) : Nat := m % 2 ^ n
/-- Whether a blow is one of a horn's. -/
def inB (n : Nat) (mo x s : Int) : Bool := decide (1 ≤ x) && (decide (x ≤ mo) && (decide (0 ≤ s) && decide (s < (2 ^ n : Nat))))
theorem inB_of {n : Nat} {mo x s : Int} (h : inB n mo x s = true) : 1 ≤ x ∧ x ≤ mo ∧ 0 ≤ s ∧ s < (2 ^ n : Nat) := by simpa [inB] using h
def pV6 (f : Nat → Int) (B : Int) : Bool := pV (f 0) (f 1) (f 2) (f 3) (f 4) (f 5) B
def sdE (bs : Nat → Int) (n : Nat) (g : Nat → Nat → Int) (mo tl x s : Int) : Int :=
  if hvV (bs 0) (bs 1) (bs 2) (bs 3) (bs 4) (bs 5) n g mo tl && inB n mo x s then (if pV6 (sdF bs g n x.toNat s.toNat) 576 then 0 else 3) else 1
def sdY (bs : Nat → Int) (n : Nat) (g : Nat → Nat → Int) (mo tl x s : Int) (i : Nat) : Int := if sdE bs n g mo tl x s = 0 then sdF bs g n x.toNat s.toNat i else 0
/-- What Sound returns. -/
def sdV (bs : Nat → Int) (n : Nat) (g : Nat → Nat → Int) (mo tl x s : Int) : Value := .tuple #[.agg (cell6 (sdY bs n g mo tl x s)), .int .i64 (sdE bs n g mo tl x s)]
theorem z6 : cell6 (fun _ => 0) = #[.int .i64 0, .int .i64 0, .int .i64 0, .int .i64 0, .int .i64 0, .int .i64 0] := rfl
theorem sdV_bad {bs : Nat → Int} {n : Nat} {g : Nat → Nat → Int} {mo tl x s e : Int} (h : sdE bs n g mo tl x s = e) (he : e ≠ 0) : sdV bs n g mo tl x s = .tuple #[.agg #[.int .i64 0, .int .i64 0, .int .i64 0, .int .i64 0, .int .i64 0, .int .i64 0], .int .i64 e] := by
  unfold sdV
  rw [h, ← z6]
  rw [show cell6 (sdY bs n g mo tl x s) = cell6 (fun _ => 0) from cell6_ext fun i _ => by unfold sdY; rw [h, if_neg he]]
theorem hv_valve {b0 b1 b2 b3 b4 b5 : Int} {n : Nat} {g : Nat → Nat → Int} {mo tl : Int} (h : hvV b0 b1 b2 b3 b4 b5 n g mo tl = true) : hvG b0 b1 b2 b3 b4 b5 n mo tl = true ∧ ∀ k, k < n → pV (g k 0) (g k 1) (g k 2) (g k 3) (g k 4) (g k 5) 576 = true := by
  unfold hvV at h
  rw [Bool.and_eq_true] at h
  refine ⟨h.1, fun k hk => ?_⟩
  have h2 := all_range.1 h.2 k hk
  unfold vlOk at h2
  simp only [Bool.and_eq_true, decide_eq_true_eq] at h2
  have h3 := h2.1
  unfold pcE at h3
  cases hc : cbG (g k 0) (g k 1) (g k 2) (g k 3) (g k 4) (g k 5) 0 0 0 0 0 0
  · rw [hc] at h3; simp at h3
  · unfold cbG at hc
    simp only [Bool.and_eq_true] at hc
    exact hc.1
theorem pV_six {f : Nat → Int} {B : Int} (h : pV (f 0) (f 1) (f 2) (f 3) (f 4) (f 5) B = true) : ∀ i, i < 6 → -B ≤ f i ∧ f i ≤ B := fun i hi => by
  obtain ⟨h1, h2, h3, h4, h5, h6⟩ := pV_of h
  rcases lt6 hi with rfl | rfl | rfl | rfl | rfl | rfl
  · exact wi_of h1
  · exact wi_of h2
  · exact wi_of h3
  · exact wi_of h4
  · exact wi_of h5
  · exact wi_of h6
theorem heap_st (W : World) {b i q : Nat} (v : Value) (h : q ≠ b) : (W.setCell ⟨b, i, none⟩ v).heap[q]? = W.heap[q]? := Below.heap_setCell _ _ _ q h
attribute [local go_sem] Oper.semAt_some
set_option maxRecDepth 100000 in
set_option maxHeartbeats 8000000 in
theorem Sound_c (bs : Nat → Int) (A : Option Addr) (n cap : Nat) (g : Nat → Nat → Int) (mo tl x s : Int) (w : World) (hv : VecsR w w.heap.size A n g) (hP : PR w) (hQ : BP w) (hn : n ≤ 9223372036854775807) :
    Calls Tryd.prog 27 #[.agg #[.int .i64 (bs 0), .int .i64 (bs 1), .int .i64 (bs 2), .int .i64 (bs 3), .int .i64 (bs 4), .int .i64 (bs 5), .slice A n cap, .int .i64 mo, .int .i64 tl], .agg #[.int .i64 x, .int .i64 s]] w (Ret (sdV bs n g mo tl x s) w) := by
  have HV := Lib.hid hv
  have HP := Lib.hid hP
  have HQ := Lib.hid hQ
  clear hv hP hQ
  refine calls_of_marks Tryd.func27 rfl ?_
  simp only [Tryd.ntmps27, List.size_toArray, List.length_cons, List.length_nil, Nat.reduceAdd, Nat.reduceSub, Array.replicate_succ, Array.replicate_zero, List.push_toArray, List.append_toArray, List.nil_append, List.cons_append]
  go_upto_region 1 with fail
  refine wp_letter ?_
  intro W1 hW1
  have B1 : Below w.heap.size w W1 := by rw [hW1]; (repeat (first | (with_reducible exact bl_refl _) | (with_reducible refine bl_drew ?_) | (with_reducible refine bl_alloc ?_ _) | (with_reducible refine bl_set' ?_ ?_; · (first | omega | (simp; done) | (simp; omega))) | (with_reducible refine bl_last (by assumption) ?_) | (with_reducible refine bl_drewN ?_ _)))
  have H1 : Blk W1 w.heap.size 75 #[.int .i64 (bs 0), .int .i64 (bs 1), .int .i64 (bs 2), .int .i64 (bs 3), .int .i64 (bs 4), .int .i64 (bs 5), .slice A n cap, .int .i64 mo, .int .i64 tl] := by rw [hW1]; exact (((Blk.new _ _ _).alloc _).alloc _).alloc _
  have L1 : Blk W1 (w.heap.size + 1) 79 #[.int .i64 x, .int .i64 s] := by rw [hW1]; exact ((blkAt _ _ _ _ (by simp)).alloc _).alloc _
  have Z1 : Blk W1 (w.heap.size + 1 + 1) 72 #[.int .i64 0, .int .i64 0, .int .i64 0, .int .i64 0, .int .i64 0, .int .i64 0] := by rw [hW1]; exact (blkAt _ _ _ _ (by simp)).alloc _
  have E1 : Blk W1 (w.heap.size + 1 + 1 + 1) 42 #[.int .i64 0] := by rw [hW1]; exact blkAt _ _ _ _ (by simp)
  have HVd := Lib.hid (BValid_c (bs 0) (bs 1) (bs 2) (bs 3) (bs 4) (bs 5) A n cap g mo tl W1 (HV.out.up B1) (HP.out.up B1) hn)
  have HB1 := Lib.hid B1
  have HH1 := Lib.hid H1
  have HL1 := Lib.hid L1
  have HZ1 := Lib.hid Z1
  have HE1 := Lib.hid E1
  have g0 := H1.cell 0
  have g1 := H1.cell 1
  have g2 := H1.cell 2
  have g3 := H1.cell 3
  have g4 := H1.cell 4
  have g5 := H1.cell 5
  have g6 := H1.cell 6
  have g7 := H1.cell 7
  have g8 := H1.cell 8
  have zh := H1.lt
  simp only [List.getElem?_toArray, List.getElem?_cons_zero, List.getElem?_cons_succ] at g0 g1 g2 g3 g4 g5 g6 g7 g8
  clear hW1 B1 H1 L1 Z1 E1
  go_wp2_with fail
  (with_reducible refine HVd.out.mono ?_)
  rintro e W2 ⟨rfl, hb2⟩
  have HB2 := Lib.hid (bl_trans HB1.out hb2)
  have HH2 := Lib.hid (HH1.out.below hb2 HH1.out.lt)
  have HL2 := Lib.hid (HL1.out.below hb2 HL1.out.lt)
  have HZ2 := Lib.hid (HZ1.out.below hb2 HZ1.out.lt)
  have HE2 := Lib.hid (HE1.out.below hb2 HE1.out.lt)
  clear g0 g1 g2 g3 g4 g5 g6 g7 g8 zh hb2 HB1 HH1 HL1 HZ1 HE1 HVd
  cases hval : hvV (bs 0) (bs 1) (bs 2) (bs 3) (bs 4) (bs 5) n g mo tl
  · have hE : sdE bs n g mo tl x s = 1 := by unfold sdE; rw [hval, Bool.false_and, if_neg (by decide)]
    have z2 := HZ2.out.lt
    have z3 := HE2.out.lt
    have f0 := HZ2.out.frozen 0
    have f1 := HZ2.out.frozen 1
    have f2 := HZ2.out.frozen 2
    have f3 := HZ2.out.frozen 3
    have f4 := HZ2.out.frozen 4
    have f5 := HZ2.out.frozen 5
    have f6 := HE2.out.frozen 0
    have d0 := HZ2.out.cell 0
    have d1 := HZ2.out.cell 1
    have d2 := HZ2.out.cell 2
    have d3 := HZ2.out.cell 3
    have d4 := HZ2.out.cell 4
    have d5 := HZ2.out.cell 5
    have d6 := HE2.out.cell 0
    simp only [List.getElem?_toArray, List.getElem?_cons_zero, List.getElem?_cons_succ] at d0 d1 d2 d3 d4 d5 d6
    have HEE := Lib.hid hE
    clear hE hval
    go_wp2
    refine br_letter ?_
    intro W3 hW3
    have b3 : Below w.heap.size w W3 := by
      rw [hW3]
      have hbb := HB2.out
      (repeat (first | (with_reducible exact hbb) | (with_reducible refine bl_set' ?_ ?_; · (dsimp only; omega))))
    have Z3 : Blk W3 (w.heap.size + 1 + 1) 72 #[.int .i64 0, .int .i64 0, .int .i64 0, .int .i64 0, .int .i64 0, .int .i64 0] := by
      rw [hW3]
      exact blk_far (by omega) (blk_st6 HZ2.out)
    have E3 : Blk W3 (w.heap.size + 1 + 1 + 1) 42 #[.int .i64 1] := by
      rw [hW3]
      exact blk_s (blk_far (by omega) (blk_far (by omega) (blk_far (by omega) (blk_far (by omega) (blk_far (by omega) (blk_far (by omega) HE2.out)))))) rfl
    clear hW3 HZ2 HE2 HB2 HL2 HH2 z2 z3 f0 f1 f2 f3 f4 f5 f6 d0 d1 d2 d3 d4 d5 d6
    refine leaves_marks (B := w.heap.size) [] _ trivial (by simp) (fun w4 hb4 hc4 => ⟨sdV bs n g mo tl x s, ?_, ?_⟩)
    · have Z4 : Blk w4 (w.heap.size + 1 + 1) 72 _ := hc4 _ _ _ _ Z3
      have E4 : Blk w4 (w.heap.size + 1 + 1 + 1) 42 _ := hc4 _ _ _ _ E3
      have d0 := Z4.cell 0
      have d1 := Z4.cell 1
      have d2 := Z4.cell 2
      have d3 := Z4.cell 3
      have d4 := Z4.cell 4
      have d5 := Z4.cell 5
      have d6 := E4.cell 0
      simp only [List.getElem?_toArray, List.getElem?_cons_zero, List.getElem?_cons_succ] at d0 d1 d2 d3 d4 d5 d6
      rw [sdV_bad HEE.out (by decide)]
      simp only [results, Tryd.results27]
      go_simp
    · exact ⟨rfl, b3.trans hb4⟩
  · obtain ⟨hG, hVv⟩ := hv_valve hval
    obtain ⟨hp0, hn4, hm1, hm2, ht1, ht2⟩ := hvG_of hG
    obtain ⟨M, rfl⟩ : ∃ M : Nat, mo = (M : Int) := ⟨mo.toNat, by omega⟩
    have g0 := HH2.out.cell 0
    have g1 := HH2.out.cell 1
    have g2 := HH2.out.cell 2
    have g3 := HH2.out.cell 3
    have g4 := HH2.out.cell 4
    have g5 := HH2.out.cell 5
    have g6 := HH2.out.cell 6
    have g7 := HH2.out.cell 7
    have g8 := HH2.out.cell 8
    have zh := HH2.out.lt
    simp only [List.getElem?_toArray, List.getElem?_cons_zero, List.getElem?_cons_succ] at g0 g1 g2 g3 g4 g5 g6 g7 g8
    have HBl := Lib.hid (fun w => blows_c (bs 0) (bs 1) (bs 2) (bs 3) (bs 4) (bs 5) A n cap (M : Int) tl w)
    have HVal := Lib.hid hval
    have HVv := Lib.hid hVv
    have HP0 := Lib.hid hp0
    clear hval hVv hG hp0
    go_wp2_with (go_at_call 78; ((with_reducible refine (HBl.out _).mono ?_); rintro en w1 ⟨rfl, rfl⟩))
    refine wp_letter ?_
    intro W3 hW3
    have F3 : Blk W3 W2.heap.size 75 #[.int .i64 (bs 0), .int .i64 (bs 1), .int .i64 (bs 2), .int .i64 (bs 3), .int .i64 (bs 4), .int .i64 (bs 5), .slice A n cap, .int .i64 (M : Int), .int .i64 tl] := by rw [hW3]; exact Blk.new _ _ _
    have k3 : Below W2.heap.size W2 W3 := by rw [hW3]; exact bl_alloc (bl_refl _) _
    have HB3 := Lib.hid (bl_trans HB2.out k3)
    have HH3 := Lib.hid (HH2.out.below k3 HH2.out.lt)
    have HL3 := Lib.hid (HL2.out.below k3 HL2.out.lt)
    have HZ3 := Lib.hid (HZ2.out.below k3 HZ2.out.lt)
    have HE3 := Lib.hid (HE2.out.below k3 HE2.out.lt)
    have zz := HE2.out.lt
    have zF := F3.lt
    clear hW3 k3 HB2 HH2 HL2 HZ2 HE2 g0 g1 g2 g3 g4 g5 g6 g7 g8 zh HBl
    generalize W2.heap.size = F at *
    have HI := Lib.hid (blows1_c (bs 0) (bs 1) (bs 2) (bs 3) (bs 4) (bs 5) A n cap M tl F hn4 (by omega))
    refine wp_rangeL rfl (enters_of Tryd.func115 (by kernel_rfl) rfl) HI.out (fun _ => rfl)
      (fun k W => Hid (Below w.heap.size w W) ∧ Hid (Blk W w.heap.size 75 #[.int .i64 (bs 0), .int .i64 (bs 1), .int .i64 (bs 2), .int .i64 (bs 3), .int .i64 (bs 4), .int .i64 (bs 5), .slice A n cap, .int .i64 (M : Int), .int .i64 tl]) ∧ Hid (Blk W (w.heap.size + 1) 79 #[.int .i64 x, .int .i64 s]) ∧
        Hid (Blk W (w.heap.size + 1 + 1) 72 #[.int .i64 0, .int .i64 0, .int .i64 0, .int .i64 0, .int .i64 0, .int .i64 0]) ∧ Hid (Blk W (w.heap.size + 1 + 1 + 1) 42 #[.int .i64 0]) ∧
        Hid (Blk W F 75 #[.int .i64 (bs 0), .int .i64 (bs 1), .int .i64 (bs 2), .int .i64 (bs 3), .int .i64 (bs 4), .int .i64 (bs 5), .slice A n cap, .int .i64 (M : Int), .int .i64 tl]) ∧ Hid (∀ j, j < k → ¬ ((blwX n j : Int) = x ∧ (blwS n j : Int) = s)))
      (fun W => Hid (Below w.heap.size w W) ∧ Hid (Blk W (w.heap.size + 1 + 1) 72 (cell6 (sdY bs n g (M : Int) tl x s))) ∧ Hid (Blk W (w.heap.size + 1 + 1 + 1) 42 #[.int .i64 (sdE bs n g (M : Int) tl x s)])) ?_ ?_ ?_ ?_ ?_ ?_ ?_ ?_
    · rintro k W W' ⟨h1, h2, h3, h4, h5, h6, h7⟩ hb
      exact ⟨Lib.hid (bl_trans h1.out hb), Lib.hid (h2.out.below hb h2.out.lt), Lib.hid (h3.out.below hb h3.out.lt), Lib.hid (h4.out.below hb h4.out.lt), Lib.hid (h5.out.below hb h5.out.lt), Lib.hid (h6.out.below hb h6.out.lt), h7⟩
    · rintro k W o ⟨h1, h2, h3, h4, h5, h6, h7⟩ hlt
      exact ⟨Lib.hid (bl_put h1.out (by omega)), Lib.hid (blk_put h2.out (by omega)), Lib.hid (blk_put h3.out (by omega)), Lib.hid (blk_put h4.out (by omega)), Lib.hid (blk_put h5.out (by omega)), Lib.hid (blk_put h6.out (by omega)), h7⟩
    · rintro W o ⟨h1, h2, h3⟩ hlt
      exact ⟨Lib.hid (bl_put h1.out (by omega)), Lib.hid (blk_put h2.out (by omega)), Lib.hid (blk_put h3.out (by omega))⟩
    · rintro k W ⟨h1, h2, h3, h4, h5, h6, h7⟩
      exact h6.out
    · exact ⟨HB3, HH3, HL3, HZ3, HE3, Lib.hid F3, Lib.hid (fun j hj => absurd hj (by omega))⟩
    · clear HB3 HH3 HL3 HZ3 HE3 F3 HI
      intro l k W hk hlt
      have hX : ((k : Int) / 2 ^ n + 1) = (blwX n k : Int) := by unfold blwX; push_cast; rfl
      have hS : ((k : Int) % 2 ^ n) = (blwS n k : Int) := by unfold blwS; push_cast; rfl
      have HXe := Lib.hid hX
      have HSe := Lib.hid hS
      clear hX hS
      gi_wp2
      rw [HXe.out, HSe.out]
      refine ⟨bl_alloc (bl_refl _) _, ?_⟩
      rintro o W4 hW4 ⟨h1, h2, h3, h4, h5, h6, h7⟩ hlt4
      have X4 : Blk W4 W.heap.size 79 #[.int .i64 (blwX n k : Int), .int .i64 (blwS n k : Int)] := by rw [hW4]; exact blk_put (Blk.new _ _ _) (by omega)
      have hx16 : 1 ≤ blwX n k ∧ blwX n k ≤ M := by
        have hp0 : 0 < 2 ^ n := Nat.pow_pos (by omega)
        have hq : k / 2 ^ n < M := (Nat.div_lt_iff_lt_mul hp0).2 hk
        unfold blwX
        generalize k / 2 ^ n = q at *
        exact ⟨by omega, by omega⟩
      have hs16 : blwS n k < 2 ^ n := Nat.mod_lt _ (Nat.pow_pos (by omega))
      have h216 := two_le hn4
      clear hW4 HXe HSe
      generalize W.heap.size = xb at *
      generalize hXk : blwX n k = X at *
      generalize hSk : blwS n k = S at *
      have HXk := Lib.hid hXk
      have HSk := Lib.hid hSk
      clear hXk hSk
      have y0 := X4.cell 0
      have y1 := X4.cell 1
      have y2 := h3.out.cell 0
      have y3 := h3.out.cell 1
      have zx := X4.lt
      have zl := h3.out.lt
      simp only [List.getElem?_toArray, List.getElem?_cons_zero, List.getElem?_cons_succ] at y0 y1 y2 y3
      by_cases hm : (X : Int) = x ∧ (S : Int) = s
      · obtain ⟨rfl, rfl⟩ := hm
        have g0 := h2.out.cell 0
        have g1 := h2.out.cell 1
        have g2 := h2.out.cell 2
        have g3 := h2.out.cell 3
        have g4 := h2.out.cell 4
        have g5 := h2.out.cell 5
        have g6 := h2.out.cell 6
        have g7 := h2.out.cell 7
        have g8 := h2.out.cell 8
        have zh := h2.out.lt
        simp only [List.getElem?_toArray, List.getElem?_cons_zero, List.getElem?_cons_succ] at g0 g1 g2 g3 g4 g5 g6 g7 g8
        have hE : sdE bs n g (M : Int) tl (X : Int) (S : Int) = if pV6 (sdF bs g n X S) 576 then 0 else 3 := by
          unfold sdE
          rw [HVal.out, show inB n (M : Int) (X : Int) (S : Int) = true by
            unfold inB
            simp only [Bool.and_eq_true, decide_eq_true_eq]
            omega]
          simp
        have HSd := Lib.hid (sound_c bs A n cap g (M : Int) tl X S W4 (HV.out.up h1.out) (HQ.out.up h1.out) hn4 hx16.1 (by omega) (by omega) (pV_six HP0.out) (fun k hk => pV_six (HVv.out k hk)))
        have HY : Hid (cell6 (sdF bs g n X S) = #[.int .i64 (sdF bs g n X S 0), .int .i64 (sdF bs g n X S 1), .int .i64 (sdF bs g n X S 2), .int .i64 (sdF bs g n X S 3), .int .i64 (sdF bs g n X S 4), .int .i64 (sdF bs g n X S 5)]) := Lib.hid rfl
        have HSY : Hid (sdE bs n g (M : Int) tl (X : Int) (S : Int) = 0 → cell6 (sdY bs n g (M : Int) tl (X : Int) (S : Int)) = cell6 (sdF bs g n X S)) := Lib.hid (fun h => cell6_ext fun i _ => by unfold sdY; rw [if_pos h]; rfl)
        have HSZ : Hid (sdE bs n g (M : Int) tl (X : Int) (S : Int) ≠ 0 → cell6 (sdY bs n g (M : Int) tl (X : Int) (S : Int)) = cell6 (fun _ => 0)) := Lib.hid (fun h => cell6_ext fun i _ => by unfold sdY; rw [if_neg h])
        have HVp := Lib.hid (fun w => PVld_c (sdF bs g n X S 0) (sdF bs g n X S 1) (sdF bs g n X S 2) (sdF bs g n X S 3) (sdF bs g n X S 4) (sdF bs g n X S 5) w)
        have hSd := HSd.out
        rw [HY.out] at hSd
        have HSd2 := Lib.hid hSd
        have hpe : pV (sdF bs g n X S 0) (sdF bs g n X S 1) (sdF bs g n X S 2) (sdF bs g n X S 3) (sdF bs g n X S 4) (sdF bs g n X S 5) 576 = pV6 (sdF bs g n X S) 576 := rfl
        rw [← hpe] at hE
        have HE := Lib.hid hE
        clear hSd HSd hpe hE X4
        generalize sdF bs g n X S 0 = v0 at *
        generalize sdF bs g n X S 1 = v1 at *
        generalize sdF bs g n X S 2 = v2 at *
        generalize sdF bs g n X S 3 = v3 at *
        generalize sdF bs g n X S 4 = v4 at *
        generalize sdF bs g n X S 5 = v5 at *
        gi_wp2_with (refine ⟨trivial, ?_⟩; gi_at_call 79; refine (CallsIn.inRound _ (callsIn_wide.2 HSd2.out)).mono ?_; rintro e w5 ⟨rfl, hb5⟩; obtain ⟨hz5, hc5, hf5⟩ := bcl hb5 (by first | (simp; rfl) | rfl))
        refine ⟨trivial, ?_⟩
        refine (CallsIn.inRound _ (callsIn_wide.2 (HVp.out _))).mono ?_
        rintro e w6 ⟨rfl, hb6⟩
        have k6 : Below W4.heap.size W4 w6 := bl_trans (bl_alloc hb5 _) hb6
        have HB6 := Lib.hid (bl_trans h1.out k6)
        have HZ6 := Lib.hid (h4.out.below k6 h4.out.lt)
        have HE6 := Lib.hid (h5.out.below k6 h5.out.lt)
        have V6 : Blk w6 w5.heap.size 72 #[.int .i64 v0, .int .i64 v1, .int .i64 v2, .int .i64 v3, .int .i64 v4, .int .i64 v5] := (Blk.new _ _ _).below hb6 (Blk.new _ _ _).lt
        have hK6 : Hid (∀ q, q < W4.heap.size → w6.heap[q]? = W4.heap[q]?) := Lib.hid (fun q hq => k6.block q hq)
        have e0 := V6.cell 0
        have e1 := V6.cell 1
        have e2 := V6.cell 2
        have e3 := V6.cell 3
        have e4 := V6.cell 4
        have e5 := V6.cell 5
        have ze := V6.lt
        have z2 := HZ6.out.lt
        have z3 := HE6.out.lt
        have f0 := HZ6.out.frozen 0
        have f1 := HZ6.out.frozen 1
        have f2 := HZ6.out.frozen 2
        have f3 := HZ6.out.frozen 3
        have f4 := HZ6.out.frozen 4
        have f5 := HZ6.out.frozen 5
        have f6 := HE6.out.frozen 0
        have d0 := HZ6.out.cell 0
        have d1 := HZ6.out.cell 1
        have d2 := HZ6.out.cell 2
        have d3 := HZ6.out.cell 3
        have d4 := HZ6.out.cell 4
        have d5 := HZ6.out.cell 5
        have d6 := HE6.out.cell 0
        simp only [List.getElem?_toArray, List.getElem?_cons_zero, List.getElem?_cons_succ] at d0 d1 d2 d3 d4 d5 d6 e0 e1 e2 e3 e4 e5
        have hw5 := hb5.size
        clear g0 g1 g2 g3 g4 g5 g6 g7 g8 zh y0 y1 y2 y3 zx zl hz5 hc5 hf5 hb5 hb6 k6 V6 HSd2 HVp h1 h2 h3 h4 h5 h6 h7
        have hbb := HB6.out
        cases hpv : pV v0 v1 v2 v3 v4 v5 576
        · rw [hpv] at HE
          have hE3 : sdE bs n g (M : Int) tl (X : Int) (S : Int) = 3 := by rw [HE.out]; simp
          have hCY := HSZ.out (by rw [hE3]; decide)
          rw [z6] at hCY
          have HCY := Lib.hid hCY
          have HE3 := Lib.hid hE3
          clear hCY hE3 HSZ HSY HE hpv
          gi_wp2
          refine ⟨⟨Lib.hid ?_, Lib.hid ?_, Lib.hid ?_⟩, ?_, ?_⟩
          · (repeat (first | (with_reducible exact hbb) | (with_reducible refine bl_set' ?_ ?_; · (dsimp only; omega))))
          · rw [HCY.out]
            exact blk_far (by omega) (blk_st6 HZ6.out)
          · rw [HE3.out]
            exact blk_s (blk_far (by omega) (blk_far (by omega) (blk_far (by omega) (blk_far (by omega) (blk_far (by omega) (blk_far (by omega) HE6.out)))))) rfl
          · iterate 7 rw [heap_st _ _ (by omega)]
            exact hK6.out _ (by omega)
          · iterate 7 rw [heap_st _ _ (by omega)]
            exact hK6.out _ (by omega)
        · rw [hpv] at HE
          have hE3 : sdE bs n g (M : Int) tl (X : Int) (S : Int) = 0 := by rw [HE.out]; simp
          have hCY := HSY.out hE3
          rw [HY.out] at hCY
          have HCY := Lib.hid hCY
          have HE3 := Lib.hid hE3
          clear hCY hE3 HSZ HSY HE hpv
          gi_wp2
          refine ⟨⟨Lib.hid ?_, Lib.hid ?_, Lib.hid ?_⟩, ?_, ?_⟩
          · (repeat (first | (with_reducible exact hbb) | (with_reducible refine bl_set' ?_ ?_; · (dsimp only; omega))))
          · rw [HCY.out]
            exact blk_far (by omega) (blk_st6 HZ6.out)
          · rw [HE3.out]
            exact blk_s (blk_far (by omega) (blk_far (by omega) (blk_far (by omega) (blk_far (by omega) (blk_far (by omega) (blk_far (by omega) HE6.out)))))) rfl
          · iterate 7 rw [heap_st _ _ (by omega)]
            exact hK6.out _ (by omega)
          · iterate 7 rw [heap_st _ _ (by omega)]
            exact hK6.out _ (by omega)
      · gi_wp2
        all_goals
          refine ⟨⟨h1, h2, h3, h4, h5, h6, Lib.hid (fun j hj => ?_)⟩, rfl, rfl⟩
          by_cases ej : j = k
          · rw [ej, HXk.out, HSk.out]
            first | exact hm | (rintro ⟨q1, q2⟩; exact hm ⟨by assumption, by assumption⟩)
          · exact h7.out j (by omega)
    · rintro W ⟨h1, h2, h3, h4, h5, h6, h7⟩ hlt hD
      have hin : inB n (M : Int) x s = false := by
        cases hi : inB n (M : Int) x s
        · rfl
        · obtain ⟨q1, q2, q3, q4⟩ := inB_of hi
          obtain ⟨X, rfl⟩ : ∃ X : Nat, x = (X : Int) := ⟨x.toNat, by omega⟩
          obtain ⟨S, rfl⟩ : ∃ S : Nat, s = (S : Int) := ⟨s.toNat, by omega⟩
          obtain ⟨Y, rfl⟩ : ∃ Y, X = Y + 1 := ⟨X - 1, by omega⟩
          have hS2 : S < 2 ^ n := by omega
          have hlt2 : Y * 2 ^ n + S < M * 2 ^ n := by
            have : (Y + 1) * 2 ^ n ≤ M * 2 ^ n := Nat.mul_le_mul_right _ (by omega)
            rw [Nat.add_mul, Nat.one_mul] at this
            omega
          refine absurd ⟨?_, ?_⟩ (h7.out _ hlt2)
          · unfold blwX
            rw [Nat.mul_comm, Nat.mul_add_div (by omega), Nat.div_eq_of_lt hS2, Nat.add_zero]
          · unfold blwS
            rw [Nat.mul_comm, Nat.mul_add_mod, Nat.mod_eq_of_lt hS2]
      have hE : sdE bs n g (M : Int) tl x s = 1 := by unfold sdE; rw [hin, Bool.and_false, if_neg (by decide)]
      have HEE := Lib.hid hE
      have z2 := h4.out.lt
      have z3 := h5.out.lt
      have f0 := h4.out.frozen 0
      have f1 := h4.out.frozen 1
      have f2 := h4.out.frozen 2
      have f3 := h4.out.frozen 3
      have f4 := h4.out.frozen 4
      have f5 := h4.out.frozen 5
      have f6 := h5.out.frozen 0
      have d0 := h4.out.cell 0
      have d1 := h4.out.cell 1
      have d2 := h4.out.cell 2
      have d3 := h4.out.cell 3
      have d4 := h4.out.cell 4
      have d5 := h4.out.cell 5
      have d6 := h5.out.cell 0
      simp only [List.getElem?_toArray, List.getElem?_cons_zero, List.getElem?_cons_succ] at d0 d1 d2 d3 d4 d5 d6
      have HDD := Lib.hid hD
      clear hE hin hD h2 h3 h6 h7 F3 HVal HVv
      go_wp2
      refine br_letter ?_
      intro W5 hW5
      have b3 : Below w.heap.size w W5 := by
        rw [hW5]
        have hbb := h1.out
        (repeat (first | (with_reducible exact hbb) | (with_reducible refine bl_set' ?_ ?_; · (dsimp only; omega))))
      have Z3 : Blk W5 (w.heap.size + 1 + 1) 72 #[.int .i64 0, .int .i64 0, .int .i64 0, .int .i64 0, .int .i64 0, .int .i64 0] := by
        rw [hW5]
        exact blk_far (by omega) (blk_st6 h4.out)
      have E3 : Blk W5 (w.heap.size + 1 + 1 + 1) 42 #[.int .i64 1] := by
        rw [hW5]
        exact blk_s (blk_far (by omega) (blk_far (by omega) (blk_far (by omega) (blk_far (by omega) (blk_far (by omega) (blk_far (by omega) h5.out)))))) rfl
      have D3 : W5.heap[W3.heap.size]? = some (.deferred (some [])) := by
        rw [hW5]
        iterate 7 rw [heap_st _ _ (by omega)]
        exact HDD.out
      clear hW5 h1 h4 h5 z2 z3 f0 f1 f2 f3 f4 f5 f6 d0 d1 d2 d3 d4 d5 d6
      refine leaves_marks (B := w.heap.size) [_] _ ⟨D3, by simp, trivial⟩ (by simp; omega) (fun w4 hb4 hc4 => ⟨sdV bs n g (M : Int) tl x s, ?_, ?_⟩)
      · have Z4 : Blk w4 (w.heap.size + 1 + 1) 72 _ := hc4 _ _ _ _ Z3
        have E4 : Blk w4 (w.heap.size + 1 + 1 + 1) 42 _ := hc4 _ _ _ _ E3
        have d0 := Z4.cell 0
        have d1 := Z4.cell 1
        have d2 := Z4.cell 2
        have d3 := Z4.cell 3
        have d4 := Z4.cell 4
        have d5 := Z4.cell 5
        have d6 := E4.cell 0
        simp only [List.getElem?_toArray, List.getElem?_cons_zero, List.getElem?_cons_succ] at d0 d1 d2 d3 d4 d5 d6
        rw [sdV_bad HEE.out (by decide)]
        clear D3 hc4 Z3 E3 Z4 E4 HDD
        simp only [results, Tryd.results27]
        go_simp
      · exact ⟨rfl, b3.trans hb4⟩
    · rintro W ⟨h1, h2, h3⟩ hlt hD
      have hbb := h1.out
      have Z3 := h2.out
      have E3 := h3.out
      clear h1 h2 h3
      refine leaves_marks (B := w.heap.size) [_] _ ⟨hD, by simp, trivial⟩ (by simp; omega) (fun w4 hb4 hc4 => ⟨sdV bs n g (M : Int) tl x s, ?_, ?_⟩)
      · have Z4 : Blk w4 (w.heap.size + 1 + 1) 72 _ := hc4 _ _ _ _ Z3
        have E4 : Blk w4 (w.heap.size + 1 + 1 + 1) 42 _ := hc4 _ _ _ _ E3
        unfold cell6 at Z4
        unfold sdV cell6
        generalize sdE bs n g (M : Int) tl x s = ee at *
        generalize sdY bs n g (M : Int) tl x s 0 = y0 at *
        generalize sdY bs n g (M : Int) tl x s 1 = y1 at *
        generalize sdY bs n g (M : Int) tl x s 2 = y2 at *
        generalize sdY bs n g (M : Int) tl x s 3 = y3 at *
        generalize sdY bs n g (M : Int) tl x s 4 = y4 at *
        generalize sdY bs n g (M : Int) tl x s 5 = y5 at *
        have d0 := Z4.cell 0
        have d1 := Z4.cell 1
        have d2 := Z4.cell 2
        have d3 := Z4.cell 3
        have d4 := Z4.cell 4
        have d5 := Z4.cell 5
        have d6 := E4.cell 0
        simp only [List.getElem?_toArray, List.getElem?_cons_zero, List.getElem?_cons_succ] at d0 d1 d2 d3 d4 d5 d6
        clear hD hc4 Z3 E3 Z4 E4 HVal HVv
        simp only [results, Tryd.results27]
        go_simp
      · exact ⟨rfl, hbb.trans hb4⟩
end Go.Proofs.YtehifkdfbiebfaaDoor
