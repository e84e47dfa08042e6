/- Horns: Find. -/
import Derived.Test.YtehifkdfbiebfaaDoorK33
import Derived.Test.YtehifkdfbiebfaaDoorK27
import Derived.Test.YtehifkdfbiebfaaDoorK34
import Derived.Deep.AppendLies
namespace Go.Proofs.YtehifkdfbiebfaaDoor
open Go Go.RowKit Go.Shelf

theorem own_kept {w w' : World} {base n size : Nat} {e : TypeId} {v : Value} {xs : List Value} {row : Option Nat} (h : w.ownsRow base e size v n xs) (hg : w.grownBy w' row) (hne : ∀ b, v.ownBlock = some b → row ≠ some b) : w'.ownsRow base e size v n xs := by
  refine h.kept hg ?_
  cases hv : v.ownBlock with
  | none => exact Or.inl rfl
  | some b => exact Or.inr (fun e => hne b hv e.symm)
theorem own_put {w : World} {base n size l : Nat} {o : Obj} {e : TypeId} {v : Value} {xs : List Value} (h : w.ownsRow base e size v n xs) (hl : l < base) : (w.putObj l o).ownsRow base e size v n xs :=
  own_kept h (grown_put _ _ _) (fun b hb e => by have := (h.lt b hb).1; have := Option.some.inj e; omega)
theorem own_set {w : World} {base n size l i : Nat} {x : Value} {e : TypeId} {v : Value} {xs : List Value} (h : w.ownsRow base e size v n xs) (hl : l < base) : (w.setCell ⟨l, i, none⟩ x).ownsRow base e size v n xs :=
  own_kept h (grown_setc _ _ _ _) (fun b hb e => by have := (h.lt b hb).1; have := Option.some.inj e; omega)
theorem blk_gr {W w' : World} {o : Obj} {own : Option Nat} {q : Nat} {t : TypeId} {cs : Array Value} (h : Blk W q t cs) (hg : (W.alloc o).grownBy w' own) (hne : ∀ b, own = some b → q < b) : Blk w' q t cs :=
  (h.alloc _).same (hg.block q (by have := h.lt; simp; omega) (fun e => by have := hne q e.symm; omega))
theorem heap_gr {W w' : World} {o : Obj} {own : Option Nat} {q : Nat} (hg : (W.alloc o).grownBy w' own) (hq : q < W.heap.size) (hne : ∀ b, own = some b → q < b) : w'.heap[q]? = W.heap[q]? :=
  (hg.block q (by simp; omega) (fun e => by have := hne q e.symm; omega)).trans (Below.heap_alloc _ _ _ hq)
/-- Blows as cells. -/
def rowB (n : Nat) (l : List Nat) : List Value := l.flatMap (fun m => [.int .i64 (blwX n m : Int), .int .i64 (blwS n m : Int)])
theorem rowB_snoc (n : Nat) (l : List Nat) (m : Nat) : rowB n (l ++ [m]) = rowB n l ++ [.int .i64 (blwX n m : Int), .int .i64 (blwS n m : Int)] := by simp [rowB]
theorem rowB_get (n : Nat) : ∀ (l : List Nat) (k : Nat), k < l.length → (rowB n l)[k * 2]? = some (.int .i64 (blwX n (l.getD k 0) : Int)) ∧ (rowB n l)[k * 2 + 1]? = some (.int .i64 (blwS n (l.getD k 0) : Int))
  | [], k, h => absurd h (by simp)
  | m :: l, 0, _ => ⟨rfl, rfl⟩
  | m :: l, k + 1, h => by
    have h2 := rowB_get n l k (by simp at h; omega)
    have e1 : (rowB n (m :: l))[(k + 1) * 2]? = (rowB n l)[k * 2]? := by
      show ([Value.int .i64 (blwX n m : Int), .int .i64 (blwS n m : Int)] ++ rowB n l)[(k + 1) * 2]? = _
      rw [List.getElem?_append_right (by simp; omega)]
      congr 1
      simp
      omega
    have e2 : (rowB n (m :: l))[(k + 1) * 2 + 1]? = (rowB n l)[k * 2 + 1]? := by
      show ([Value.int .i64 (blwX n m : Int), .int .i64 (blwS n m : Int)] ++ rowB n l)[(k + 1) * 2 + 1]? = _
      rw [List.getElem?_append_right (by simp; omega)]
      congr 1
      simp
      omega
    rw [e1, e2]
    exact h2
/-- A slice of blows. -/
def BlwsR (w : World) (B : Nat) (A : Option Addr) (n : Nat) (l : List Nat) : Prop :=
  0 < l.length → ∃ b off, A = some ⟨b, off, none⟩ ∧ b < B ∧ ∀ k, k < l.length → w.cell? ⟨b, off + k * 2, none⟩ = some (.int .i64 (blwX n (l.getD k 0) : Int)) ∧ w.cell? ⟨b, off + k * 2 + 1, none⟩ = some (.int .i64 (blwS n (l.getD k 0) : Int))
theorem BlwsR.up {w w' : World} {A : Option Addr} {n : Nat} {l : List Nat} (h : BlwsR w w.heap.size A n l) (hb : Below w.heap.size w w') : BlwsR w' w'.heap.size A n l := fun h0 => by
  obtain ⟨b, o, e, hlt, hc⟩ := h h0
  exact ⟨b, o, e, Nat.lt_of_lt_of_le hlt hb.size, fun k hk => ⟨(hb.cell (p := ⟨b, o + k * 2, none⟩) hlt).trans (hc k hk).1, (hb.cell (p := ⟨b, o + k * 2 + 1, none⟩) hlt).trans (hc k hk).2⟩⟩
theorem blws_of_own {w : World} {base n : Nat} {e : TypeId} {v : Value} {l : List Nat} (h : w.ownsRow base e 2 v l.length (rowB n l)) : ∃ A c, v = .slice A l.length c ∧ BlwsR w w.heap.size A n l := by
  have h' := h
  rcases h.2 with ⟨h0, h1⟩ | ⟨b, cap, cur, rfl, hb, hh, _⟩
  · exact ⟨none, 0, by rw [h0, h1], fun h2 => by omega⟩
  · refine ⟨_, cap, rfl, fun _ => ⟨b, 0, rfl, (Array.getElem?_eq_some_iff.1 hh).1, fun k hk => ?_⟩⟩
    obtain ⟨q1, q2⟩ := rowB_get n l k hk
    exact ⟨by rw [Nat.zero_add]; exact (World.ownsRow.cellAt h' (k * 2) (by omega)).trans q1, by rw [Nat.zero_add]; exact (World.ownsRow.cellAt h' (k * 2 + 1) (by omega)).trans q2⟩
/-- Whether a blow plays the pitch a. -/
def fdOk (bs : Nat → Int) (n : Nat) (g : Nat → Nat → Int) (tl : Int) (a : Nat → Int) (m : Nat) : Bool := decide (nrE a (sdF bs g n (blwX n m) (blwS n m)) tl = 0) && decide (nrN a (sdF bs g n (blwX n m) (blwS n m)) tl = 1)
def fdL (bs : Nat → Int) (n : Nat) (g : Nat → Nat → Int) (tl : Int) (a : Nat → Int) (K : Nat) : List Nat := (List.range K).filter (fdOk bs n g tl a)
theorem fdL_yes {bs : Nat → Int} {n : Nat} {g : Nat → Nat → Int} {tl : Int} {a : Nat → Int} {k : Nat} (h : fdOk bs n g tl a k = true) : fdL bs n g tl a (k + 1) = fdL bs n g tl a k ++ [k] := by
  simp [fdL, List.range_succ, List.filter_append, h]
theorem fdL_no {bs : Nat → Int} {n : Nat} {g : Nat → Nat → Int} {tl : Int} {a : Nat → Int} {k : Nat} (h : fdOk bs n g tl a k = false) : fdL bs n g tl a (k + 1) = fdL bs n g tl a k := by
  simp [fdL, List.range_succ, List.filter_append, h]
theorem fdL_len (bs : Nat → Int) (n : Nat) (g : Nat → Nat → Int) (tl : Int) (a : Nat → Int) (K : Nat) : (fdL bs n g tl a K).length ≤ K := by
  have := List.length_filter_le (fdOk bs n g tl a) (List.range K)
  simpa [fdL] using this
def at12 (v : Nat → Int) (i : Nat) : Int := v i * 12
def fdG (bs : Nat → Int) (n : Nat) (g : Nat → Nat → Int) (mo tl : Int) (v : Nat → Int) : Bool := pV6 v 48 && hvV (bs 0) (bs 1) (bs 2) (bs 3) (bs 4) (bs 5) n g mo tl
/-- What Find returns. -/
def FdP (bs : Nat → Int) (n : Nat) (g : Nat → Nat → Int) (mo tl : Int) (v : Nat → Int) (w : World) (e : Ending) (w' : World) : Prop :=
  Below w.heap.size w w' ∧ ((fdG bs n g mo tl v = false ∧ e = .returned (.tuple #[.slice none 0 0, .int .i64 1])) ∨
    (fdG bs n g mo tl v = true ∧ ∃ A c, e = .returned (.tuple #[.slice A (fdL bs n g tl (at12 v) (mo.toNat * 2 ^ n)).length c, .int .i64 0]) ∧ BlwsR w' w'.heap.size A n (fdL bs n g tl (at12 v) (mo.toNat * 2 ^ n))))
theorem Tryd.infoBlow : (Tryd.prog.info? 79).map (fun i => (i.zero, i.size, i.bytes)) = some (some (.agg #[.int .i64 0, .int .i64 0]), 2, 16) := by kernel_rfl
attribute [local go_sem] Oper.semAt_some
set_option maxRecDepth 100000 in
set_option maxHeartbeats 8000000 in
theorem Find_c (bs : Nat → Int) (A : Option Addr) (n cap : Nat) (g : Nat → Nat → Int) (mo tl : Int) (v : Nat → Int) (w : World) (hv : VecsR w w.heap.size A n g) (hP : PR w) (hQ : BP w) (hL : LG w) (hn : n ≤ 9223372036854775807) :
    Calls Tryd.prog 35 #[.agg #[.int .i64 (bs 0), .int .i64 (bs 1), .int .i64 (bs 2), .int .i64 (bs 3), .int .i64 (bs 4), .int .i64 (bs 5), .slice A n cap, .int .i64 mo, .int .i64 tl], .agg #[.int .i64 (v 0), .int .i64 (v 1), .int .i64 (v 2), .int .i64 (v 3), .int .i64 (v 4), .int .i64 (v 5)]] w (FdP bs n g mo tl v w) := by
  obtain ⟨i0, hi, hz0, hz1, hz2⟩ := info_parts Tryd.infoBlow
  have HV := Lib.hid hv
  have HP := Lib.hid hP
  have HQ := Lib.hid hQ
  have HL := Lib.hid hL
  have hOf := fun w => POf_c (v 0) (v 1) (v 2) (v 3) (v 4) (v 5) w
  unfold ofV at hOf
  clear hv hP hQ hL
  refine calls_of_marks Tryd.func35 rfl ?_
  simp only [Tryd.ntmps35, List.size_toArray, List.length_cons, List.length_nil, Nat.reduceAdd, Nat.reduceSub, Array.replicate_succ, Array.replicate_zero, List.push_toArray, List.append_toArray, List.nil_append, List.cons_append]
  go_upto_region 1 with fail
  refine wp_letter ?_
  intro W1 hW1
  have B1 : Below w.heap.size w W1 := by rw [hW1]; (repeat (first | (with_reducible exact bl_refl _) | (with_reducible refine bl_drew ?_) | (with_reducible refine bl_alloc ?_ _) | (with_reducible refine bl_set' ?_ ?_; · (first | omega | (simp; done) | (simp; omega))) | (with_reducible refine bl_last (by assumption) ?_) | (with_reducible refine bl_drewN ?_ _)))
  have H1 : Blk W1 w.heap.size 75 #[.int .i64 (bs 0), .int .i64 (bs 1), .int .i64 (bs 2), .int .i64 (bs 3), .int .i64 (bs 4), .int .i64 (bs 5), .slice A n cap, .int .i64 mo, .int .i64 tl] := by rw [hW1]; exact (Blk.new _ _ _).alloc _
  have V1 : Blk W1 (w.heap.size + 1) 27 #[.int .i64 (v 0), .int .i64 (v 1), .int .i64 (v 2), .int .i64 (v 3), .int .i64 (v 4), .int .i64 (v 5)] := by rw [hW1]; exact blkAt _ _ _ _ (by simp)
  have HB1 := Lib.hid B1
  have HH1 := Lib.hid H1
  have g0 := V1.cell 0
  have g1 := V1.cell 1
  have g2 := V1.cell 2
  have g3 := V1.cell 3
  have g4 := V1.cell 4
  have g5 := V1.cell 5
  have zh := V1.lt
  simp only [List.getElem?_toArray, List.getElem?_cons_zero, List.getElem?_cons_succ] at g0 g1 g2 g3 g4 g5
  clear hW1 B1 H1 V1
  cases hpv : pV (v 0) (v 1) (v 2) (v 3) (v 4) (v 5) 48
  · rw [hpv] at hOf
    simp only [Bool.false_eq_true, if_false] at hOf
    have HOf := Lib.hid hOf
    have HG : Hid (fdG bs n g mo tl v = false) := Lib.hid (by unfold fdG pV6; rw [hpv, Bool.false_and])
    clear hOf hpv
    go_wp2_with (go_at_call 34; ((with_reducible refine (HOf.out _).mono ?_); rintro e w' ⟨rfl, hb⟩; obtain ⟨hz, hc, hf⟩ := bcl hb (by first | (simp; rfl) | rfl)))
    refine br_letter ?_
    intro W3 hW3
    have b3 : Below w.heap.size w W3 := by rw [hW3]; exact bl_alloc (bl_trans HB1.out hb) _
    clear hW3 hb hz hc hf g0 g1 g2 g3 g4 g5 zh HH1
    refine leaves_marks (B := w.heap.size) [] _ trivial (by simp) (fun w4 hb4 hc4 => ⟨.tuple #[.slice none 0 0, .int .i64 1], ?_, ?_⟩)
    · simp only [results, Tryd.results35]
      go_simp
    · exact ⟨b3.trans hb4, .inl ⟨HG.out, rfl⟩⟩
  · rw [hpv] at hOf
    simp only [if_true] at hOf
    have HOf := Lib.hid hOf
    have HPv := Lib.hid hpv
    clear hOf hpv
    go_wp2_with fail
    (with_reducible refine (HOf.out _).mono ?_)
    rintro e W2 ⟨rfl, hb2⟩
    obtain ⟨hz, hc, hf⟩ := bcl hb2 (by first | (simp; rfl) | rfl)
    go_upto_region 2 with fail
    refine wp_letter ?_
    intro W3 hW3
    have k3 : Below W1.heap.size W1 W3 := by rw [hW3]; exact bl_alloc hb2 _
    have HB3 := Lib.hid (bl_trans HB1.out k3)
    have HH3 := Lib.hid (HH1.out.below k3 HH1.out.lt)
    have HA3 : Hid (Blk W3 W2.heap.size 72 (cell6 (at12 v))) := Lib.hid (by rw [hW3]; exact Blk.new _ _ _)
    have hw2 := hb2.size
    clear hW3 k3 hb2 hz hc hf g0 g1 g2 g3 g4 g5 HOf
    generalize W2.heap.size = ab at *
    have HVd := Lib.hid (BValid_c (bs 0) (bs 1) (bs 2) (bs 3) (bs 4) (bs 5) A n cap g mo tl W3 (HV.out.up HB3.out) (HP.out.up HB3.out) hn)
    have g0 := HH3.out.cell 0
    have g1 := HH3.out.cell 1
    have g2 := HH3.out.cell 2
    have g3 := HH3.out.cell 3
    have g4 := HH3.out.cell 4
    have g5 := HH3.out.cell 5
    have g6 := HH3.out.cell 6
    have g7 := HH3.out.cell 7
    have g8 := HH3.out.cell 8
    have zh3 := HH3.out.lt
    simp only [List.getElem?_toArray, List.getElem?_cons_zero, List.getElem?_cons_succ] at g0 g1 g2 g3 g4 g5 g6 g7 g8
    clear HH1 HB1
    go_wp2_with fail
    (with_reducible refine HVd.out.mono ?_)
    rintro e W4 ⟨rfl, hb4⟩
    have HB4 := Lib.hid (bl_trans HB3.out hb4)
    have HH4 := Lib.hid (HH3.out.below hb4 HH3.out.lt)
    have HA4 := Lib.hid (HA3.out.below hb4 HA3.out.lt)
    clear g0 g1 g2 g3 g4 g5 g6 g7 g8 zh3 hb4 HB3 HH3 HA3 HVd
    cases hval : hvV (bs 0) (bs 1) (bs 2) (bs 3) (bs 4) (bs 5) n g mo tl
    · have HG : Hid (fdG bs n g mo tl v = false) := Lib.hid (by unfold fdG; rw [hval, Bool.and_false])
      clear hval HH4 HA4
      go_wp2
      refine leaves_marks (B := w.heap.size) [] _ trivial (by simp) (fun w4 hb4 hc4 => ⟨.tuple #[.slice none 0 0, .int .i64 1], ?_, ?_⟩)
      · simp only [results, Tryd.results35]
        go_simp
      · exact ⟨HB4.out.trans hb4, .inl ⟨HG.out, rfl⟩⟩
    · obtain ⟨hG, hVv⟩ := hv_valve hval
      obtain ⟨hp0, hn4, hm1, hm2, ht1, ht2⟩ := hvG_of hG
      have HG : Hid (fdG bs n g mo tl v = true) := Lib.hid (by unfold fdG pV6; rw [HPv.out, hval]; rfl)
      obtain ⟨M, rfl⟩ : ∃ M : Nat, mo = (M : Int) := ⟨mo.toNat, by omega⟩
      have HBl := Lib.hid (fun w => blows_c (bs 0) (bs 1) (bs 2) (bs 3) (bs 4) (bs 5) A n cap (M : Int) tl w)
      have HVv := Lib.hid hVv
      have HP0 := Lib.hid hp0
      clear hval hVv hG hp0
      go_upto_region 5 with fail
      refine wp_letter ?_
      intro W5 hW5
      have k5 : Below W4.heap.size W4 W5 := by rw [hW5]; exact bl_alloc (bl_refl _) _
      have HB5 := Lib.hid (bl_trans HB4.out k5)
      have HH5 := Lib.hid (HH4.out.below k5 HH4.out.lt)
      have HA5 := Lib.hid (HA4.out.below k5 HA4.out.lt)
      have HS5 : Hid (Blk W5 W4.heap.size 91 #[.slice none 0 0]) := Lib.hid (by rw [hW5]; exact Blk.new _ _ _)
      have z4 := HA4.out.lt
      have z4' := HB4.out.size
      clear hW5 k5 HB4 HH4 HA4
      generalize W4.heap.size = sb at *
      have g0 := HH5.out.cell 0
      have g1 := HH5.out.cell 1
      have g2 := HH5.out.cell 2
      have g3 := HH5.out.cell 3
      have g4 := HH5.out.cell 4
      have g5 := HH5.out.cell 5
      have g6 := HH5.out.cell 6
      have g7 := HH5.out.cell 7
      have g8 := HH5.out.cell 8
      have zh5 := HH5.out.lt
      simp only [List.getElem?_toArray, List.getElem?_cons_zero, List.getElem?_cons_succ] at g0 g1 g2 g3 g4 g5 g6 g7 g8
      go_wp2_with (go_at_call 78; ((with_reducible refine (HBl.out _).mono ?_); rintro en w1 ⟨rfl, rfl⟩))
      refine wp_letter ?_
      intro W6 hW6
      have F6 : Blk W6 W5.heap.size 75 #[.int .i64 (bs 0), .int .i64 (bs 1), .int .i64 (bs 2), .int .i64 (bs 3), .int .i64 (bs 4), .int .i64 (bs 5), .slice A n cap, .int .i64 (M : Int), .int .i64 tl] := by rw [hW6]; exact Blk.new _ _ _
      have k6 : Below W5.heap.size W5 W6 := by rw [hW6]; exact bl_alloc (bl_refl _) _
      have HB6 := Lib.hid (bl_trans HB5.out k6)
      have HH6 := Lib.hid (HH5.out.below k6 HH5.out.lt)
      have HA6 := Lib.hid (HA5.out.below k6 HA5.out.lt)
      have HS6 := Lib.hid (HS5.out.below k6 HS5.out.lt)
      have z5 := HS5.out.lt
      have zF := F6.lt
      clear hW6 k6 HB5 HH5 HA5 HS5 g0 g1 g2 g3 g4 g5 g6 g7 g8 zh5 HBl
      generalize W5.heap.size = F at *
      have HI := Lib.hid (blows1_c (bs 0) (bs 1) (bs 2) (bs 3) (bs 4) (bs 5) A n cap M tl F hn4 (by omega))
      refine wp_rangeL rfl (enters_of Tryd.func115 (by kernel_rfl) rfl) HI.out (fun _ => rfl)
        (fun k W => ∃ vo : Value, Hid (Below w.heap.size w W) ∧ Hid (Blk W w.heap.size 75 #[.int .i64 (bs 0), .int .i64 (bs 1), .int .i64 (bs 2), .int .i64 (bs 3), .int .i64 (bs 4), .int .i64 (bs 5), .slice A n cap, .int .i64 (M : Int), .int .i64 tl]) ∧ Hid (Blk W ab 72 (cell6 (at12 v))) ∧ Hid (Blk W sb 91 #[vo]) ∧
          Hid (Blk W F 75 #[.int .i64 (bs 0), .int .i64 (bs 1), .int .i64 (bs 2), .int .i64 (bs 3), .int .i64 (bs 4), .int .i64 (bs 5), .slice A n cap, .int .i64 (M : Int), .int .i64 tl]) ∧ Hid (W.ownsRow (W6.heap.size + 2) 79 2 vo (fdL bs n g tl (at12 v) k).length (rowB n (fdL bs n g tl (at12 v) k))))
        (fun _ => False) ?_ ?_ ?_ ?_ ?_ ?_ ?_ ?_
      · rintro k W W' ⟨vo, h1, h2, h3, h4, h5, h6⟩ hb
        exact ⟨vo, Lib.hid (bl_trans h1.out hb), Lib.hid (h2.out.below hb h2.out.lt), Lib.hid (h3.out.below hb h3.out.lt), Lib.hid (h4.out.below hb h4.out.lt), Lib.hid (h5.out.below hb h5.out.lt), Lib.hid (own_below h6.out hb)⟩
      · rintro k W o ⟨vo, h1, h2, h3, h4, h5, h6⟩ hlt
        exact ⟨vo, Lib.hid (bl_put h1.out (by omega)), Lib.hid (blk_put h2.out (by omega)), Lib.hid (blk_put h3.out (by omega)), Lib.hid (blk_put h4.out (by omega)), Lib.hid (blk_put h5.out (by omega)), Lib.hid (own_put h6.out (by omega))⟩
      · rintro W o h hlt
        exact h.elim
      · rintro k W ⟨vo, h1, h2, h3, h4, h5, h6⟩
        exact h5.out
      · exact ⟨_, HB6, HH6, HA6, HS6, Lib.hid F6, Lib.hid (World.ownsRow_nil _ _ _ _)⟩
      · clear HB6 HH6 HA6 HS6 F6 HI
        intro l k W hk hlt
        have hX : ((k : Int) / 2 ^ n + 1) = (blwX n k : Int) := by unfold blwX; push_cast; rfl
        have hS : ((k : Int) % 2 ^ n) = (blwS n k : Int) := by unfold blwS; push_cast; rfl
        have HXe := Lib.hid hX
        have HSe := Lib.hid hS
        clear hX hS
        gi_wp2
        rw [HXe.out, HSe.out]
        refine ⟨bl_alloc (bl_refl _) _, ?_⟩
        rintro o W8 hW8 ⟨vo, h1, h2, h3, h4, h5, h6⟩ hlt8
        have X8 : Blk W8 W.heap.size 79 #[.int .i64 (blwX n k : Int), .int .i64 (blwS n k : Int)] := by rw [hW8]; exact blk_put (Blk.new _ _ _) (by omega)
        have hx16 : 1 ≤ blwX n k ∧ blwX n k ≤ M := by
          have hp0 : 0 < 2 ^ n := Nat.pow_pos (by omega)
          have hq : k / 2 ^ n < M := (Nat.div_lt_iff_lt_mul hp0).2 hk
          unfold blwX
          generalize k / 2 ^ n = q at *
          exact ⟨by omega, by omega⟩
        have hs16 : blwS n k < 2 ^ n := Nat.mod_lt _ (Nat.pow_pos (by omega))
        have h216 := two_le hn4
        clear hW8 HXe HSe
        generalize W.heap.size = xb at *
        have HSd : Hid (∀ X, Below W8.heap.size W8 X → Calls Tryd.prog 79 #[.agg #[.int .i64 (bs 0), .int .i64 (bs 1), .int .i64 (bs 2), .int .i64 (bs 3), .int .i64 (bs 4), .int .i64 (bs 5), .slice A n cap, .int .i64 (M : Int), .int .i64 tl], .agg #[.int .i64 (blwX n k : Int), .int .i64 (blwS n k : Int)]] X (Ret (.agg #[.int .i64 (sdF bs g n (blwX n k) (blwS n k) 0), .int .i64 (sdF bs g n (blwX n k) (blwS n k) 1), .int .i64 (sdF bs g n (blwX n k) (blwS n k) 2), .int .i64 (sdF bs g n (blwX n k) (blwS n k) 3), .int .i64 (sdF bs g n (blwX n k) (blwS n k) 4), .int .i64 (sdF bs g n (blwX n k) (blwS n k) 5)]) X)) :=
          Lib.hid (fun X hX => sound_c bs A n cap g (M : Int) tl _ _ X (HV.out.up (bl_trans h1.out hX)) (HQ.out.up (bl_trans h1.out hX)) hn4 hx16.1 (by omega) (by omega) (pV_six HP0.out) (fun k hk => pV_six (HVv.out k hk)))
        have HNr : Hid (∀ X, Below W8.heap.size W8 X → Calls Tryd.prog 89 #[.agg #[.int .i64 (at12 v 0), .int .i64 (at12 v 1), .int .i64 (at12 v 2), .int .i64 (at12 v 3), .int .i64 (at12 v 4), .int .i64 (at12 v 5)], .agg #[.int .i64 (sdF bs g n (blwX n k) (blwS n k) 0), .int .i64 (sdF bs g n (blwX n k) (blwS n k) 1), .int .i64 (sdF bs g n (blwX n k) (blwS n k) 2), .int .i64 (sdF bs g n (blwX n k) (blwS n k) 3), .int .i64 (sdF bs g n (blwX n k) (blwS n k) 4), .int .i64 (sdF bs g n (blwX n k) (blwS n k) 5)], .int .i64 tl] X (Ret (.tuple #[.int .i64 (nrN (at12 v) (sdF bs g n (blwX n k) (blwS n k)) tl), .int .i64 (nrE (at12 v) (sdF bs g n (blwX n k) (blwS n k)) tl)]) X)) :=
          Lib.hid (fun X hX => Near_c _ _ tl X (HL.out.up (bl_trans h1.out hX)))
        have HOk : Hid (fdOk bs n g tl (at12 v) k = (decide (nrE (at12 v) (sdF bs g n (blwX n k) (blwS n k)) tl = 0) && decide (nrN (at12 v) (sdF bs g n (blwX n k) (blwS n k)) tl = 1))) := Lib.hid rfl
        have HYes := Lib.hid (fun h => congrArg (rowB n) (fdL_yes (bs := bs) (n := n) (g := g) (tl := tl) (a := at12 v) (k := k) h))
        have HYes2 := Lib.hid (fun h => congrArg List.length (fdL_yes (bs := bs) (n := n) (g := g) (tl := tl) (a := at12 v) (k := k) h))
        have HNo := Lib.hid (fdL_no (bs := bs) (n := n) (g := g) (tl := tl) (a := at12 v) (k := k))
        have hll := fdL_len bs n g tl (at12 v) k
        have hk256 : k < 256 := by
          have : M * 2 ^ n ≤ 16 * 16 := Nat.mul_le_mul (by omega) h216
          omega
        have HRow := Lib.hid (rowB_snoc n (fdL bs n g tl (at12 v) k) k)
        have g0 := h2.out.cell 0
        have g1 := h2.out.cell 1
        have g2 := h2.out.cell 2
        have g3 := h2.out.cell 3
        have g4 := h2.out.cell 4
        have g5 := h2.out.cell 5
        have g6 := h2.out.cell 6
        have g7 := h2.out.cell 7
        have g8 := h2.out.cell 8
        have zh8 := h2.out.lt
        have x0 := X8.cell 0
        have x1 := X8.cell 1
        have zx := X8.lt
        have a0 := h3.out.cell 0
        have a1 := h3.out.cell 1
        have a2 := h3.out.cell 2
        have a3 := h3.out.cell 3
        have a4 := h3.out.cell 4
        have a5 := h3.out.cell 5
        have za := h3.out.lt
        unfold cell6 at a0 a1 a2 a3 a4 a5
        simp only [List.getElem?_toArray, List.getElem?_cons_zero, List.getElem?_cons_succ] at g0 g1 g2 g3 g4 g5 g6 g7 g8 x0 x1 a0 a1 a2 a3 a4 a5
        have HX8 := Lib.hid X8
        clear X8
        generalize nrE (at12 v) (sdF bs g n (blwX n k) (blwS n k)) tl = nE at *
        generalize nrN (at12 v) (sdF bs g n (blwX n k) (blwS n k)) tl = nN at *
        generalize sdF bs g n (blwX n k) (blwS n k) 0 = v0 at *
        generalize sdF bs g n (blwX n k) (blwS n k) 1 = v1 at *
        generalize sdF bs g n (blwX n k) (blwS n k) 2 = v2 at *
        generalize sdF bs g n (blwX n k) (blwS n k) 3 = v3 at *
        generalize sdF bs g n (blwX n k) (blwS n k) 4 = v4 at *
        generalize sdF bs g n (blwX n k) (blwS n k) 5 = v5 at *
        generalize at12 v 0 = t0 at *
        generalize at12 v 1 = t1 at *
        generalize at12 v 2 = t2 at *
        generalize at12 v 3 = t3 at *
        generalize at12 v 4 = t4 at *
        generalize at12 v 5 = t5 at *
        generalize blwX n k = X at *
        generalize blwS n k = S at *
        gi_wp2
        (refine wpIn_region_bl [0,1,2,3,4,5,6,7,8,9,10,11] [] (by kernel_rfl) (by kernel_rfl) (by kernel_rfl) (by rintro ⟨_, _, h⟩; exact h) (by rfl) ?_
         simp only [pickI, pick, List.getElem?_cons_succ, List.getElem?_cons_zero]
         iterate 12 (first
           | (refine head_val (by rfl) (by first | exact wanted_free rfl | rfl) ?_
              apply Exists.intro
              refine ⟨fun X hX => ?_, ?_⟩
              · (obtain ⟨qz, qc, qf⟩ := bcl hX.out (by first | (simp; rfl) | rfl)
                 go_simp
                 first | done | (first | (go_at_call 79; ((with_reducible refine (HSd.out _ hX.out).mono ?_); rintro e w2 ⟨rfl, hb2⟩; exact ⟨rfl, hX.trans hb2⟩)) | (go_at_call 89; ((with_reducible refine (HNr.out _ hX.out).mono ?_); rintro e w2 ⟨rfl, hb2⟩; exact ⟨rfl, hX.trans hb2⟩))) | rfl | exact ⟨rfl, rfl⟩)
              simp only [Act.put, List.setIfInBounds_toArray, List.set_cons_zero, List.set_cons_succ])
           | (refine head_pass (by rfl) ?_
              simp only [Act.put, List.setIfInBounds_toArray, List.set_cons_zero, List.set_cons_succ]))
         refine head_nil ?_
         intro w' hw'
         have hb := hw'.out
         clear hw'
         obtain ⟨hz, hc, hf⟩ := bcl hb (by first | (simp; rfl) | rfl))
        go_wp2
        have HB9 := Lib.hid (bl_trans h1.out hb)
        have HH9 := Lib.hid (h2.out.below hb h2.out.lt)
        have HA9 := Lib.hid (h3.out.below hb h3.out.lt)
        have HS9 := Lib.hid (h4.out.below hb h4.out.lt)
        have HF9 := Lib.hid (h5.out.below hb h5.out.lt)
        have HR9 := Lib.hid (own_below h6.out hb)
        have HX9 := Lib.hid (HX8.out.below hb HX8.out.lt)
        have HK9 : Hid (∀ q, q < W8.heap.size → w'.heap[q]? = W8.heap[q]?) := Lib.hid (fun q hq => hb.block q hq)
        have hsz := hb.size
        clear g0 g1 g2 g3 g4 g5 g6 g7 g8 zh8 x0 x1 zx a0 a1 a2 a3 a4 a5 za hb hz hc hf h1 h2 h3 h4 h5 h6 HX8 HSd HNr
        by_cases hE : nE = 0
        · by_cases hN : nN = 1
          · have q1 : (nE == 0) = true := by rw [hE]; rfl
            have q2 : (nN == 1) = true := by rw [hN]; rfl
            have hok : fdOk bs n g tl (at12 v) k = true := by rw [HOk.out, hE, hN]; rfl
            have HE1 := Lib.hid (HYes.out hok)
            have HE2 := Lib.hid (HYes2.out hok)
            clear hE hN hok HYes HYes2 HNo HOk
            have x0 := HX9.out.cell 0
            have x1 := HX9.out.cell 1
            have zx := HX9.out.lt
            have s0 := HS9.out.cell 0
            have zs := HS9.out.lt
            simp only [List.getElem?_toArray, List.getElem?_cons_zero, List.getElem?_cons_succ] at x0 x1 s0
            have HLt := Lib.hid (fun b hb => (HR9.out.lt b hb).1)
            gi_wp2_with (gi_at_builtin; refine wpListIn_append_lies _ rfl _ _ 91 rfl (W6.heap.size + 2) 79 i0 (.agg #[.int .i64 0, .int .i64 0]) 2 16 Tryd.underlying91 hi hz0 hz1 hz2 rfl (by decide) _ _ _ rfl (HR9.out.alloc _) ⟨w'.heap.size, 0, none⟩ 1 1 [.int .i64 (X : Int), .int .i64 (S : Int)] rfl rfl (World.news_of_block (World.alloc_heap_new w' _)) (fun u hu => by simp at hu; rcases hu with rfl | rfl <;> rfl) (by omega) (by unfold maxLen; omega) (by omega) (by simp; omega) ?_; intro gb capb w10 hown hgrow hat hlt10; have hS10 := blk_gr HS9.out hgrow (fun b hb => by have := HLt.out b hb; omega); have cX := hS10.cell 0; have fX := hS10.frozen 0; have zX := hS10.lt; simp only [List.getElem?_toArray, List.getElem?_cons_zero] at cX)
            refine ⟨⟨_, Lib.hid (bl_set' (by show w.heap.size ≤ sb; omega) ((bl_alloc HB9.out _).grown hgrow (by simp; omega) (fun b hb => by have := HLt.out b hb; omega))), Lib.hid ((blk_gr HH9.out hgrow (fun b hb => by have := HLt.out b hb; omega)).far (by show w.heap.size ≠ sb; omega) _), Lib.hid ((blk_gr HA9.out hgrow (fun b hb => by have := HLt.out b hb; omega)).far (by show ab ≠ sb; omega) _), Lib.hid (hS10.set_ 0 _), Lib.hid ((blk_gr HF9.out hgrow (fun b hb => by have := HLt.out b hb; omega)).far (by show F ≠ sb; omega) _), Lib.hid ?_⟩, ?_, ?_⟩
            · rw [HE1.out, HE2.out, HRow.out, List.length_append]
              exact own_set hown (by omega)
            · exact (heap_st _ _ (by omega)).trans ((heap_gr hgrow (by omega) (fun b hb => by have := HLt.out b hb; omega)).trans (HK9.out _ (by omega)))
            · exact (heap_st _ _ (by omega)).trans ((heap_gr hgrow (by omega) (fun b hb => by have := HLt.out b hb; omega)).trans (HK9.out _ (by omega)))
          · have q1 : (nE == 0) = true := by rw [hE]; rfl
            have q2 : (nN == 1) = false := by rw [beq_eq_false_iff_ne]; exact hN
            have hok : fdOk bs n g tl (at12 v) k = false := by rw [HOk.out]; simp [hN]
            have HE1 := Lib.hid (HNo.out hok)
            clear hE hN hok HYes HYes2 HNo HOk
            gi_wp2
            refine ⟨⟨_, HB9, HH9, HA9, HS9, HF9, Lib.hid (by rw [HE1.out]; exact HR9.out)⟩, HK9.out _ (by omega), HK9.out _ (by omega)⟩
        · have q1 : (nE == 0) = false := by rw [beq_eq_false_iff_ne]; exact hE
          have hok : fdOk bs n g tl (at12 v) k = false := by rw [HOk.out]; simp [hE]
          have HE1 := Lib.hid (HNo.out hok)
          clear hE hok HYes HYes2 HNo HOk
          gi_wp2
          refine ⟨⟨_, HB9, HH9, HA9, HS9, HF9, Lib.hid (by rw [HE1.out]; exact HR9.out)⟩, HK9.out _ (by omega), HK9.out _ (by omega)⟩
      · rintro W ⟨vo, h1, h2, h3, h4, h5, h6⟩ hlt hD
        obtain ⟨A2, c2, rfl, hr⟩ := blws_of_own h6.out
        have s0 := h4.out.cell 0
        have zs := h4.out.lt
        simp only [List.getElem?_toArray, List.getElem?_cons_zero] at s0
        have HR := Lib.hid hr
        have HDD := Lib.hid hD
        clear hD hr h2 h3 h4 h5 h6 HI HB6 HH6 HA6 HS6 F6
        go_wp2
        refine leaves_marks (B := w.heap.size) [_] _ ⟨HDD.out, by simp, trivial⟩ (by simp; omega) (fun w4 hb4 hc4 => ⟨.tuple #[.slice A2 (fdL bs n g tl (at12 v) (M * 2 ^ n)).length c2, .int .i64 0], ?_, ?_⟩)
        · simp only [results, Tryd.results35]
          go_simp
        · refine ⟨h1.out.trans hb4, .inr ⟨HG.out, A2, c2, rfl, ?_⟩⟩
          rw [Int.toNat_natCast]
          intro h0
          obtain ⟨b, o, e, hlt2, hcc⟩ := HR.out h0
          refine ⟨b, o, e, Nat.lt_of_lt_of_le hlt2 hb4.size, fun k hk => ?_⟩
          have hblk : ∀ i u, W.cell? ⟨b, i, none⟩ = some u → w4.cell? ⟨b, i, none⟩ = some u := fun i u h => by
            obtain ⟨cs, t, f, hx⟩ := cells_of_cell h
            have hy := hc4 b cs t f hx
            rw [← h]
            unfold World.cell?
            rw [hx, hy]
          exact ⟨hblk _ _ (hcc k hk).1, hblk _ _ (hcc k hk).2⟩
      · rintro W h hlt hD
        exact h.elim
end Go.Proofs.YtehifkdfbiebfaaDoor
