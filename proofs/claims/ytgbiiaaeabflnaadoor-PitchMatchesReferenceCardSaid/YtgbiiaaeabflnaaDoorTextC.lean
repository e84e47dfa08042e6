/- Pitch: Text. -/
import Derived.Test.YtgbiiaaeabflnaaDoorTextB
namespace Go.Proofs.YtgbiiaaeabflnaaDoor
open Go Go.RowKit

theorem own_str {W : World} {B n : Nat} {v : Value} {Xs : List Value} (h : W.ownsRow B 9 1 v n Xs) (h0 : 0 < n) : ∃ g cap : Nat, v = .slice (some ⟨g, 0, none⟩) n cap ∧ n ≤ cap ∧ g < W.heap.size ∧ ∀ (j : Nat) x, Xs[j]? = some x → W.cell? ⟨g, j, none⟩ = some x := by
  have hlen : Xs.length = n := by have := h.1; simpa using this
  have hh := h
  rcases h.2 with ⟨rfl, h1⟩ | ⟨g, cap, cur, rfl, hb, hg, hnc, hc⟩
  · omega
  · refine ⟨g, cap, rfl, hnc, (Array.getElem?_eq_some_iff.1 hg).1, fun j x hx => ?_⟩
    have hl : j < Xs.length := (List.getElem?_eq_some_iff.1 hx).1
    rw [World.ownsRow.cellAt hh j (by omega), hx]
theorem lens_le : ∀ (l : List (List UInt8)) (m : Nat), (∀ x ∈ l, x.length ≤ m) → Lib.lens l ≤ m * l.length
  | [], m, _ => by simp [Lib.lens]
  | x :: l, m, h => by
    have h1 := lens_le l m (fun y hy => h y (by simp [hy]))
    have h2 := h x (by simp)
    simp only [Lib.lens, List.map_cons, List.sum_cons, List.length_cons] at h1 ⊢
    rw [Nat.mul_succ]
    omega
theorem txtL_each {E : Nat → Int} (hE : ∀ k, k < 6 → -576 ≤ E k ∧ E k ≤ 576) : ∀ k, k ≤ 6 → ∀ x ∈ (txtL E k).map (·.data.toList), x.length ≤ 80
  | 0, _, x, hx => by simp [txtL] at hx
  | k + 1, hk, x, hx => by
    unfold txtL at hx
    split at hx
    · exact txtL_each hE k (by omega) x hx
    · rw [List.map_append] at hx
      rcases List.mem_append.1 hx with g | g
      · exact txtL_each hE k (by omega) x g
      · simp at g
        subst g
        exact termB_len (prm_pos (by omega)).2 (hE k (by omega)).1 (hE k (by omega)).2
theorem join_le {l : List (List UInt8)} (h : ∀ x ∈ l, x.length ≤ 80) (hl : l.length ≤ 6) : (Lib.join l [42]).length ≤ 1000 := by
  cases l with
  | nil => simp [Lib.join_nil]
  | cons x r =>
    rw [Lib.join_length]
    have h1 := lens_le (x :: r) 80 h
    simp at h1 hl ⊢
    omega
/-- A pitch as a string. -/
def textB (E : Nat → Int) : List UInt8 := if txtL E 6 = [] then [49] else Lib.join ((txtL E 6).map (·.data.toList)) [42]
def textV (a b c d e f : Int) : Value := if pV a b c d e f 576 then .tuple #[.string ⟨(textB (pex a b c d e f)).toArray⟩, .int .i64 0] else .tuple #[.string ⟨#[]⟩, .int .i64 1]
theorem Tryd.infoStr : (Tryd.prog.info? 9).map (fun i => (i.zero, i.size, i.bytes)) = some (some (.string ⟨#[]⟩), 1, 16) := by kernel_rfl
theorem str_map {l : List ByteArray} {j : Nat} {x : ByteArray} (h : l[j]? = some x) : (l.map Value.string)[j]? = some (.string x) := by rw [List.getElem?_map, h]; rfl
theorem eqs_nil (w : World) : (binOp BinOp.eql 60 (.slice none 0 0) (.slice none 0 0)).run Tryd.prog w = .ok (.bool true) w := by kernel_rfl
theorem eqs_some (g n cap : Nat) (w : World) : (binOp BinOp.eql 60 (.slice (some ⟨g, 0, none⟩) n cap) (.slice none 0 0)).run Tryd.prog w = .ok (.bool false) w := by kernel_rfl
attribute [local go_sem] Oper.semAt_some eqs_nil eqs_some
set_option maxRecDepth 100000 in
set_option maxHeartbeats 8000000 in
theorem PText_c (a b c d e f : Int) (w : World) (hP : PR w) (hQ : PW w) : Calls Tryd.prog 13 #[.agg #[.int .i64 a, .int .i64 b, .int .i64 c, .int .i64 d, .int .i64 e, .int .i64 f]] w (Ret (textV a b c d e f) w) := by
  have hA := fun w => PVld_c a b c d e f w
  unfold textV
  cases hp : pV a b c d e f 576
  · rw [hp] at hA
    have HA := Lib.hid hA
    clear hp hA hP hQ
    rw [if_neg (by decide)]
    refine calls_of_marks Tryd.func13 rfl ?_
    simp only [Tryd.ntmps13, List.size_toArray, List.length_cons, List.length_nil, Nat.reduceAdd, Nat.reduceSub, Array.replicate_succ, Array.replicate_zero, List.push_toArray, List.append_toArray, List.nil_append, List.cons_append]
    go_wp2_with (go_at_call 17; ((with_reducible refine (HA.out _).mono ?_); rintro e w' ⟨rfl, hb⟩; obtain ⟨hz, hc, hf⟩ := bcl hb (by first | (simp; rfl) | rfl)))
    refine leaves_marks (B := w.heap.size) [] _ trivial (by simp) (fun w3 hb3 hc3 => ⟨.tuple #[.string ⟨#[]⟩, .int .i64 1], ?_, rfl, ?_⟩)
    · simp only [results, Tryd.results13]
      go_simp
    · refine Below.trans ?_ hb3
      (repeat (first | (with_reducible exact bl_refl _) | (with_reducible refine bl_drew ?_) | (with_reducible refine bl_alloc ?_ _) | (with_reducible refine bl_set' ?_ ?_; · (first | omega | (simp; done) | (simp; omega))) | (with_reducible refine bl_last (by assumption) ?_) | (with_reducible refine bl_drewN ?_ _)))
  rw [hp] at hA
  rw [if_pos rfl]
  obtain ⟨i0, hi, hz0, hz1, hz2⟩ := info_parts Tryd.infoStr
  have HA := Lib.hid hA
  have HBd : Hid (∀ k, k < 6 → -576 ≤ pex a b c d e f k ∧ pex a b c d e f k ≤ 576) := Lib.hid (fun k hk => by
    obtain ⟨h1, h2, h3, h4, h5, h6⟩ := pV_of hp
    rcases lt6 hk with rfl | rfl | rfl | rfl | rfl | rfl
    · exact wi_of h1
    · exact wi_of h2
    · exact wi_of h3
    · exact wi_of h4
    · exact wi_of h5
    · exact wi_of h6)
  have HF := Lib.hid (fun w => factors_c a b c d e f w)
  have HPr := Lib.hid hP
  have HPw := Lib.hid hQ
  have hP0 := hP.1
  have hQ0 := tab_lt hQ
  clear hA hp hP hQ
  refine calls_of_marks Tryd.func13 rfl ?_
  simp only [Tryd.ntmps13, List.size_toArray, List.length_cons, List.length_nil, Nat.reduceAdd, Nat.reduceSub, Array.replicate_succ, Array.replicate_zero, List.push_toArray, List.append_toArray, List.nil_append, List.cons_append]
  go_wp2_with fail
  ((with_reducible refine (HA.out _).mono ?_); rintro en v1 ⟨rfl, e1⟩)
  obtain ⟨hz1', hc1, hf1⟩ := bcl e1 (by first | (simp; rfl) | rfl)
  have z1 : w.heap.size < v1.heap.size := by omega
  go_wp2_with (go_at_call 41; ((with_reducible refine (HF.out _).mono ?_); rintro en w1 ⟨rfl, rfl⟩))
  refine wp_letter ?_
  intro W1 hW1
  have s1 : W1.heap.size = v1.heap.size + 2 := by rw [hW1]; simp
  have k1 : Below w.heap.size w W1 := by
    rw [hW1]
    exact bl_alloc (bl_alloc (bl_last e1 (bl_alloc (bl_refl _) _)) _) _
  have bO : Blk W1 v1.heap.size 60 #[.slice none 0 0] := by
    rw [hW1]
    exact (Blk.new _ _ _).alloc _
  have bF : Blk W1 (v1.heap.size + 1) 22 #[.int .i64 a, .int .i64 b, .int .i64 c, .int .i64 d, .int .i64 e, .int .i64 f] := by
    rw [hW1]
    exact blkAt _ _ _ _ (by simp)
  have zv : w.heap.size ≤ v1.heap.size := by omega
  have HI := Lib.hid (factors1_c a b c d e f (v1.heap.size + 1))
  clear hW1 e1 hz1' hc1 hf1
  refine wp_rangeG rfl (enters_of Tryd.func66 (by kernel_rfl) rfl) HI.out (fun _ => rfl)
    (fun k W => ∃ v, JT w (v1.heap.size + 4) v1.heap.size (v1.heap.size + 1) #[.int .i64 a, .int .i64 b, .int .i64 c, .int .i64 d, .int .i64 e, .int .i64 f] W v (txtL (pex a b c d e f) k).length ((txtL (pex a b c d e f) k).map Value.string)) ?grow ?put ?sl ?h0 ?round ?skip ?done
  case grow =>
    rintro k W W' ⟨v, h⟩ hb
    exact ⟨_, h.grow hb⟩
  case put =>
    rintro k W o ⟨v, h⟩ hlt
    exact ⟨_, h.put (by omega) (by omega) (by omega) (by omega) hP0 hQ0⟩
  case sl =>
    rintro k W ⟨v, h⟩
    exact ⟨h.fB, h.pr⟩
  case h0 =>
    exact ⟨.slice none 0 0, k1, bF, HPr.out.up k1, tab_up HPw.out k1, bO, World.ownsRow_nil _ _ _ _, fun _ => rfl⟩
  case skip =>
    rintro k W hk hon ⟨v, h⟩
    have hy : pex a b c d e f k = 0 := by simpa using hon
    have e1 : txtL (pex a b c d e f) (k + 1) = txtL (pex a b c d e f) k := txtL_no hy
    exact ⟨v, by rw [e1]; exact h⟩
  case round =>
    clear k1 bO bF
    intro l k W hk hon
    have hy : ¬ pex a b c d e f k = 0 := by simpa using hon
    gi_wp2
    refine ⟨trivial, ?_⟩
    rintro W2 ⟨v, h⟩ hs2
    obtain ⟨y1, y2⟩ := HBd.out k hk
    obtain ⟨p1, p2⟩ := prm_pos hk
    have HI3 := Lib.hid (fun W (h : PW W) => itoa_c (prm k : Int) W h (by omega) (by omega))
    have l1 := Lib.itoa_length_le (prm k : Int) (by omega) (by omega)
    have cO := h.oB.cell 0
    have fO := h.oB.frozen 0
    have zO := h.oB.lt
    simp only [List.getElem?_toArray, List.getElem?_cons_zero] at cO
    have e1 : txtL (pex a b c d e f) (k + 1) = txtL (pex a b c d e f) k ++ [⟨(termB (prm k) (pex a b c d e f k)).toArray⟩] := txtL_yes hy
    by_cases hy12 : pex a b c d e f k = 12
    · -- a whole one
      have hT : termB (prm k) 12 = Lib.itoa (prm k : Int) := by unfold termB; rw [if_pos rfl]
      have e12 : ((12 : Int) != 12) = false := rfl
      rw [hy12] at e1
      rw [hT] at e1
      simp only [hy12]
      have HE1 := Lib.hid e1
      have HH := Lib.hid h
      have hlen := txtL_len (pex a b c d e f) k
      clear e1 h hT
      gi_wp2_with (first
        | (refine ⟨trivial, ?_⟩; gi_at_call 42; refine (CallsIn.inRound _ (callsIn_wide.2 (HI3.out _ HH.out.pw))).mono ?_; rintro e w3 ⟨rfl, hb3⟩; obtain ⟨hz3, hc3, hf3⟩ := bcl hb3 (by first | (simp; rfl) | rfl))
        | (gi_at_builtin; refine wpListIn_append_lies _ rfl _ _ 60 rfl (v1.heap.size + 4) 9 i0 (.string ⟨#[]⟩) 1 16 Tryd.underlying60 hi hz0 hz1 hz2 rfl (by decide) _ _ _ rfl (own_below (own_below HH.out.oR hb3) (bl_alloc (bl_refl _) _)) ⟨w3.heap.size, 0, none⟩ 1 1 [.string ⟨(Lib.itoa (prm k : Int)).toArray⟩] rfl rfl (cell_one_new _ _ _) (by simp [Value.oneCell']) (by omega) (by unfold maxLen; omega) (by omega) (by simp; omega) ?_; intro g cap w5 hown hgrow hat hlt5; have hB5 := ((HH.out.oB.below hb3 HH.out.oB.lt).alloc _).same (hgrow.block _ (by simp; omega) (fun e => by have := (HH.out.oR.lt _ e.symm).1; omega)); have cX := hB5.cell 0; have fX := hB5.frozen 0; have zX := hB5.lt; simp only [List.getElem?_toArray, List.getElem?_cons_zero] at cX))
      refine ⟨⟨_, by rw [HE1.out, List.length_append, List.map_append]; exact HH.out.add (by omega) (by omega) (by omega) hP0 hQ0 (by omega) (by omega) (by omega) hb3 hown hgrow⟩, ?_, ?_⟩
      · exact HH.out.add_keep hb3 hgrow (by omega) (by omega) (by omega)
      · exact HH.out.add_keep hb3 hgrow (by omega) (by omega) (by omega)
    · -- with an exponent
      have hT : (⟨(termB (prm k) (pex a b c d e f k)).toArray⟩ : ByteArray) = (⟨(Lib.itoa (prm k : Int)).toArray⟩ : ByteArray) ++ ((⟨#[94]⟩ : ByteArray) ++ (⟨(expB (pex a b c d e f k)).toArray⟩ : ByteArray)) := by
        unfold termB
        rw [if_neg hy12, show (⟨#[94]⟩ : ByteArray) = ⟨[94].toArray⟩ from rfl, bs_append, bs_append]
        rfl
      rw [hT] at e1
      have e12 : (pex a b c d e f k != 12) = true := by simpa using hy12
      have l2 := expB_len y1 y2
      have HX := Lib.hid (fun W (h : PW W) => exponent_c (pex a b c d e f k) W h y1 y2 hy)
      have HE1 := Lib.hid e1
      have HH := Lib.hid h
      have hlen := txtL_len (pex a b c d e f) k
      clear e1 h hT
      gi_wp2_with (first
        | (refine ⟨trivial, ?_⟩; gi_at_call 42; refine (CallsIn.inRound _ (callsIn_wide.2 (HI3.out _ HH.out.pw))).mono ?_; rintro e w3 ⟨rfl, hb3⟩; obtain ⟨hz3, hc3, hf3⟩ := bcl hb3 (by first | (simp; rfl) | rfl))
        | (refine ⟨trivial, ?_⟩; gi_at_call 43; refine (CallsIn.inRound _ (callsIn_wide.2 (HX.out _ (tab_up HH.out.pw hb3)))).mono ?_; rintro e w4 ⟨rfl, hb4⟩; obtain ⟨hz4, hc4, hf4⟩ := bcl hb4 (by first | (simp; rfl) | rfl))
        | (gi_at_builtin; refine wpListIn_append_lies _ rfl _ _ 60 rfl (v1.heap.size + 4) 9 i0 (.string ⟨#[]⟩) 1 16 Tryd.underlying60 hi hz0 hz1 hz2 rfl (by decide) _ _ _ rfl (own_below (own_below HH.out.oR (bl_trans hb3 hb4)) (bl_alloc (bl_refl _) _)) ⟨w4.heap.size, 0, none⟩ 1 1 [.string ((⟨(Lib.itoa (prm k : Int)).toArray⟩ : ByteArray) ++ ((⟨#[94]⟩ : ByteArray) ++ (⟨(expB (pex a b c d e f k)).toArray⟩ : ByteArray)))] rfl rfl (cell_one_new _ _ _) (by simp [Value.oneCell']) (by omega) (by unfold maxLen; omega) (by omega) (by simp; omega) ?_; intro g cap w5 hown hgrow hat hlt5; have hB5 := ((HH.out.oB.below (bl_trans hb3 hb4) HH.out.oB.lt).alloc _).same (hgrow.block _ (by simp; omega) (fun e => by have := (HH.out.oR.lt _ e.symm).1; omega)); have cX := hB5.cell 0; have fX := hB5.frozen 0; have zX := hB5.lt; simp only [List.getElem?_toArray, List.getElem?_cons_zero] at cX))
      refine ⟨⟨_, by rw [HE1.out, List.length_append, List.map_append]; exact HH.out.add (by omega) (by omega) (by omega) hP0 hQ0 (by omega) (by omega) (by omega) (bl_trans hb3 hb4) hown hgrow⟩, ?_, ?_⟩
      · exact HH.out.add_keep (bl_trans hb3 hb4) hgrow (by omega) (by omega) (by omega)
      · exact HH.out.add_keep (bl_trans hb3 hb4) hgrow (by omega) (by omega) (by omega)
  case done =>
    clear k1 bO bF HI
    rintro W ⟨v, h⟩ hs hD
    have hbd := txtL_each HBd.out 6 (by omega)
    have hle := txtL_len (pex a b c d e f) 6
    obtain ⟨L, hLd⟩ : ∃ L, txtL (pex a b c d e f) 6 = L := ⟨_, rfl⟩
    have hTB : textB (pex a b c d e f) = if L = [] then [49] else Lib.join (L.map (·.data.toList)) [42] := by
      unfold textB
      rw [hLd]
    rw [hLd] at h hbd hle
    clear hLd
    have cO := h.oB.cell 0
    have zO := h.oB.lt
    simp only [List.getElem?_toArray, List.getElem?_cons_zero] at cO
    have HD0 := Lib.hid hD
    have hD' := hD
    rw [s1] at hD'
    have HD := Lib.hid hD'
    have HB := Lib.hid h.below
    by_cases hL : L = []
    · rw [if_pos hL] at hTB
      have hv : v = .slice none 0 0 := h.nn (by rw [hL]; rfl)
      subst hv
      have HTB := Lib.hid hTB
      clear h hD hD' hbd hle hTB
      go_wp2
      refine leaves_marks (B := w.heap.size) [_] _ ⟨by first | exact HD0.out | exact HD.out, by simp, trivial⟩ (by simp; omega) (fun w4 hb4 hc4 => ⟨.tuple #[.string ⟨#[49]⟩, .int .i64 0], ?_, by rw [HTB.out], ?_⟩)
      · simp only [results, Tryd.results13]
        go_simp
      · exact Below.trans HB.out hb4
    · rw [if_neg hL] at hTB
      have h0 : 0 < L.length := by
        cases L with
        | nil => exact absurd rfl hL
        | cons x l => simp
      obtain ⟨g, cap, rfl, hnc, hg, hc⟩ := own_str h.oR h0
      have hJ := Tryd.strings_Join g 0 cap L ⟨#[42]⟩ W (fun j x hx => by rw [Nat.zero_add]; exact hc j _ (str_map hx)) hg (by omega) hnc (by have := join_le hbd (by simpa using hle); exact Nat.le_trans this (by omega))
      have HJ := Lib.hid hJ
      have HTB := Lib.hid hTB
      clear h hD hD' hbd hc hJ hTB
      go_wp2_with (go_at_call 44; (with_reducible refine HJ.out.mono ?_); rintro en w3 ⟨rfl, hb3⟩)
      refine leaves_marks (B := w.heap.size) [_] _ ⟨(hb3.block _ (by omega)).trans HD.out, by simp, trivial⟩ (by simp; omega) (fun w4 hb4 hc4 => ⟨.tuple #[.string ⟨(Lib.join (L.map (·.data.toList)) [42]).toArray⟩, .int .i64 0], ?_, by rw [HTB.out], ?_⟩)
      · simp only [results, Tryd.results13]
        go_simp
      · exact Below.trans (bl_trans HB.out hb3) hb4
end Go.Proofs.YtgbiiaaeabflnaaDoor
