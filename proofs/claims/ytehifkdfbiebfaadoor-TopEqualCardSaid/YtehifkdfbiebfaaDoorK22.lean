/- Pitch: fraction. Pitch: Cmp. -/
import Derived.Test.YtehifkdfbiebfaaDoorK21
import Derived.Test.YtehifkdfbiebfaaDoorK16
namespace Go.Proofs.YtehifkdfbiebfaaDoor
open Go Go.RowKit

theorem wpListIn_append_lies {F : Fence} {n : Nat} {P : Program} (w : World) {ops : Array Oper} {rest : List Oper} {o : Oper} {a : Act} {Q : Exit → Act → World → Prop}
    (hg : o.guard = none) (s x : Operand) (t : TypeId) (hop : o.op = Op.call { callee := Callee.builtin Builtin.append, args := #[s, x], argTypes := #[t, t] })
    (base : Nat) (e : TypeId) (i : TypeInfo) (z : Value) (size bytes : Nat) (h1 : P.underlying t = some (.slice e)) (h2 : P.info? e = some i) (h3 : i.zero = some z) (h4 : i.size = size) (h5 : i.bytes = bytes) (h6 : z.cells.size = size) (h7 : 0 < size)
    (v : Value) (k : Nat) (xs : List Value) (hs : a.eval s = v) (hown : w.ownsRow base e size v k xs) (ad : Addr) (m c : Nat) (news : List Value) (hx : a.eval x = .slice (some ad) m c) (hn : news.length = m * size)
    (hc : ∀ j u, news[j]? = some u → w.cell? (ad.add j) = some u) (h1c : ∀ u ∈ news, u.oneCell' = true) (hm : 0 < m) (b1 : k + m ≤ maxLen) (b2 : (k + m) * bytes ≤ 140737488355328) (b3 : base ≤ w.heap.size)
    (hK : ∀ g cap w', w'.ownsRow base e size (.slice (some ⟨g, 0, none⟩) (k + m) cap) (k + m) (xs ++ news) → w.grownBy w' v.ownBlock → (v.ownBlock = some g ∨ g = w.heap.size) → g < w'.heap.size → wpListIn F n P ops Q rest (a.put o.dst (.slice (some ⟨g, 0, none⟩) (k + m) cap)) w') :
    wpListIn F n P ops Q (o :: rest) a w := by
  refine wpListIn_plain hg fun K hK' => ?_
  obtain ⟨g, cap, w', hrun, r1, r2, r3, r4⟩ := run_append_lies (P := P) w t o.type base e i z size bytes h1 h2 h3 h4 h5 h6 h7 v k xs hown ad m c news hn hc h1c hm b1 b2 b3 _ rfl
  unfold Oper.wpIn
  refine ⟨?_, ?_⟩
  · simp [Oper.about, hop, resolve, Target.leads, Sem.run_pure]
  · rw [Oper.semAt_plain F _ _ (by rw [hop]; intro c hc'; cases hc')]
    simp [execOp, hop, resolve, invoke, builtin, hs, hx, hrun, Result.andThen]
    exact hK' _ _ (hK g cap w' r1 r2 r3 r4)
theorem Tryd.infoNat : (Tryd.prog.info? 83).map (fun i => (i.zero, i.size, i.bytes)) = some (some (.slice none 0 0), 1, 24) := by kernel_rfl
theorem own_slice {W : World} {B n : Nat} {v : Value} {Xs : List Value} (h : W.ownsRow B 83 1 v n Xs) : ∃ (A : Option Addr) (cap : Nat), v = .slice A n cap ∧ (0 < n → ∃ g : Nat, A = some ⟨g, 0, none⟩ ∧ g < W.heap.size ∧ ∀ (j : Nat) x, Xs[j]? = some x → W.cell? ⟨g, j, none⟩ = some x) := by
  have hlen : Xs.length = n := by have := h.1; simpa using this
  have hh := h
  rcases h.2 with ⟨rfl, h0⟩ | ⟨g, cap, cur, rfl, hb, hg, hc⟩
  · exact ⟨none, 0, by rw [h0], fun h1 => by omega⟩
  · refine ⟨_, cap, rfl, fun _ => ⟨g, rfl, (Array.getElem?_eq_some_iff.1 hg).1, fun j x hx => ?_⟩⟩
    have hl : j < Xs.length := (List.getElem?_eq_some_iff.1 hx).1
    rw [World.ownsRow.cellAt hh j (by omega), hx]
theorem cells_of_cell {W : World} {q i : Nat} {v : Value} (h : W.cell? ⟨q, i, none⟩ = some v) : ∃ cs t f, W.heap[q]? = some (.cells cs t f) := by
  unfold World.cell? at h
  split at h
  · exact ⟨_, _, _, by assumption⟩
  · simp at h
theorem Num.kept {W W' : World} {q n x : Nat} (h : Num W W.heap.size q n x) (hx : 1 ≤ x) (hs : W.heap.size ≤ W'.heap.size) (hc : ∀ (k : Nat) (cs : Array Value) (t : TypeId) (f : Nat × Nat), W.heap[k]? = some (Obj.cells cs t f) → W'.heap[k]? = some (Obj.cells cs t f)) : Num W' W'.heap.size q n x := by
  have hl := h.len_pos hx
  have hN := h
  obtain ⟨f, ⟨h1, h2⟩, h3⟩ := h
  obtain ⟨cs, t, ff, e⟩ := cells_of_cell (h2 0 hl)
  exact hN.same hs (by rw [hc _ _ _ _ e, e])
/-- What fraction leaves. -/
def FrP (x y : Nat) (w : World) (e : Ending) (w' : World) : Prop := Below w.heap.size w w' ∧ ∃ b n b' n' : Nat, w.heap.size ≤ b ∧ w.heap.size ≤ b' ∧ e = .returned (.tuple #[.slice (some ⟨b, 0, none⟩) n n, .slice (some ⟨b', 0, none⟩) n' n']) ∧ Num w' w'.heap.size b n x ∧ n ≤ 640 ∧ Num w' w'.heap.size b' n' y ∧ n' ≤ 640
attribute [local go_sem] Oper.semAt_some
set_option maxRecDepth 100000 in
set_option maxHeartbeats 8000000 in
theorem fraction_c (a b c d e f : Int) (w : World) (hp : pV a b c d e f 1152 = true) (hP : PR w) : Calls Tryd.prog 82 #[.agg #[.int .i64 a, .int .i64 b, .int .i64 c, .int .i64 d, .int .i64 e, .int .i64 f]] w (FrP (upN a b c d e f) (dnN a b c d e f) w) := by
  obtain ⟨i0, hi, hz0, hz1, hz2⟩ := info_parts Tryd.infoNat
  have HF := Lib.hid (fun w => factors_c a b c d e f w)
  have HI := Lib.hid (factors1_c a b c d e f (w.heap.size + 1 + 1 + 1))
  have HBd : Hid (∀ k, k < 6 → -1152 ≤ pex a b c d e f k ∧ pex a b c d e f k ≤ 1152) := Lib.hid (fun k hk => (sgE_bd2 (Or.inl rfl) hp hk).2.2)
  have HPw : Hid (∀ k, k < 6 → prm k ^ (pex a b c d e f k).toNat < Cap ∧ prm k ^ (-pex a b c d e f k).toNat < Cap) := Lib.hid (fun k hk => pw_cap hp hk)
  have HPr := Lib.hid hP
  have hP0 := hP.1
  refine calls_of_marks Tryd.func82 rfl ?_
  simp only [Tryd.ntmps82, List.size_toArray, List.length_cons, List.length_nil, Nat.reduceAdd, Nat.reduceSub, Array.replicate_succ, Array.replicate_zero, List.push_toArray, List.append_toArray, List.nil_append, List.cons_append]
  go_wp2_with (go_at_call 116; ((with_reducible refine (HF.out _).mono ?_); rintro en w1 ⟨rfl, rfl⟩))
  refine wp_letter ?_
  intro W1 hW1
  have s1 : W1.heap.size = w.heap.size + 4 := by rw [hW1]; simp
  have k1 : Below w.heap.size w W1 := by
    rw [hW1]
    repeat (first | (with_reducible exact bl_refl _) | (with_reducible refine bl_alloc ?_ _))
  have bO : Blk W1 (w.heap.size + 1) 193 #[.slice none 0 0] := by
    rw [hW1]
    exact ((blkAt _ _ _ _ (by simp)).alloc _).alloc _
  have bU : Blk W1 (w.heap.size + 1 + 1) 193 #[.slice none 0 0] := by
    rw [hW1]
    exact (blkAt _ _ _ _ (by simp)).alloc _
  have bF : Blk W1 (w.heap.size + 1 + 1 + 1) 26 #[.int .i64 a, .int .i64 b, .int .i64 c, .int .i64 d, .int .i64 e, .int .i64 f] := by
    rw [hW1]
    exact blkAt _ _ _ _ (by simp)
  clear hW1 hP
  refine wp_rangeG rfl (enters_of Tryd.func131 (by kernel_rfl) rfl) HI.out (fun _ => rfl)
    (fun k W => ∃ vo no Xo vu nu Xu, JX w (w.heap.size + 6) (w.heap.size + 1) (w.heap.size + 1 + 1) (w.heap.size + 1 + 1 + 1) #[.int .i64 a, .int .i64 b, .int .i64 c, .int .i64 d, .int .i64 e, .int .i64 f] W vo no Xo vu nu Xu (posL prm (pex a b c d e f) k) (posL prm (fun i => -pex a b c d e f i) k) ∧ no ≤ k ∧ nu ≤ k) ?grow ?put ?sl ?h0 ?round ?skip ?done
  case grow =>
    rintro k W W' ⟨vo, no, Xo, vu, nu, Xu, h, h1, h2⟩ hb
    exact ⟨_, _, _, _, _, _, h.grow hb, h1, h2⟩
  case put =>
    rintro k W o ⟨vo, no, Xo, vu, nu, Xu, h, h1, h2⟩ hlt
    exact ⟨_, _, _, _, _, _, h.put (by omega) (by omega) (by omega) (by omega) (by omega) hP0, h1, h2⟩
  case sl =>
    rintro k W ⟨vo, no, Xo, vu, nu, Xu, h, h1, h2⟩
    exact ⟨h.fB, h.pr⟩
  case h0 =>
    exact ⟨.slice none 0 0, 0, [], .slice none 0 0, 0, [], ⟨k1, bF, HPr.out.up k1, bO, bU, World.ownsRow_nil _ _ _ _, World.ownsRow_nil _ _ _ _, fun g h => by simp [Value.ownBlock] at h, ElsB.nil _ _ _ _, ElsB.nil _ _ _ _⟩, by omega, by omega⟩
  case skip =>
    rintro k W hk hon ⟨vo, no, Xo, vu, nu, Xu, h, h1, h2⟩
    have hy : pex a b c d e f k = 0 := by simpa using hon
    have e1 : posL prm (pex a b c d e f) (k + 1) = posL prm (pex a b c d e f) k := posL_no (by omega)
    have e2 : posL prm (fun i => -pex a b c d e f i) (k + 1) = posL prm (fun i => -pex a b c d e f i) k := posL_no (by omega)
    exact ⟨vo, no, Xo, vu, nu, Xu, by rw [e1, e2]; exact h, by omega, by omega⟩
  case round =>
    clear k1 bO bU bF
    intro l k W hk hon
    have hy : pex a b c d e f k ≠ 0 := by simpa using hon
    gi_wp2
    refine ⟨trivial, ?_⟩
    rintro W2 ⟨vo, no, Xo, vu, nu, Xu, h, g1, g2⟩ hs2
    obtain ⟨y1, y2⟩ := HBd.out k hk
    obtain ⟨p1, p2⟩ := prm_pos hk
    have HMk : Hid (∀ w, Calls Tryd.prog 33 #[.int .u64 (prm k : Int)] w (NumP (prm k) w)) := Lib.hid (fun w => Nmake_c (prm k) w (by omega))
    have ew : IntKind.u64.wrap (prm k : Int) = (prm k : Int) := by rw [IntKind.wrap_u64]; omega
    have cO := h.oB.cell 0
    have fO := h.oB.frozen 0
    have zO := h.oB.lt
    have cU := h.uB.cell 0
    have fU := h.uB.frozen 0
    have zU := h.uB.lt
    simp only [List.getElem?_toArray, List.getElem?_cons_zero] at cO cU
    rcases Int.lt_or_gt_of_ne hy with hs | hs
    · -- under
      obtain ⟨N, hN⟩ : ∃ N : Nat, -pex a b c d e f k = (N : Int) := ⟨(-pex a b c d e f k).toNat, by omega⟩
      have e1 : posL prm (pex a b c d e f) (k + 1) = posL prm (pex a b c d e f) k := posL_no (by omega)
      have e2 : posL prm (fun i => -pex a b c d e f i) (k + 1) = posL prm (fun i => -pex a b c d e f i) k ++ [prm k ^ N] := by rw [posL_yes (by omega), hN, Int.toNat_natCast]
      have hcap : prm k ^ N < Cap := by have := (HPw.out k hk).2; rw [hN, Int.toNat_natCast] at this; exact this
      have hyv : pex a b c d e f k = -(N : Int) := by omega
      have wn : IntKind.i64.wrap (- -(N : Int)) = (N : Int) := by rw [IntKind.wrap_i64]; omega
      have wn2 : IntKind.i64.wrap (N : Int) = (N : Int) := by rw [IntKind.wrap_i64]; omega
      have m1 : max (N : Int) (-(N : Int)) = (N : Int) := by omega
      have m7 : ¬ (N : Int) < 0 := by omega
      have m0 : max (-(N : Int)) (N : Int) = (N : Int) := by omega
      have m3 : ¬ (0 : Int) < -(N : Int) := by omega
      have hN2 : N ≤ 1152 := by omega
      have HPow := Lib.hid (fun (b n c : Nat) (W : World) (h : Num W W.heap.size b n (prm k)) (h6 : n ≤ 640) => Npow_c b n (prm k) c N W h h6 (by omega) hcap)
      have hx1 : 1 ≤ prm k ^ N := Nat.pow_pos (by omega)
      simp only [hyv]
      have HE1 := Lib.hid e1
      have HE2 := Lib.hid e2
      clear e1 e2 hcap hyv hN
      have HH := Lib.hid h
      clear h
      gi_wp2_with (first
        | (refine ⟨trivial, ?_⟩; gi_at_call 33; refine (CallsIn.inRound _ (callsIn_wide.2 (HMk.out _))).mono ?_; rintro e w3 ⟨hb3, q3, n3, hk3, rfl, hN3, h63⟩; obtain ⟨hz3, hc3, hf3⟩ := bcl hb3 (by first | (simp; rfl) | rfl))
        | (refine ⟨trivial, ?_⟩; gi_at_call 117; refine (CallsIn.inRound _ (callsIn_wide.2 (HPow.out _ _ _ _ hN3 h63))).mono ?_; rintro e w4 ⟨hb4, q4, n4, hk4, rfl, hN4, h64⟩; obtain ⟨hz4, hc4, hf4⟩ := bcl hb4 (by first | (simp; rfl) | rfl))
        | (gi_at_builtin; refine wpListIn_append_lies _ rfl _ _ 193 rfl (w.heap.size + 6) 83 i0 (.slice none 0 0) 1 24 Tryd.underlying193 hi hz0 hz1 hz2 rfl (by decide) _ _ _ rfl (own_below (own_below HH.out.uR (bl_trans hb3 hb4)) (bl_alloc (bl_refl _) _)) ⟨w4.heap.size, 0, none⟩ 1 1 [.slice (some ⟨q4, 0, none⟩) n4 n4] rfl rfl (cell_one_new _ _ _) (by simp [Value.oneCell']) (by omega) (by unfold maxLen; omega) (by omega) (by simp; omega) ?_; intro g cap w5 hown hgrow hat hlt5; have hB5 := ((HH.out.uB.below (bl_trans hb3 hb4) HH.out.uB.lt).alloc _).same (hgrow.block _ (by simp; omega) (fun e => by have := (HH.out.uR.lt _ e.symm).1; omega)); have cX := hB5.cell 0; have fX := hB5.frozen 0; have zX := hB5.lt; simp only [List.getElem?_toArray, List.getElem?_cons_zero] at cX))
      refine ⟨⟨_, _, _, _, _, _, by rw [HE1.out, HE2.out]; exact (HH.out.swap.add (by omega) (by omega) (by omega) (by omega) hP0 (by omega) (by omega) (by omega) (by omega) (bl_trans hb3 hb4) (by have := hb3.size; omega) hN4 h64 hx1 hown hgrow hat).swap, by omega, by omega⟩, ?_, ?_⟩
      · exact HH.out.swap.add_keep (bl_trans hb3 hb4) hgrow (by omega) (by omega) (by omega)
      · exact HH.out.swap.add_keep (bl_trans hb3 hb4) hgrow (by omega) (by omega) (by omega)
    · -- over
      obtain ⟨N, hN⟩ : ∃ N : Nat, pex a b c d e f k = (N : Int) := ⟨(pex a b c d e f k).toNat, by omega⟩
      have e1 : posL prm (pex a b c d e f) (k + 1) = posL prm (pex a b c d e f) k ++ [prm k ^ N] := by rw [posL_yes (by omega), hN, Int.toNat_natCast]
      have e2 : posL prm (fun i => -pex a b c d e f i) (k + 1) = posL prm (fun i => -pex a b c d e f i) k := posL_no (by omega)
      have hcap : prm k ^ N < Cap := by have := (HPw.out k hk).1; rw [hN, Int.toNat_natCast] at this; exact this
      have hyv : pex a b c d e f k = (N : Int) := hN
      have wn : IntKind.i64.wrap (-(N : Int)) = -(N : Int) := by rw [IntKind.wrap_i64]; omega
      have m1 : max (N : Int) (-(N : Int)) = (N : Int) := by omega
      have m7 : ¬ (N : Int) < 0 := by omega
      have m0 : max (-(N : Int)) (N : Int) = (N : Int) := by omega
      have m3 : (0 : Int) < (N : Int) := by omega
      have hN2 : N ≤ 1152 := by omega
      have HPow := Lib.hid (fun (b n c : Nat) (W : World) (h : Num W W.heap.size b n (prm k)) (h6 : n ≤ 640) => Npow_c b n (prm k) c N W h h6 (by omega) hcap)
      have hx1 : 1 ≤ prm k ^ N := Nat.pow_pos (by omega)
      simp only [hyv]
      have HE1 := Lib.hid e1
      have HE2 := Lib.hid e2
      clear e1 e2 hcap hyv hN
      have HH := Lib.hid h
      clear h
      gi_wp2_with (first
        | (refine ⟨trivial, ?_⟩; gi_at_call 33; refine (CallsIn.inRound _ (callsIn_wide.2 (HMk.out _))).mono ?_; rintro e w3 ⟨hb3, q3, n3, hk3, rfl, hN3, h63⟩; obtain ⟨hz3, hc3, hf3⟩ := bcl hb3 (by first | (simp; rfl) | rfl))
        | (refine ⟨trivial, ?_⟩; gi_at_call 117; refine (CallsIn.inRound _ (callsIn_wide.2 (HPow.out _ _ _ _ hN3 h63))).mono ?_; rintro e w4 ⟨hb4, q4, n4, hk4, rfl, hN4, h64⟩; obtain ⟨hz4, hc4, hf4⟩ := bcl hb4 (by first | (simp; rfl) | rfl))
        | (gi_at_builtin; refine wpListIn_append_lies _ rfl _ _ 193 rfl (w.heap.size + 6) 83 i0 (.slice none 0 0) 1 24 Tryd.underlying193 hi hz0 hz1 hz2 rfl (by decide) _ _ _ rfl (own_below (own_below HH.out.oR (bl_trans hb3 hb4)) (bl_alloc (bl_refl _) _)) ⟨w4.heap.size, 0, none⟩ 1 1 [.slice (some ⟨q4, 0, none⟩) n4 n4] rfl rfl (cell_one_new _ _ _) (by simp [Value.oneCell']) (by omega) (by unfold maxLen; omega) (by omega) (by simp; omega) ?_; intro g cap w5 hown hgrow hat hlt5; have hB5 := ((HH.out.oB.below (bl_trans hb3 hb4) HH.out.oB.lt).alloc _).same (hgrow.block _ (by simp; omega) (fun e => by have := (HH.out.oR.lt _ e.symm).1; omega)); have cX := hB5.cell 0; have fX := hB5.frozen 0; have zX := hB5.lt; simp only [List.getElem?_toArray, List.getElem?_cons_zero] at cX))
      refine ⟨⟨_, _, _, _, _, _, by rw [HE1.out, HE2.out]; exact (HH.out.add (by omega) (by omega) (by omega) (by omega) hP0 (by omega) (by omega) (by omega) (by omega) (bl_trans hb3 hb4) (by have := hb3.size; omega) hN4 h64 hx1 hown hgrow hat), by omega, by omega⟩, ?_, ?_⟩
      · exact HH.out.add_keep (bl_trans hb3 hb4) hgrow (by omega) (by omega) (by omega)
      · exact HH.out.add_keep (bl_trans hb3 hb4) hgrow (by omega) (by omega) (by omega)
  case done =>
    clear k1 bO bU bF HI
    rintro W ⟨vo, no, Xo, vu, nu, Xu, h, g1, g2⟩ hs hD
    have eU : prodL (posL prm (pex a b c d e f) 6) = upN a b c d e f := by rw [posL_prod]; unfold upN; rw [sgE_one]
    have eD : prodL (posL prm (fun i => -pex a b c d e f i) 6) = dnN a b c d e f := by rw [posL_prod]; unfold dnN; rw [sgE_neg]
    have cU1 := sg_cap2 (Or.inl rfl) hp 6 (Nat.le_refl _)
    have cD1 := sg_cap2 (Or.inr rfl) hp 6 (Nat.le_refl _)
    have cO := h.oB.cell 0
    have zO := h.oB.lt
    have cU := h.uB.cell 0
    have zU := h.uB.lt
    simp only [List.getElem?_toArray, List.getElem?_cons_zero] at cO cU
    have lo : no = (posL prm (pex a b c d e f) 6).length := by have := h.oE.1; have := h.oR.1; omega
    have lu : nu = (posL prm (fun i => -pex a b c d e f i) 6).length := by have := h.uE.1; have := h.uR.1; omega
    obtain ⟨A1, cap1, rfl, hc1⟩ := own_slice h.oR
    obtain ⟨A2, cap2, rfl, hc2⟩ := own_slice h.uR
    have HM1 : Hid (∀ W', Below W.heap.size W W' → Calls Tryd.prog 118 #[.slice A1 no cap1] W' (NumP (upN a b c d e f) W')) := Lib.hid (fun W' hb => by
      rw [← eU]
      refine multiply_c A1 no cap1 Xo _ W' lo (by omega) (fun h0 => ?_) (h.oE.els.up hb) (by rw [eU]; exact cU1)
      obtain ⟨g, q1, q2, q3⟩ := hc1 h0
      exact ⟨g, q1, Nat.lt_of_lt_of_le q2 hb.size, fun j x hx => (hb.cell (p := ⟨g, j, none⟩) q2).trans (q3 j x hx)⟩)
    have HM2 : Hid (∀ W', Below W.heap.size W W' → Calls Tryd.prog 118 #[.slice A2 nu cap2] W' (NumP (dnN a b c d e f) W')) := Lib.hid (fun W' hb => by
      rw [← eD]
      refine multiply_c A2 nu cap2 Xu _ W' lu (by omega) (fun h0 => ?_) (h.uE.els.up hb) (by rw [eD]; exact cD1)
      obtain ⟨g, q1, q2, q3⟩ := hc2 h0
      exact ⟨g, q1, Nat.lt_of_lt_of_le q2 hb.size, fun j x hx => (hb.cell (p := ⟨g, j, none⟩) q2).trans (q3 j x hx)⟩)
    have HD := Lib.hid hD
    have HB := Lib.hid h.below
    have hzw := h.below.size
    have u1 := up_pos a b c d e f
    have u2 := dn_pos a b c d e f
    clear h hc1 hc2 eU eD cU1 cD1 hD lo lu
    generalize upN a b c d e f = x at *
    generalize dnN a b c d e f = y at *
    go_wp2
    go_region_held3 (fun W' => W'.cell? ⟨w.heap.size + 1, 0, none⟩ = some (.slice A1 no cap1) ∧ W'.cell? ⟨w.heap.size + 1 + 1, 0, none⟩ = some (.slice A2 nu cap2))
      (first | go_keep | (refine ⟨?_, ?_⟩ <;> (go_simp; done)))
      ((first | (go_at_call 118; ((with_reducible refine (HM1.out _ (by (repeat (first | (with_reducible exact bl_refl _) | (with_reducible refine bl_drew ?_) | (with_reducible refine bl_alloc ?_ _) | (with_reducible refine bl_set' ?_ ?_; · (first | omega | (simp; done) | (simp; omega))) | (with_reducible refine bl_last (by assumption) ?_) | (with_reducible refine bl_drewN ?_ _))))).mono ?_); rintro en w2 ⟨hb2, b2, n2, hk2, rfl, hN2, h62⟩; obtain ⟨hz2, hc2, hf2⟩ := bcl hb2 (by first | (simp; rfl) | rfl))) | (go_at_call 118; ((with_reducible refine (HM2.out _ (by (repeat (first | (with_reducible exact bl_refl _) | (with_reducible refine bl_drew ?_) | (with_reducible refine bl_alloc ?_ _) | (with_reducible refine bl_set' ?_ ?_; · (first | omega | (simp; done) | (simp; omega))) | (with_reducible refine bl_last (by assumption) ?_) | (with_reducible refine bl_drewN ?_ _))))).mono ?_); rintro en w3 ⟨hb3, b3, n3, hk3, rfl, hN3, h63⟩; obtain ⟨hz3, hc3, hf3⟩ := bcl hb3 (by first | (simp; rfl) | rfl)))))
    go_wp2
    have hb23 : Below W.heap.size W w3 := by (repeat (first | (with_reducible exact bl_refl _) | (with_reducible refine bl_drew ?_) | (with_reducible refine bl_alloc ?_ _) | (with_reducible refine bl_set' ?_ ?_; · (first | omega | (simp; done) | (simp; omega))) | (with_reducible refine bl_last (by assumption) ?_) | (with_reducible refine bl_drewN ?_ _)))
    have hN2' := hN2.up hb3
    have hD' := HD.out
    rw [s1] at hD'
    refine leaves_marks (B := w.heap.size) [_] _ ⟨(hb23.block _ (by omega)).trans hD', by simp, trivial⟩ (by simp) (fun w4 hb4 hc4 => ⟨.tuple #[.slice (some ⟨b2, 0, none⟩) n2 n2, .slice (some ⟨b3, 0, none⟩) n3 n3], ?_, ?_⟩)
    · simp only [results, Tryd.results82]
      go_simp
    · exact ⟨(bl_trans HB.out hb23).trans hb4, b2, n2, b3, n3, by simp at hk2; omega, by have := hb2.size; simp at this; omega, rfl, hN2'.kept u1 hb4.size hc4, h62, hN3.kept u2 hb4.size hc4, h63⟩
end Go.Proofs.YtehifkdfbiebfaaDoor
namespace Go.Proofs.YtehifkdfbiebfaaDoor
open Go Go.RowKit

theorem NumC {W : World} {b n x : Nat} (h : Num W W.heap.size b n x) : Num W W.heap.size b n x := h
/-- What Cmp returns. -/
def pcN (a b c d e f x y z p q r : Int) : Int := if cbG a b c d e f x y z p q r then cmP a b c d e f x y z p q r else 0
def pcE (a b c d e f x y z p q r : Int) : Int := if cbG a b c d e f x y z p q r then 0 else 1
def pcV (a b c d e f x y z p q r : Int) : Value := .tuple #[.int .i64 (pcN a b c d e f x y z p q r), .int .i64 (pcE a b c d e f x y z p q r)]
set_option maxRecDepth 100000 in
set_option maxHeartbeats 8000000 in
theorem PCmp_c (a b c d e f x y z p q r : Int) (w : World) (hP : PR w) : Calls Tryd.prog 92 #[.agg #[.int .i64 a, .int .i64 b, .int .i64 c, .int .i64 d, .int .i64 e, .int .i64 f], .agg #[.int .i64 x, .int .i64 y, .int .i64 z, .int .i64 p, .int .i64 q, .int .i64 r]] w (Ret (pcV a b c d e f x y z p q r) w) := by
  have hA := fun w => PVld_c a b c d e f w
  have hB := fun w => PVld_c x y z p q r w
  unfold pcV
  cases ha : pV a b c d e f 576
  · have e1 : pcN a b c d e f x y z p q r = 0 := by simp [pcN, cbG, ha]
    have e2 : pcE a b c d e f x y z p q r = 1 := by simp [pcE, cbG, ha]
    rw [e1, e2]
    rw [ha] at hA
    have HA := Lib.hid hA
    have HB := Lib.hid hB
    clear ha hA hB e1 e2 hP
    generalize pV x y z p q r 576 = g at *
    go_enter Tryd.func92, Tryd.ntmps92
    go_wp2_with (first | (go_at_call 80; ((with_reducible refine (HA.out _).mono ?_); rintro e w' ⟨rfl, hb⟩; obtain ⟨hz, hc, hf⟩ := bcl hb (by first | (simp; rfl) | rfl))) | (go_at_call 80; ((with_reducible refine (HB.out _).mono ?_); rintro e w' ⟨rfl, hb⟩; obtain ⟨hz, hc, hf⟩ := bcl hb (by first | (simp; rfl) | rfl))))
    go_ret2
    exact ⟨rfl, by (repeat (first | (with_reducible exact bl_refl _) | (with_reducible refine bl_drew ?_) | (with_reducible refine bl_alloc ?_ _) | (with_reducible refine bl_set' ?_ ?_; · (first | omega | (simp; done) | (simp; omega))) | (with_reducible refine bl_last (by assumption) ?_) | (with_reducible refine bl_drewN ?_ _)))⟩
  cases hb : pV x y z p q r 576
  · have e1 : pcN a b c d e f x y z p q r = 0 := by simp [pcN, cbG, hb]
    have e2 : pcE a b c d e f x y z p q r = 1 := by simp [pcE, cbG, hb]
    rw [e1, e2]
    rw [ha] at hA
    rw [hb] at hB
    have HA := Lib.hid hA
    have HB := Lib.hid hB
    clear ha hb hA hB e1 e2 hP
    go_enter Tryd.func92, Tryd.ntmps92
    go_wp2_with (first | (go_at_call 80; ((with_reducible refine (HA.out _).mono ?_); rintro e w' ⟨rfl, hb⟩; obtain ⟨hz, hc, hf⟩ := bcl hb (by first | (simp; rfl) | rfl))) | (go_at_call 80; ((with_reducible refine (HB.out _).mono ?_); rintro e w' ⟨rfl, hb⟩; obtain ⟨hz, hc, hf⟩ := bcl hb (by first | (simp; rfl) | rfl))))
    go_ret2
    exact ⟨rfl, by (repeat (first | (with_reducible exact bl_refl _) | (with_reducible refine bl_drew ?_) | (with_reducible refine bl_alloc ?_ _) | (with_reducible refine bl_set' ?_ ?_; · (first | omega | (simp; done) | (simp; omega))) | (with_reducible refine bl_last (by assumption) ?_) | (with_reducible refine bl_drewN ?_ _)))⟩
  have e1 : pcN a b c d e f x y z p q r = cmP a b c d e f x y z p q r := by simp [pcN, cbG, ha, hb]
  have e2 : pcE a b c d e f x y z p q r = 0 := by simp [pcE, cbG, ha, hb]
  rw [e1, e2]
  obtain ⟨h1, h2, h3, h4, h5, h6⟩ := pV_of ha
  obtain ⟨k1, k2, k3, k4, k5, k6⟩ := pV_of hb
  have h1 := wi_of h1
  have k1 := wi_of k1
  have h2 := wi_of h2
  have k2 := wi_of k2
  have h3 := wi_of h3
  have k3 := wi_of k3
  have h4 := wi_of h4
  have k4 := wi_of k4
  have h5 := wi_of h5
  have k5 := wi_of k5
  have h6 := wi_of h6
  have k6 := wi_of k6
  have q1 : IntKind.i64.wrap (a - x) = a - x := by rw [IntKind.wrap_i64]; omega
  have q2 : IntKind.i64.wrap (b - y) = b - y := by rw [IntKind.wrap_i64]; omega
  have q3 : IntKind.i64.wrap (c - z) = c - z := by rw [IntKind.wrap_i64]; omega
  have q4 : IntKind.i64.wrap (d - p) = d - p := by rw [IntKind.wrap_i64]; omega
  have q5 : IntKind.i64.wrap (e - q) = e - q := by rw [IntKind.wrap_i64]; omega
  have q6 : IntKind.i64.wrap (f - r) = f - r := by rw [IntKind.wrap_i64]; omega
  have hp : pV (a - x) (b - y) (c - z) (d - p) (e - q) (f - r) 1152 = true := pV_mk (wi_mk (by omega) (by omega)) (wi_mk (by omega) (by omega)) (wi_mk (by omega) (by omega)) (wi_mk (by omega) (by omega)) (wi_mk (by omega) (by omega)) (wi_mk (by omega) (by omega))
  rw [ha] at hA
  rw [hb] at hB
  have HA := Lib.hid hA
  have HB := Lib.hid hB
  have HF := Lib.hid (fun W hW => fraction_c (a - x) (b - y) (c - z) (d - p) (e - q) (f - r) W hp hW)
  have HP := Lib.hid hP
  unfold cmP
  generalize upN (a - x) (b - y) (c - z) (d - p) (e - q) (f - r) = U at *
  generalize dnN (a - x) (b - y) (c - z) (d - p) (e - q) (f - r) = V at *
  clear h1 h2 h3 h4 h5 h6 k1 k2 k3 k4 k5 k6 ha hb hA hB hp hP e1 e2
  go_enter Tryd.func92, Tryd.ntmps92
  go_wp2_with fail
  ((with_reducible refine (HA.out _).mono ?_); rintro en v1 ⟨rfl, e1⟩)
  obtain ⟨hz1, hc1, hf1⟩ := bcl e1 (by first | (simp; rfl) | rfl)
  have z1 : w.heap.size < v1.heap.size := by omega
  have z2 : w.heap.size + 1 < v1.heap.size := by omega
  go_wp2_with fail
  ((with_reducible refine (HB.out _).mono ?_); rintro en v2 ⟨rfl, e2⟩)
  obtain ⟨hz2, hc2, hf2⟩ := bcl e2 (by first | (simp; rfl) | rfl)
  have y1 : w.heap.size < v2.heap.size := by omega
  have y2 : w.heap.size + 1 < v2.heap.size := by omega
  go_wp2_with fail
  refine wp_loop_rounds 7 ?_
  iterate 6 (rw [rounds_succ]; go_wp2)
  refine rounds_letter ?_
  intro W3 hW3
  have k3 : Below w.heap.size w W3 := by
    rw [hW3]
    repeat (first | (with_reducible exact bl_refl _) | (with_reducible refine bl_alloc ?_ _) | (with_reducible refine bl_set' ?_ ?_; · (dsimp only; omega)) | (with_reducible refine bl_last (by assumption) ?_))
  have hD : Blk W3 w.heap.size 72 #[.int .i64 (a - x), .int .i64 (b - y), .int .i64 (c - z), .int .i64 (d - p), .int .i64 (e - q), .int .i64 (f - r)] := by
    rw [hW3]
    repeat (first | (with_reducible apply Blk.new) | (with_reducible apply blk_s) | (with_reducible apply blk_up (hb := by assumption)) | (with_reducible apply Blk.alloc))
    all_goals rfl
  clear hW3 e1 e2 hz1 hc1 hf1 hz2 hc2 hf2 z1 z2 y1 y2
  have zD := hD.lt
  have t0 := hD.cell 0
  have t1 := hD.cell 1
  have t2 := hD.cell 2
  have t3 := hD.cell 3
  have t4 := hD.cell 4
  have t5 := hD.cell 5
  simp only [List.getElem?_toArray, List.getElem?_cons_zero, List.getElem?_cons_succ] at t0 t1 t2 t3 t4 t5
  have HP3 := Lib.hid (HP.out.up k3)
  rw [rounds_succ]
  go_wp2_with fail
  ((with_reducible refine (HF.out _ HP3.out).mono ?_); rintro en v4 ⟨hb4, b, n, b', n', hk, hk', rfl, hN, h6, hN', h6'⟩)
  obtain ⟨hz4, hc4, hf4⟩ := bcl hb4 (by first | (simp; rfl) | rfl)
  go_wp2_with (go_at_call 32; ((with_reducible refine (Ncmp_c _ _ _ _ U V _ _ _ hN hN' h6 h6').mono ?_); rintro en v5 ⟨rfl, hb5⟩; obtain ⟨hz5, hc5, hf5⟩ := bcl hb5 (by first | (simp; rfl) | rfl)))
  go_ret2
  exact ⟨rfl, bl_trans (bl_trans k3 hb4) hb5⟩
end Go.Proofs.YtehifkdfbiebfaaDoor
