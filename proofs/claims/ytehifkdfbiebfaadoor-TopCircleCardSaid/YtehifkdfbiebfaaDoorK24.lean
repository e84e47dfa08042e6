/- A region that draws its order within a round of a range over a function: by the law of a plain region. A region that draws its order and stores, within a round of a range over a function: what yields in every world of a class S is walked first; the tail comes in one order and keeps to S. -/
import Derived.Test.YtehifkdfbiebfaaDoorK02
import Derived.RangeFuncNested
import Derived.RangeFuncCalls
import Derived.TacticsInMore
import Derived.OrdersIn
import Derived.OrdersHeld
namespace Go.Proofs.YtehifkdfbiebfaaDoor
open Go Go.RowKit
section
variable {P : Program} {ops : Array Oper} {Q : Exit → Act → World → Prop} {l n : Nat}

def noDefer (ops : Array Oper) : Bool := ops.all fun o => match o.op with | .defer _ => false | _ => true
theorem noDefer_spec (h : noDefer ops = true) {i : Nat} {o : Oper} (ho : ops[i]? = some o) : ∀ c, o.op ≠ .defer c := fun c e => by
  have := Array.all_eq_true_iff_forall_mem.1 h o (Array.mem_of_getElem? ho)
  rw [e] at this
  cases this
theorem upon_in {o : Oper} {a : Act} {K : Act → World → Prop} : ∀ {r : Result Next}, o.upon P a K Q r → o.uponIn (Fence.wide.inRound l) n P a K Q r
  | .ok (.value _) _, h => h
  | .ok .skip _, h => h
  | .ok (.defer _) _, h => h
  | .ok (.enter _ _) _, h => ⟨(fun h => by cases h), CallsIn.inRound l (callsIn_wide.2 h)⟩
  | .ok (.row _ _) _, h => ⟨(fun h => by cases h), fun c cs _ => let ⟨v, w', r, s⟩ := h c cs; ⟨v, w', r, stepsIn_wide.2 s⟩⟩
  | .ok (.round ..) _, h => h.elim
  | .halt (.panic _) _, h => h
  | .halt (.unsupported _) _, h => h.elim
  | .halt (.stuck _) _, h => h.elim
theorem wp_in {o : Oper} {a : Act} {w : World} {K : Act → World → Prop} (hd : ∀ c, o.op ≠ .defer c) (h : o.wp P a w K Q) : o.wpIn (Fence.wide.inRound l) n P a w K Q := by
  refine ⟨fun _ _ => trivial, ?_⟩
  show o.uponIn _ _ _ _ _ _ ((o.semAt (some l) a.eval).run P w)
  rw [Oper.semAt_some l _ _ hd]
  exact upon_in h
theorem any_in (hd : noDefer ops = true) (hQ : ¬ LetsOut Q) : ∀ (f : Nat) (listed : Array Bool) (a : Act) (w : World), wpAny P .any ops Q f listed a w → wpAnyIn (Fence.wide.inRound l) n P .any ops Q f listed a w
  | 0, _, _, _, h => h
  | f + 1, listed, a, w, h => ⟨h.1, fun i hi => by
    have h2 := h.2 i hi
    unfold wpOp at h2
    unfold wpOpIn
    cases ho : ops[i]? with
    | none => rw [ho] at h2; exact any_in hd hQ f _ _ _ h2
    | some o =>
      rw [ho] at h2
      simp only at h2 ⊢
      split
      · rename_i hw
        rw [if_pos hw] at h2
        rcases h2 with h2 | h2
        · exact wp_in (noDefer_spec hd ho) (Oper.wp_mono (fun a w h => any_in hd hQ f _ _ _ h) h2)
        · exact absurd h2.2 hQ
      · rename_i hw
        rw [if_neg hw] at h2
        exact ⟨fun _ _ => trivial, any_in hd hQ f _ _ _ h2⟩⟩
/-- The law of a plain region (head and tail) within a round. -/
theorem wpIn_region_bl {id : Nat} {a : Act} {w : World} {lo : List Oper} (H T : List Nat) (hm : P.follows .mixedOrders = true) (hB : headTailB lo.toArray H [] T = true) (hd : noDefer lo.toArray = true) (hQ : ¬ LetsOut Q)
    (hlen : H.length + T.length = lo.length)
    (h : wpHeadO P lo.toArray (Bl w) [] (fun a' => ∀ w', Bl w w' → wpList P lo.toArray Q (pick lo T) a' w') (pickI lo H) a) : (Code.region id lo.toArray true).wpIn (Fence.wide.inRound l) n P Q a w := by
  simp only [headTailB, Bool.and_eq_true, List.all_eq_true, decide_eq_true_eq, Bool.not_eq_true', List.mem_range, Bool.or_eq_true, List.contains_iff_mem] at hB
  obtain ⟨⟨⟨⟨⟨⟨hsel, hcov⟩, hH⟩, hT⟩, hTH⟩, hpair⟩, hseq⟩ := hB
  have hT' : ∀ t ∈ T, t < lo.toArray.size ∧ t ∉ H := fun t ht => ⟨(hT t ht).1, fun hh => by
    have := (hT t ht).2
    rw [List.contains_iff_mem.2 hh] at this
    cases this⟩
  have inv0 : Inv .any lo.toArray T (Array.replicate lo.toArray.size false) :=
    ⟨by simp, fun j oj _ hl => (by rw [getD_replicate_false] at hl; cases hl), fun t ht => getD_in (by simpa using (hT' t ht).1) (getD_replicate_false _ _)⟩
  refine wpIn_region_any hm (any_in hd hQ _ _ _ _ ?_)
  have key := wpAny_of_head' (P := P) (ops := lo.toArray) (C := Bl w) (E := []) (Q' := Q) hsel hcov hH hT' hTH hseq (fun h => absurd rfl h) H.length H (Array.replicate lo.toArray.size false) a rfl (fun _ h => h) hpair inv0
    (fun i hi => ⟨fun _ => hcov i hi, fun _ => getD_in (by simpa using hi) (getD_replicate_false _ _)⟩) (head_of_O H a (fun i hi => by simpa using (hH i hi).1) (by simpa using h)) w.drew (bl_drew (bl_refl w))
  rw [hlen] at key
  exact key
end
end Go.Proofs.YtehifkdfbiebfaaDoor
namespace Go.Proofs.YtehifkdfbiebfaaDoor
open Go Go.RowKit
section
variable {P : Program} {ops : Array Oper} {Q : Exit → Act → World → Prop} {S : World → Prop}

def chkT (ops : Array Oper) : List Nat → Array Bool → Bool
  | [], li => (Region.ready .any ops li).isEmpty
  | t :: ts, li => decide (Region.ready .any ops li = [t]) && chkT ops ts (li.setIfInBounds t true)
def chkH (ops : Array Oper) (T : List Nat) : List Nat → Array Bool → Bool
  | [], li => chkT ops T li
  | h :: hs, li => Region.free .any ops li h && ((Region.ready .any ops li).contains h && chkH ops T hs (li.setIfInBounds h true))
def wpTailS (P : Program) (ops : Array Oper) (S : World → Prop) (Q : Exit → Act → World → Prop) : List (Nat × Oper) → Act → World → Prop
  | [], a, w => Q .normal a w
  | (_, o) :: ts, a, w => ∀ K : Act → World → Prop, Hid (∀ a' w', S w' → wpTailS P ops S Q ts a' w' → K a' w') → (if Region.wanted o (yielded ops a.tmps) = true then o.wp P a w K Q else K (a.put o.dst undef) w)
def wpHeadS (P : Program) (ops : Array Oper) (S : World → Prop) (R : Act → Prop) : List (Nat × Oper) → Act → Prop
  | [], a => R a
  | (_, o) :: ks, a => ∃ v, YieldsIf P ops S o v a ∧ wpHeadS P ops S R ks (a.put o.dst v)
theorem held_tail {lo : List Oper} (hl : ops = lo.toArray) : ∀ (T : List Nat) (li : Array Bool) (a : Act) (w : World), (∀ t ∈ T, t < lo.length) → chkT ops T li = true → wpTailS P ops S Q (pickI lo T) a w → wpAnyH P .any ops Q S T.length li a w
  | [], li, a, w, _, hc, h => wpAnyH_done (by simpa [chkT] using hc) h _
  | t :: ts, li, a, w, ht, hc, h => by
    simp only [chkT, Bool.and_eq_true, decide_eq_true_eq] at hc
    have hk : t < lo.length := ht t (by simp)
    have h0 : lo[t]? = some lo[t] := List.getElem?_eq_getElem hk
    have hp : pickI lo (t :: ts) = (t, lo[t]) :: pickI lo ts := by simp [pickI, h0]
    rw [hp] at h
    refine wpAnyH_all hc.1 (by simp) (fun i hi => ?_)
    obtain rfl : i = t := by simpa using hi
    have h1 := h (fun a' w' => S w' ∧ wpAnyH P .any ops Q S ts.length (li.setIfInBounds i true) a' w') (Lib.hid (fun a' w' hs hw => ⟨hs, held_tail hl ts _ a' w' (fun t ht' => ht t (by simp [ht'])) hc.2 hw⟩))
    unfold wpOp
    have h2 : ops[i]? = some lo[i] := by rw [hl]; simp [hk]
    rw [h2]
    simp only
    split
    · rename_i hw
      rw [if_pos hw] at h1
      exact .inl h1
    · rename_i hw
      rw [if_neg hw] at h1
      exact h1
theorem held_head {lo : List Oper} (hl : ops = lo.toArray) (hs : Region.noSelect ops = true) (hQ : ∀ c d v a w, Q (.panic c) (Act.put a d v) w → Q (.panic c) a w) (T : List Nat) (w : World) (hS : S w) (hT : ∀ t ∈ T, t < lo.length) :
    ∀ (H : List Nat) (li : Array Bool) (a : Act), (∀ t ∈ H, t < lo.length) → chkH ops T H li = true → wpHeadS P ops S (fun a' => wpTailS P ops S Q (pickI lo T) a' w) (pickI lo H) a → wpAnyH P .any ops Q S (H.length + T.length) li a w
  | [], li, a, _, hc, h => by simpa using held_tail hl T li a w hT hc h
  | k :: H, li, a, hH, hc, h => by
    simp only [chkH, Bool.and_eq_true] at hc
    have hk : k < lo.length := hH k (by simp)
    have h0 : lo[k]? = some lo[k] := List.getElem?_eq_getElem hk
    have hp : pickI lo (k :: H) = (k, lo[k]) :: pickI lo H := by simp [pickI, h0]
    rw [hp] at h
    obtain ⟨v, hy, hK⟩ := h
    have h2 : ops[k]? = some lo[k] := by rw [hl]; simp [hk]
    have := wpAnyH_take (fuel := H.length + T.length) h2 hs hc.1 hc.2.1 (fun c a w h => hQ c _ v a w h) hy hS (held_head hl hs hQ T w hS hT H _ _ (fun t ht => hH t (by simp [ht])) hc.2.2 hK)
    rw [show (k :: H).length + T.length = H.length + T.length + 1 by simp; omega]
    exact this
theorem wpIn_region_ht {id l n : Nat} {a : Act} {w : World} {lo : List Oper} (S : World → Prop) (H T : List Nat) (hm : P.follows .mixedOrders = true) (hs : Region.noSelect lo.toArray = true) (hc : chkH lo.toArray T H (Array.replicate lo.toArray.size false) = true)
    (hd : noDefer lo.toArray = true) (hQ : ¬ LetsOut Q) (hlen : H.length + T.length = lo.length) (hb : (H ++ T).all (fun i => decide (i < lo.length)) = true) (hQp : ∀ c d v a w, Q (.panic c) (Act.put a d v) w → Q (.panic c) a w) (hS : S w.drew)
    (h : wpHeadS P lo.toArray S (fun a' => wpTailS P lo.toArray S Q (pickI lo T) a' w.drew) (pickI lo H) a) : (Code.region id lo.toArray true).wpIn (Fence.wide.inRound l) n P Q a w := by
  have hb' : ∀ i ∈ H ++ T, i < lo.length := fun i hi => by simpa using List.all_eq_true.1 hb i hi
  have key := held_head rfl hs hQp T w.drew hS (fun t ht => hb' t (by simp [ht])) H _ a (fun t ht => hb' t (by simp [ht])) hc h
  rw [hlen] at key
  refine wpIn_region_any hm (any_in hd hQ _ _ _ _ ?_)
  have := wpAny_of_held _ _ _ _ key
  simpa using this
theorem wp_region_ht {id : Nat} {a : Act} {w : World} {lo : List Oper} (S : World → Prop) (H T : List Nat) (hm : P.follows .mixedOrders = true) (hs : Region.noSelect lo.toArray = true) (hc : chkH lo.toArray T H (Array.replicate lo.toArray.size false) = true)
    (hlen : H.length + T.length = lo.length) (hb : (H ++ T).all (fun i => decide (i < lo.length)) = true) (hQp : ∀ c d v a w, Q (.panic c) (Act.put a d v) w → Q (.panic c) a w) (hS : S w.drew)
    (h : wpHeadS P lo.toArray S (fun a' => wpTailS P lo.toArray S Q (pickI lo T) a' w.drew) (pickI lo H) a) : (Code.region id lo.toArray true).wp P Q a w := by
  have hb' : ∀ i ∈ H ++ T, i < lo.length := fun i hi => by simpa using List.all_eq_true.1 hb i hi
  have key := held_head rfl hs hQp T w.drew hS (fun t ht => hb' t (by simp [ht])) H _ a (fun t ht => hb' t (by simp [ht])) hc h
  rw [hlen] at key
  refine wp_region_any hm ?_
  have := wpAny_of_held _ _ _ _ key
  simpa using this
variable {R : Act → Prop} {a : Act} {w : World} {o : Oper} {k : Nat} {ks : List (Nat × Oper)}
theorem hs_val (hw : Region.wanted o (yielded ops a.tmps) = true) (h : ∃ v, (∀ w, S w → (execOp a.eval o).run P w = .ok (.value v) w) ∧ wpHeadS P ops S R ks (a.put o.dst v)) : wpHeadS P ops S R ((k, o) :: ks) a :=
  h.elim fun v hv => ⟨v, .inl ⟨hw, hv.1⟩, hv.2⟩
theorem hs_pass (hw : Region.wanted o (yielded ops a.tmps) = false) (h : wpHeadS P ops S R ks (a.put o.dst undef)) : wpHeadS P ops S R ((k, o) :: ks) a := ⟨undef, .inr ⟨hw, rfl⟩, h⟩
theorem hs_nil (h : R a) : wpHeadS P ops S R [] a := h
theorem ts_op (hw : Region.wanted o (yielded ops a.tmps) = true) (h : ∀ K : Act → World → Prop, Hid (∀ a' w', S w' → wpTailS P ops S Q ks a' w' → K a' w') → o.wp P a w K Q) : wpTailS P ops S Q ((k, o) :: ks) a w := fun K hK => by rw [if_pos hw]; exact h K hK
theorem ts_pass (hw : Region.wanted o (yielded ops a.tmps) = false) (hS : S w) (h : wpTailS P ops S Q ks (a.put o.dst undef) w) : wpTailS P ops S Q ((k, o) :: ks) a w := fun K hK => by rw [if_neg (by rw [hw]; exact Bool.false_ne_true)]; exact hK.out _ _ hS h
theorem ts_nil (h : Q .normal a w) : wpTailS P ops S Q [] a w := h
end
end Go.Proofs.YtehifkdfbiebfaaDoor
