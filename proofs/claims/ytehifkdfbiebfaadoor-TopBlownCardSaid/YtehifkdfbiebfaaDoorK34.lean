/- A region that draws its order within a round of a range over a function: by the law of a plain region. -/
import Derived.Test.YtehifkdfbiebfaaDoorK03
import Derived.RangeFuncNested
import Derived.RangeFuncCalls
import Derived.TacticsInMore
import Derived.OrdersIn
namespace Go.Proofs.YtehifkdfbiebfaaDoor
open Go Go.RowKit
section
variable {P : Program} {ops : Array Oper} {Q : Exit → Act → World → Prop} {l n : Nat}

def noDefer (ops : Array Oper) : Bool := ops.all fun o => match o.op with | .defer _ => false | _ => true
theorem noDefer_spec (h : noDefer ops = true) {i : Nat} {o : Oper} (ho : ops[i]? = some o) : ∀ c, o.op ≠ .defer c := fun c e => by
  have := Array.all_eq_true_iff_forall_mem.1 h o (Array.mem_of_getElem? ho)
  rw [e] at this
  cases this
theorem upon_in {o : Oper} {a : Act} {K : Act → World → Prop} : ∀ {r : Result Next}, o.upon P a K Q r → o.uponIn (Fence.wide.inRound l) n P a K Q r
  | .ok (.value _) _, h => h
  | .ok .skip _, h => h
  | .ok (.defer _) _, h => h
  | .ok (.enter _ _) _, h => ⟨(fun h => by cases h), CallsIn.inRound l (callsIn_wide.2 h)⟩
  | .ok (.row _ _) _, h => ⟨(fun h => by cases h), fun c cs _ => let ⟨v, w', r, s⟩ := h c cs; ⟨v, w', r, stepsIn_wide.2 s⟩⟩
  | .ok (.round ..) _, h => h.elim
  | .halt (.panic _) _, h => h
  | .halt (.unsupported _) _, h => h.elim
  | .halt (.stuck _) _, h => h.elim
theorem wp_in {o : Oper} {a : Act} {w : World} {K : Act → World → Prop} (hd : ∀ c, o.op ≠ .defer c) (h : o.wp P a w K Q) : o.wpIn (Fence.wide.inRound l) n P a w K Q := by
  refine ⟨fun _ _ => trivial, ?_⟩
  show o.uponIn _ _ _ _ _ _ ((o.semAt (some l) a.eval).run P w)
  rw [Oper.semAt_some l _ _ hd]
  exact upon_in h
theorem any_in (hd : noDefer ops = true) (hQ : ¬ LetsOut Q) : ∀ (f : Nat) (listed : Array Bool) (a : Act) (w : World), wpAny P .any ops Q f listed a w → wpAnyIn (Fence.wide.inRound l) n P .any ops Q f listed a w
  | 0, _, _, _, h => h
  | f + 1, listed, a, w, h => ⟨h.1, fun i hi => by
    have h2 := h.2 i hi
    unfold wpOp at h2
    unfold wpOpIn
    cases ho : ops[i]? with
    | none => rw [ho] at h2; exact any_in hd hQ f _ _ _ h2
    | some o =>
      rw [ho] at h2
      simp only at h2 ⊢
      split
      · rename_i hw
        rw [if_pos hw] at h2
        rcases h2 with h2 | h2
        · exact wp_in (noDefer_spec hd ho) (Oper.wp_mono (fun a w h => any_in hd hQ f _ _ _ h) h2)
        · exact absurd h2.2 hQ
      · rename_i hw
        rw [if_neg hw] at h2
        exact ⟨fun _ _ => trivial, any_in hd hQ f _ _ _ h2⟩⟩
/-- The law of a plain region (head and tail) within a round. -/
theorem wpIn_region_bl {id : Nat} {a : Act} {w : World} {lo : List Oper} (H T : List Nat) (hm : P.follows .mixedOrders = true) (hB : headTailB lo.toArray H [] T = true) (hd : noDefer lo.toArray = true) (hQ : ¬ LetsOut Q)
    (hlen : H.length + T.length = lo.length)
    (h : wpHeadO P lo.toArray (Bl w) [] (fun a' => ∀ w', Bl w w' → wpList P lo.toArray Q (pick lo T) a' w') (pickI lo H) a) : (Code.region id lo.toArray true).wpIn (Fence.wide.inRound l) n P Q a w := by
  simp only [headTailB, Bool.and_eq_true, List.all_eq_true, decide_eq_true_eq, Bool.not_eq_true', List.mem_range, Bool.or_eq_true, List.contains_iff_mem] at hB
  obtain ⟨⟨⟨⟨⟨⟨hsel, hcov⟩, hH⟩, hT⟩, hTH⟩, hpair⟩, hseq⟩ := hB
  have hT' : ∀ t ∈ T, t < lo.toArray.size ∧ t ∉ H := fun t ht => ⟨(hT t ht).1, fun hh => by
    have := (hT t ht).2
    rw [List.contains_iff_mem.2 hh] at this
    cases this⟩
  have inv0 : Inv .any lo.toArray T (Array.replicate lo.toArray.size false) :=
    ⟨by simp, fun j oj _ hl => (by rw [getD_replicate_false] at hl; cases hl), fun t ht => getD_in (by simpa using (hT' t ht).1) (getD_replicate_false _ _)⟩
  refine wpIn_region_any hm (any_in hd hQ _ _ _ _ ?_)
  have key := wpAny_of_head' (P := P) (ops := lo.toArray) (C := Bl w) (E := []) (Q' := Q) hsel hcov hH hT' hTH hseq (fun h => absurd rfl h) H.length H (Array.replicate lo.toArray.size false) a rfl (fun _ h => h) hpair inv0
    (fun i hi => ⟨fun _ => hcov i hi, fun _ => getD_in (by simpa using hi) (getD_replicate_false _ _)⟩) (head_of_O H a (fun i hi => by simpa using (hH i hi).1) (by simpa using h)) w.drew (bl_drew (bl_refl w))
  rw [hlen] at key
  exact key
end
end Go.Proofs.YtehifkdfbiebfaaDoor
