/- TopCircle: general steps for the region that copies the readings and appends one. -/
import Derived.Test.YtehifkdfbiebfaaDoorK43
import Derived.Test.YtehifkdfbiebfaaDoorK24
import Derived.Test.YtehifkdfbiebfaaDoorK44
import Derived.Great.BuildSlice
import Derived.Deep.RegionHeld
namespace Go.Proofs.YtehifkdfbiebfaaDoor
open Go Go.RowKit Go.Shelf

section
variable {P : Program} {ops : Array Oper} {Q : Exit → Act → World → Prop} {S : World → Prop}
def chkF (ops : Array Oper) : List Nat → Array Bool → Bool
  | [], _ => true
  | h :: hs, li => Region.free .any ops li h && ((Region.ready .any ops li).contains h && chkF ops hs (li.setIfInBounds h true))
/-- A head in a class of worlds; what follows is whatever the region may do. -/
theorem held_front {lo : List Oper} (hl : ops = lo.toArray) (hs : Region.noSelect ops = true) (hQ : ∀ c d v a w, Q (.panic c) (Act.put a d v) w → Q (.panic c) a w) (w : World) (hS : S w) (n : Nat) :
    ∀ (H : List Nat) (li : Array Bool) (a : Act), (∀ t ∈ H, t < lo.length) → chkF ops H li = true → wpHeadS P ops S (fun a' => wpAnyH P .any ops Q S n (H.foldl (fun l i => l.setIfInBounds i true) li) a' w) (pickI lo H) a → wpAnyH P .any ops Q S (H.length + n) li a w
  | [], li, a, _, hc, h => by
    rw [show ([] : List Nat).length + n = n by simp]
    exact h
  | k :: H, li, a, hH, hc, h => by
    simp only [chkF, Bool.and_eq_true] at hc
    have hk : k < lo.length := hH k (by simp)
    have h0 : lo[k]? = some lo[k] := List.getElem?_eq_getElem hk
    have hp : pickI lo (k :: H) = (k, lo[k]) :: pickI lo H := by simp [pickI, h0]
    rw [hp] at h
    obtain ⟨v, hy, hK⟩ := h
    have h2 : ops[k]? = some lo[k] := by rw [hl]; simp [hk]
    have := wpAnyH_take (fuel := H.length + n) h2 hs hc.1 hc.2.1 (fun c a w h => hQ c _ v a w h) hy hS (held_front hl hs hQ w hS n H _ _ (fun t ht => hH t (by simp [ht])) hc.2.2 hK)
    rw [show (k :: H).length + n = H.length + n + 1 by simp; omega]
    exact this
theorem wp_region_hf {id n : Nat} {a : Act} {w : World} {lo : List Oper} (S : World → Prop) (H : List Nat) (hm : P.follows .mixedOrders = true) (hs : Region.noSelect lo.toArray = true) (hc : chkF lo.toArray H (Array.replicate lo.toArray.size false) = true)
    (hlen : H.length + n = lo.length) (hb : H.all (fun i => decide (i < lo.length)) = true) (hQp : ∀ c d v a w, Q (.panic c) (Act.put a d v) w → Q (.panic c) a w) (hS : S w.drew)
    (h : wpHeadS P lo.toArray S (fun a' => wpAnyH P .any lo.toArray Q S n (H.foldl (fun l i => l.setIfInBounds i true) (Array.replicate lo.toArray.size false)) a' w.drew) (pickI lo H) a) : (Code.region id lo.toArray true).wp P Q a w := by
  have hb' : ∀ i ∈ H, i < lo.length := fun i hi => by simpa using List.all_eq_true.1 hb i hi
  have key := held_front rfl hs hQp w.drew hS n H _ a hb' hc h
  rw [hlen] at key
  refine wp_region_any hm ?_
  have := wpAny_of_held _ _ _ _ key
  simpa using this
end
section
variable {ops : Array Oper} {o : Oper} {a : Act} {K : Act → World → Prop} {Q : Exit → Act → World → Prop} {E : Prop} {W : World}
theorem step_bs0 (hgd : o.guard = none) (ho : o.op = .buildSlice 33 0 #[]) (h : K (a.put o.dst (.slice (some ⟨W.heap.size, 0, none⟩) 0 0)) (W.alloc (.cells #[] 41))) : if Region.wanted o (yielded ops a.tmps) = true then Oper.wp Tryd.prog o a W K Q else E := by
  rw [if_pos (wanted_free hgd)]
  unfold Oper.wp execOp
  simp only [ho]
  go_simp
  exact h
theorem step_bs1 (hgd : o.guard = none) {x : Operand} (ho : o.op = .buildSlice 33 1 #[(0, x)]) {i0 i1 i2 i3 : Int} (hx : a.eval x = .agg #[.int .i64 i0, .int .i64 i1, .int .i64 i2, .int .i64 i3])
    (h : K (a.put o.dst (.slice (some ⟨W.heap.size, 0, none⟩) 1 1)) (W.alloc (.cells #[.int .i64 i0, .int .i64 i1, .int .i64 i2, .int .i64 i3] 41))) : if Region.wanted o (yielded ops a.tmps) = true then Oper.wp Tryd.prog o a W K Q else E := by
  rw [if_pos (wanted_free hgd)]
  unfold Oper.wp execOp
  simp only [ho, List.map_toArray, List.map_cons, List.map_nil, hx]
  go_simp
  exact h
theorem step_asg (hgd : o.guard = none) {x : Operand} (ho : o.op = .assign x) (h : K (a.put o.dst (a.eval x)) W) : if Region.wanted o (yielded ops a.tmps) = true then Oper.wp Tryd.prog o a W K Q else E := by
  rw [if_pos (wanted_free hgd)]
  unfold Oper.wp execOp
  simp only [ho]
  exact h
theorem run_bld {P : Program} {X : World} {e : Operand → Value} {t : TypeId} {parts : Array (Nat × Operand)} {pv : Array (Nat × Value)} {cells : Array Value}
    (ho : o.op = .build t parts) (hp : parts.map (fun p => (p.1, e p.2)) = pv) (hb : P.built t pv.toList = some cells) : (execOp e o).run P X = .ok (.value (.agg cells)) X := by
  unfold execOp
  rw [ho]
  have := run_build (P := P) X t pv cells hb
  rw [← hp] at this
  simp only [Sem.run_bind, this, Result.andThen, Sem.run_pure]
theorem wp_seq_k {P : Program} {x y : Code} {Q : Exit → Act → World → Prop} {a : Act} {w : World} (T : Code) (hT : T = y) (h : ∀ K : Act → World → Prop, Hid (∀ a w, Code.wp P T Q a w → K a w) → x.wp P (Exit.then K Q) a w) : (Code.seq x y).wp P Q a w := by
  subst hT
  exact wp_seq (h _ (Lib.hid fun _ _ h => h))
end
end Go.Proofs.YtehifkdfbiebfaaDoor
