/- The tail of a drawn region as a plan: runs that are forced, and pure operations taken as soon as they may come; the whole law. -/
import Derived.Test.YtkgklmmkkhbimaaRegion4
namespace Go.Proofs.Ytkgklmmkkhbimaa
open Go Go.RowKit

section
variable {P : Program} {ops : Array Oper} {Q' : Exit → Act → World → Prop}

def wpPures (P : Program) (ops : Array Oper) (K : Act → World → Prop) : List Nat → Act → World → Prop
  | [], a, w => K a w
  | k :: ks, a, w => ∃ o v, ops[k]? = some o ∧ Yields P ops o v a ∧ wpPures P ops K ks (a.put o.dst v) w
def wpPlan (P : Program) (ops : Array Oper) (Q' : Exit → Act → World → Prop) : List (List Nat × List Nat) → Act → World → Prop
  | [], a, w => Q' .normal a w
  | (run, pures) :: rest, a, w => wpList P ops (Exit.then (fun a w => wpPures P ops (wpPlan P ops Q' rest) pures a w) Q') (pick ops.toList run) a w
def runB (ops : Array Oper) : List Nat → Array Bool → Option (Array Bool)
  | [], l => some l
  | k :: ks, l => if Region.ready .any ops l = [k] then runB ops ks (l.setIfInBounds k true) else none
def pureB (ops : Array Oper) : List Nat → Array Bool → Option (Array Bool)
  | [], l => some l
  | k :: ks, l => if (Region.ready .any ops l).contains k && (List.range ops.size).all (fun j => l.getD j true || j == k || waits ops j k || apartB ops k j) then pureB ops ks (l.setIfInBounds k true) else none
def planB (ops : Array Oper) : List (List Nat × List Nat) → Array Bool → Bool
  | [], l => (Region.ready .any ops l).isEmpty
  | (run, pures) :: rest, l => match runB ops run l with
    | none => false
    | some l' => match pureB ops pures l' with
      | none => false
      | some l'' => planB ops rest l''
def planLen : List (List Nat × List Nat) → Nat
  | [] => 0
  | (run, pures) :: rest => run.length + pures.length + planLen rest

theorem pures_cons {K : Act → World → Prop} {k : Nat} {ks : List Nat} {a : Act} {w : World} {o : Oper} (ho : ops[k]? = some o) (hw : Region.wanted o (yielded ops a.tmps) = true)
    (h : ∃ v, (∀ w, (execOp a.eval o).run P w = .ok (.value v) w) ∧ wpPures P ops K ks (a.put o.dst v) w) : wpPures P ops K (k :: ks) a w :=
  h.elim fun v hv => ⟨o, v, ho, .inl ⟨hw, hv.1⟩, hv.2⟩
theorem pures_nil {K : Act → World → Prop} {a : Act} {w : World} (h : K a w) : wpPures P ops K [] a w := h
theorem wpOp_then {K K' : Act → World → Prop} {i : Nat} {a : Act} {w : World} (h : wpOp P ops (Exit.then K' Q') i K a w) : wpOp P ops Q' i K a w := by
  unfold wpOp at *
  cases ho : ops[i]? with
  | none => rw [ho] at h; exact h
  | some o =>
    rw [ho] at h
    simp only at h ⊢
    split
    · rename_i hw
      rw [if_pos hw] at h
      refine h.imp (fun h => ?_) (fun h => h)
      unfold Oper.wp at *
      revert h
      cases (execOp a.eval o).run P w with
      | halt x w1 => cases x <;> exact id
      | ok nx w1 =>
        cases nx with
        | enter f args => exact fun h => h.mono fun e w2 h2 => by cases e <;> exact h2
        | _ => exact id
    · rename_i hw
      rw [if_neg hw] at h
      exact h
theorem run_sound {K : Act → World → Prop} (n : Nat) : ∀ (run : List Nat) (l l' : Array Bool) (a : Act) (w : World), runB ops run l = some l' → (∀ a w, K a w → wpAny P .any ops Q' n l' a w) → wpList P ops (Exit.then K Q') (pick ops.toList run) a w → wpAny P .any ops Q' (run.length + n) l a w
  | [], l, l', a, w, hB, hK, h => by
    rw [List.length_nil, Nat.zero_add]
    simp only [runB, Option.some.injEq] at hB
    subst hB
    exact hK a w h
  | k :: ks, l, l', a, w, hB, hK, h => by
    simp only [runB] at hB
    split at hB
    · rename_i hr
      have hk : k < ops.size := by
        have : k ∈ Region.ready .any ops l := by rw [hr]; simp
        obtain ⟨_, o, ho, _⟩ := mem_ready.1 this
        exact (Array.getElem?_eq_some_iff.1 ho).1
      have h0 : ops[k]? = some ops[k] := Array.getElem?_eq_getElem hk
      have hp : pick ops.toList (k :: ks) = ops[k] :: pick ops.toList ks := by simp [pick, hk]
      rw [hp] at h
      rw [List.length_cons, show ks.length + 1 + n = (ks.length + n) + 1 by omega]
      refine ⟨fun h1 => (by rw [hr] at h1; cases h1), fun i hi => ?_⟩
      rw [hr] at hi
      have hik : i = k := by simpa using hi
      subst hik
      have hw : wpOp P ops (Exit.then K Q') i (wpList P ops (Exit.then K Q') (pick ops.toList ks)) a w := by unfold wpOp; simp only [h0]; exact h
      exact wpOp_mono (fun a' w' h' => run_sound n ks _ l' a' w' hB hK h') (wpOp_then hw)
    · cases hB
theorem pure_sound (hsel : Region.noSelect ops = true) (hQ : ∀ c d v a w, Q' (.panic c) (Act.put a d v) w → Q' (.panic c) a w) {K : Act → World → Prop} (n : Nat) : ∀ (ks : List Nat) (l l' : Array Bool) (a : Act) (w : World), pureB ops ks l = some l' → l.size = ops.size → (∀ a w, K a w → wpAny P .any ops Q' n l' a w) → wpPures P ops K ks a w → wpAny P .any ops Q' (ks.length + n) l a w
  | [], l, l', a, w, hB, _, hK, h => by
    rw [List.length_nil, Nat.zero_add]
    simp only [pureB, Option.some.injEq] at hB
    subst hB
    exact hK a w h
  | k :: ks, l, l', a, w, hB, hs, hK, h => by
    simp only [pureB] at hB
    split at hB
    · rename_i hr
      simp only [Bool.and_eq_true, List.all_eq_true, List.mem_range, Bool.or_eq_true, List.contains_iff_mem, beq_iff_eq] at hr
      obtain ⟨hkr, hall⟩ := hr
      obtain ⟨o, v, ho, hy, hK'⟩ := h
      have hnext := pure_sound hsel hQ n ks _ l' _ w hB (by simp [hs]) hK hK'
      rw [List.length_cons, show ks.length + 1 + n = (ks.length + n) + 1 by omega]
      refine wpAny_first ho (Region.noSelect_spec hsel) (fun c a w => hQ c _ _ a w) _ l a w (fun j oj hoj hjk hju hno => ?_) hkr hy hnext
      have hjs : j < ops.size := (Array.getElem?_eq_some_iff.1 hoj).1
      rcases hall j hjs with ((h1 | h1) | h1) | h1
      · rw [h1] at hju; cases hju
      · exact absurd h1 hjk
      · obtain ⟨e, he, hbd, hon⟩ := (waits_iff hoj).1 h1
        exact absurd hon (hno e he hbd)
      · simpa [apartB, ho, hoj] using h1
    · cases hB
theorem runB_size : ∀ (run : List Nat) (l l' : Array Bool), runB ops run l = some l' → l'.size = l.size
  | [], l, l', h => by simp only [runB, Option.some.injEq] at h; rw [h]
  | k :: ks, l, l', h => by
    simp only [runB] at h
    split at h
    · rw [runB_size ks _ l' h]; simp
    · cases h
theorem pureB_size : ∀ (ks : List Nat) (l l' : Array Bool), pureB ops ks l = some l' → l'.size = l.size
  | [], l, l', h => by simp only [pureB, Option.some.injEq] at h; rw [h]
  | k :: ks, l, l', h => by
    simp only [pureB] at h
    split at h
    · rw [pureB_size ks _ l' h]; simp
    · cases h
theorem plan_sound (hsel : Region.noSelect ops = true) (hQ : ∀ c d v a w, Q' (.panic c) (Act.put a d v) w → Q' (.panic c) a w) : ∀ (plan : List (List Nat × List Nat)) (l : Array Bool) (a : Act) (w : World), planB ops plan l = true → l.size = ops.size → wpPlan P ops Q' plan a w → wpAny P .any ops Q' (planLen plan) l a w
  | [], l, a, w, hB, _, h => ⟨by simpa [planB] using hB, h⟩
  | (run, pures) :: rest, l, a, w, hB, hs, h => by
    simp only [planB] at hB
    cases h1 : runB ops run l with
    | none => rw [h1] at hB; cases hB
    | some l' =>
      rw [h1] at hB
      simp only at hB
      cases h2 : pureB ops pures l' with
      | none => rw [h2] at hB; cases hB
      | some l'' =>
        rw [h2] at hB
        simp only at hB
        have hs1 := runB_size run l l' h1
        have hs2 := pureB_size pures l' l'' h2
        show wpAny P .any ops Q' (run.length + pures.length + planLen rest) l a w
        rw [Nat.add_assoc]
        exact run_sound _ run l l' a w h1 (fun a w hp => pure_sound hsel hQ _ pures l' l'' a w h2 (by omega) (fun a w hk => plan_sound hsel hQ rest l'' a w hB (by omega) hk) hp) h
end

section
variable {P : Program} {w0 : World} {E : List Nat}
/-- The static look. 'H' the head in the order of its walk, 'E' those of it that yield in whatever world, 'M' the makers, 'plan' the rest. -/
def genB (ops : Array Oper) (H E M : List Nat) (plan : List (List Nat × List Nat)) : Bool :=
  let T := (List.range ops.size).filter fun i => !(M ++ H).contains i
  Region.noSelect ops && (M ++ H).all (fun i => decide (i < ops.size) && depsB ops (M ++ H) i) && T.all (fun t => (M ++ H).all fun i => (E.contains i || reachB .any ops 8 t i) && (waits ops t i || apartB ops i t)) &&
    (List.range ops.size).all (fun i => match ops[i]? with | some o => o.after.all (fun e => !Region.binds .any e || decide (e.on < i)) | none => true) && pairB ops H &&
    M.all (fun m => (match ops[m]? with | some om => om.guard.isNone | none => false) && H.all (fun j => (waits ops m j || (apartB ops m j && apartB ops j m)) && m != j)) && M.all (fun m => M.all fun m' => m == m' || apartB ops m m') &&
    T.all (fun t => M.all fun m => reachB .any ops 8 t m) && decide (planLen plan = T.length) && planB ops plan (LF ops (M ++ H))
/-- The makers' part of what is asked behind the head. -/
def MkAll (P : Program) (l : List Oper) (w0 : World) (Q' : Exit → Act → World → Prop) (plan : List (List Nat × List Nat)) : (World → Prop) → List (Nat × (Value → World → Prop)) → Act → Prop
  | S, [], a => ∀ w', S w' → wpPlan P l.toArray Q' plan a w'
  | S, (m, Φ) :: ms, a => match l[m]? with
    | none => False
    | some om => Mk P w0 om Φ a ∧ ∀ v, MkAll P l w0 Q' plan (fun w => S w ∧ Φ v w) ms (a.put om.dst v)
theorem MkAll.toQG {l : List Oper} {Q' : Exit → Act → World → Prop} {plan : List (List Nat × List Nat)} {n0 : Nat} {lf : Array Bool} (hp : ∀ a w, wpPlan P l.toArray Q' plan a w → wpAny P .any l.toArray Q' n0 lf a w) :
    ∀ (ms : List (Nat × (Value → World → Prop))) (S : World → Prop) (a : Act), MkAll P l w0 Q' plan S ms a → QG P l.toArray w0 Q' n0 lf S ms a
  | [], _, _, h => fun w' hw => hp _ _ (h w' hw)
  | (m, Φ) :: ms, S, a, h => by
    simp only [MkAll] at h
    cases hm : l[m]? with
    | none => rw [hm] at h; exact h.elim
    | some om =>
      rw [hm] at h
      exact ⟨om, by simpa using hm, h.1, fun v => MkAll.toQG hp ms _ _ (h.2 v)⟩

/-- **A REGION THAT DRAWS ITS ORDER: head, makers, plan.** -/
theorem wp_region_gen {id : Nat} {Q : Exit → Act → World → Prop} {a : Act} {w : World} {l : List Oper} (H E : List Nat) (ms : List (Nat × (Value → World → Prop))) (plan : List (List Nat × List Nat)) (hm : P.follows .mixedOrders = true)
    (hB : genB l.toArray H E (ms.map (·.1)) plan = true) (hn : (ms.map (·.1)).Nodup) (hlen : ms.length + H.length + planLen plan = l.length) (hQ : ∀ c d v a w, Q (.panic c) (Act.put a d v) w → Q (.panic c) a w)
    (h : wpHeadZO P l.toArray w E (MkAll P l w Q plan (Bl w) ms) (pickI l H) a) : (Code.region id l.toArray true).wp P Q a w := by
  simp only [genB, Bool.and_eq_true, List.all_eq_true, decide_eq_true_eq, Bool.not_eq_true', List.mem_range, Bool.or_eq_true, List.contains_iff_mem, bne_iff_ne, ne_eq, beq_iff_eq] at hB
  obtain ⟨⟨⟨⟨⟨⟨⟨⟨⟨hsel, hH⟩, hTH⟩, hlex⟩, hpair⟩, hMH⟩, hMM⟩, hrT⟩, hpl⟩, hplan⟩ := hB
  generalize hM : ms.map (·.1) = M at *
  generalize hT : ((List.range l.toArray.size).filter fun i => !(M ++ H).contains i) = T at *
  have hTm : ∀ t, t ∈ T ↔ t < l.toArray.size ∧ t ∉ M ++ H := fun t => by
    rw [← hT, List.mem_filter, List.mem_range]
    simp
  have inv0 : Inv .any l.toArray T (Array.replicate l.toArray.size false) :=
    ⟨by simp, fun j oj _ hl => (by rw [getD_replicate_false] at hl; cases hl), fun t ht => getD_in (by simpa using ((hTm t).1 ht).1) (getD_replicate_false _ _)⟩
  refine wp_region_any hm ?_
  have hplS : ∀ a w, wpPlan P l.toArray Q plan a w → wpAny P .any l.toArray Q T.length (LF l.toArray (M ++ H)) a w := fun a w h => by
    rw [← hpl]
    exact plan_sound hsel hQ plan _ a w hplan (by simp [LF]) h
  have key := wpAny_makersG (P := P) (ops := l.toArray) (w0 := w) (E := E) (Q' := Q) (H := H) (T := T) (M := M) hsel (fun i hi => by
      by_cases hh : i ∈ M ++ H
      · exact Or.inl hh
      · exact Or.inr ((hTm i).2 ⟨hi, hh⟩)) (fun i hi => hH i hi) (fun t ht => (hTm t).1 ht) hTH (fun _ => hQ) (fun i o ho e he hb => by
      have hi : i < l.toArray.size := (Array.getElem?_eq_some_iff.1 ho).1
      have h1 := hlex i hi
      rw [ho] at h1
      have h2 := Array.all_eq_true_iff_forall_mem.1 h1 e he
      simpa [hb] using h2) (fun m hm j hj => (hMH m hm).2 j hj)
    (fun m hm m' hm' hne => ((hMM m hm m' hm').resolve_left hne)) (fun t ht m hm => hrT t ht m hm)
    (ms.length + H.length) ms H (Bl w) (Array.replicate l.toArray.size false) a rfl (fun p hp => by rw [← hM]; exact List.mem_map.2 ⟨p, hp, rfl⟩) (by rw [hM]; exact hn) (fun _ h => h) hpair inv0
    (fun i hi => ⟨fun _ => by
      by_cases hh : i ∈ M ++ H
      · rcases List.mem_append.1 hh with h1 | h1
        · rw [← hM] at h1
          obtain ⟨p, hp, e⟩ := List.mem_map.1 h1
          exact Or.inl ⟨p, hp, e⟩
        · exact Or.inr (Or.inl h1)
      · exact Or.inr (Or.inr ((hTm i).2 ⟨hi, hh⟩)), fun _ => getD_in (by simpa using hi) (getD_replicate_false _ _)⟩) ⟨fun _ h => h, fun _ _ h hb => h.trans hb⟩
    (headZ_monoG (fun a' hq => MkAll.toQG hplS ms _ a' hq) H a (headZ_of_O H a (fun i hi => by simpa using (hH i (by simp [hi])).1) (by simpa using h))) w.drew (bl_drew (bl_refl w))
  rw [← hpl, hlen] at key
  exact key
end
end Go.Proofs.Ytkgklmmkkhbimaa
