/- A law on a region that draws its order: operations that read or call (each hands back one value in every world of a class C, and leaves a world of C) may be walked in one order; those of a tail that wait for all of them are walked behind, in every world of C. Rational: contracts of abs, gcd, fail, and of the reference's Size and Gcd. -/
import Derived.Deep.Quiet
import Derived.StillTail
import Derived.KernelRfl
import Derived.Test.YtehifkdfbiebfaaDoorK00
import Derived.Deep.QuietTactic
namespace Go.Proofs.YtehifkdfbiebfaaDoor
open Go Go.RowKit

def pick (l : List Oper) : List Nat → List Oper
  | [] => []
  | i :: is => match l[i]? with
    | some o => o :: pick l is
    | none => pick l is

/-- 't' waits, at one remove or more, for 'i'. -/
def reachB (md : Region.Mode) (ops : Array Oper) : Nat → Nat → Nat → Bool
  | 0, _, _ => false
  | f + 1, t, i => Region.waitsFor md ops t i || (List.range ops.size).any fun j => Region.waitsFor md ops t j && reachB md ops f j i

def seqL (md : Region.Mode) (ops : Array Oper) : List Nat → Array Bool → Bool
  | [], listed => (Region.ready md ops listed).isEmpty
  | k :: ks, listed => decide (Region.ready md ops listed = [k]) && seqL md ops ks (listed.setIfInBounds k true)

/-- Operation 'k' waits for 'i'. -/
def waits (ops : Array Oper) (k i : Nat) : Bool := Region.waitsFor .any ops k i
def apartB (ops : Array Oper) (k j : Nat) : Bool := match ops[k]?, ops[j]? with
  | some ok, some oj => ok.apart ops oj
  | _, _ => false
def pairB (ops : Array Oper) : List Nat → Bool
  | [] => true
  | k :: ks => ks.all (fun j => k != j && !waits ops k j && (waits ops j k || apartB ops k j)) && pairB ops ks
def depsB (ops : Array Oper) (H : List Nat) (k : Nat) : Bool := match ops[k]? with
  | some o => o.after.all fun e => !Region.binds .any e || (H.contains e.on && e.on != k)
  | none => false
/-- The static look: 'H' the head in the order of the walk, 'E' those of it that yield in whatever world, 'T' the tail. -/
def headTailB (ops : Array Oper) (H E T : List Nat) : Bool :=
  Region.noSelect ops && (List.range ops.size).all (fun i => H.contains i || T.contains i) && H.all (fun i => decide (i < ops.size) && depsB ops H i) && T.all (fun t => decide (t < ops.size) && !H.contains t)
    && T.all (fun t => H.all fun i => (E.contains i || reachB .any ops 8 t i) && (waits ops t i || apartB ops i t)) && pairB ops H && seqL .any ops T ((List.range ops.size).map (fun i => H.contains i)).toArray

section
variable {P : Program} {ops : Array Oper} {C : World → Prop} {Q' : Exit → Act → World → Prop}

structure Inv (md : Region.Mode) (ops : Array Oper) (ts : List Nat) (listed : Array Bool) : Prop where
  size : listed.size = ops.size
  closed : ∀ j oj, ops[j]? = some oj → listed.getD j false = true → ∀ e ∈ oj.after, Region.binds md e = true → listed.getD e.on false = true
  tail : ∀ t ∈ ts, listed.getD t true = false

variable {md : Region.Mode}

theorem reach_listed {listed : Array Bool} (hcl : ∀ j oj, ops[j]? = some oj → listed.getD j false = true → ∀ e ∈ oj.after, Region.binds md e = true → listed.getD e.on false = true) :
    ∀ (f t i : Nat), reachB md ops f t i = true → (∀ ot, ops[t]? = some ot → ∀ e ∈ ot.after, Region.binds md e = true → listed.getD e.on false = true) → listed.getD i false = true
  | 0, _, _, h, _ => by cases h
  | f + 1, t, i, h, ht => by
    simp only [reachB, Bool.or_eq_true] at h
    rcases h with h | h
    · obtain ⟨ot, hot, e, he, hb, hon⟩ := Region.waitsFor_spec h
      have := ht ot hot e he hb
      rwa [hon] at this
    · obtain ⟨j, _, hj⟩ := List.any_eq_true.1 h
      simp only [Bool.and_eq_true] at hj
      obtain ⟨ot, hot, e, he, hb, hon⟩ := Region.waitsFor_spec hj.1
      have hl := ht ot hot e he hb
      rw [hon] at hl
      exact reach_listed hcl f j i hj.2 (fun oj hoj => hcl j oj hoj hl)

theorem Inv.set {ts : List Nat} {i : Nat} {listed : Array Bool} (inv : Inv md ops ts listed) (hi : i ∈ Region.ready md ops listed) (hin : i ∉ ts) : Inv md ops ts (listed.setIfInBounds i true) := by
  obtain ⟨_, oi, hoi, hall⟩ := mem_ready.1 hi
  refine ⟨by simp [inv.size], fun j oj hj hl e he hb => ?_, fun t ht => by
    have hne : i ≠ t := fun h => hin (by rw [h]; exact ht)
    rw [getD_set_ne true hne]; exact inv.tail t ht⟩
  by_cases hij : i = j
  · subst hij
    have : oj = oi := Option.some.inj (hj.symm.trans hoi)
    subst this
    exact getD_set_true (hall e he hb)
  · rw [getD_set_ne false hij] at hl
    exact getD_set_true (inv.closed j oj hj hl e he hb)

/-- The head: one operation after the other; those of 'E' yield in whatever world, the others in every world of the class. -/
def wpHead (P : Program) (ops : Array Oper) (C : World → Prop) (E : List Nat) (Q : Act → Prop) : List Nat → Act → Prop
  | [], a => Q a
  | k :: ks, a => ∃ o v, ops[k]? = some o ∧ (if E.contains k then Yields P ops o v a else YieldsIn P ops C o v a) ∧ wpHead P ops C E Q ks (a.put o.dst v)

theorem Yields.of_same' {o : Oper} {v : Value} {a a' : Act} (hy : Yields P ops o v a) (he : execOp a'.eval o = execOp a.eval o)
    (hw : Region.wanted o (yielded ops a'.tmps) = Region.wanted o (yielded ops a.tmps)) : Yields P ops o v a' := by
  unfold Yields at *
  rw [he, hw]
  exact hy
theorem Yields.yieldsIn {o : Oper} {v : Value} {a : Act} (hy : Yields P ops o v a) : YieldsIn P ops C o v a :=
  hy.imp (fun ⟨hw, hv⟩ => ⟨hw, fun w _ => by unfold Oper.quietAt; rw [hv w]; exact ⟨rfl, rfl⟩⟩) id
def Y (P : Program) (ops : Array Oper) (C : World → Prop) (E : List Nat) (k : Nat) (o : Oper) (v : Value) (a : Act) : Prop := if E.contains k then Yields P ops o v a else YieldsIn P ops C o v a
theorem Y.of_same {E : List Nat} {k : Nat} {o : Oper} {v : Value} {a a' : Act} (hy : Y P ops C E k o v a) (he : execOp a'.eval o = execOp a.eval o)
    (hw : Region.wanted o (yielded ops a'.tmps) = Region.wanted o (yielded ops a.tmps)) : Y P ops C E k o v a' := by
  unfold Y at *
  split
  · rename_i h; rw [if_pos h] at hy; exact Yields.of_same' hy he hw
  · rename_i h; rw [if_neg h] at hy; exact YieldsIn.of_same hy he hw
theorem Y.yieldsIn {E : List Nat} {k : Nat} {o : Oper} {v : Value} {a : Act} (hy : Y P ops C E k o v a) : YieldsIn P ops C o v a := by
  unfold Y at hy
  split at hy
  · exact Yields.yieldsIn hy
  · exact hy

theorem waits_iff {k i : Nat} {o : Oper} (ho : ops[k]? = some o) : waits ops k i = true ↔ ∃ e ∈ o.after, Region.binds .any e = true ∧ e.on = i := by
  constructor
  · intro h
    obtain ⟨o', ho', e, he, hb, hon⟩ := Region.waitsFor_spec h
    have : o' = o := Option.some.inj (ho'.symm.trans ho)
    subst this
    exact ⟨e, he, hb, hon⟩
  · rintro ⟨e, he, hb, hon⟩
    unfold waits Region.waitsFor
    simp only [ho]
    rw [Array.any_eq_true']
    exact ⟨e, he, by simp [hb, hon]⟩

/-- What may come up now may be brought to the front of the head's walk. -/
theorem front {E : List Nat} {Q : Act → Prop} (hsel : ∀ (j : Nat) (o : Oper) cs b, ops[j]? = some o → o.op ≠ .select cs b) :
    ∀ (l : List Nat) (a : Act) (j : Nat), pairB ops l = true → j ∈ l → (∀ i ∈ l, waits ops j i = false) → wpHead P ops C E Q l a →
      ∃ o v, ops[j]? = some o ∧ Y P ops C E j o v a ∧ wpHead P ops C E Q (l.erase j) (a.put o.dst v)
  | [], _, _, _, h, _, _ => by cases h
  | k :: l, a, j, hp, hj, hw, h => by
    obtain ⟨ok, vk, hok, hyk, hK⟩ := h
    by_cases hkj : k = j
    · subst hkj
      refine ⟨ok, vk, hok, hyk, ?_⟩
      rw [List.erase_cons_head]
      exact hK
    · simp only [pairB, Bool.and_eq_true, List.all_eq_true] at hp
      have hj' : j ∈ l := by
        rcases List.mem_cons.1 hj with e | e
        · exact absurd e.symm hkj
        · exact e
      obtain ⟨oj, vj, hoj, hyj, hJ⟩ := front hsel l _ j hp.2 hj' (fun i hi => hw i (by simp [hi])) hK
      have hap : ok.apart ops oj = true := by
        have h1 := hp.1 j hj'
        simp only [Bool.or_eq_true] at h1
        rcases h1.2 with h2 | h2
        · rw [hw k (by simp)] at h2; cases h2
        · simpa [apartB, hok, hoj] using h2
      obtain ⟨h1, h2, h3⟩ := Oper.apart_spec hap
      refine ⟨oj, vj, hoj, hyj.of_same ?_ ?_, ?_⟩
      · exact (execOp_put oj (fun cs b => hsel j oj cs b hoj) a ok.dst vk h1).symm
      · exact (wanted_put oj a ok.dst vk h1).symm
      · rw [List.erase_cons_tail (by simpa using hkj)]
        refine ⟨ok, vk, hok, ?_, ?_⟩
        · exact Y.of_same (k := k) (E := E) hyk (execOp_put ok (fun cs b => hsel k ok cs b hok) a oj.dst vj h3) (wanted_put ok a oj.dst vj h3)
        · rw [← Act.put_comm a vk vj h2]
          exact hJ

theorem pairB_erase {l : List Nat} (j : Nat) : pairB ops l = true → pairB ops (l.erase j) = true := by
  induction l with
  | nil => intro h; simpa using h
  | cons k l ih =>
    intro h
    by_cases hkj : k = j
    · subst hkj
      simp only [pairB, Bool.and_eq_true] at h
      rw [List.erase_cons_head]
      exact h.2
    · rw [List.erase_cons_tail (by simpa using hkj)]
      simp only [pairB, Bool.and_eq_true, List.all_eq_true] at h ⊢
      exact ⟨fun x hx => h.1 x (List.mem_of_mem_erase hx), ih h.2⟩

theorem pairB_nodup {l : List Nat} : pairB ops l = true → l.Nodup := by
  induction l with
  | nil => intro _; exact List.nodup_nil
  | cons k l ih =>
    intro h
    simp only [pairB, Bool.and_eq_true, List.all_eq_true] at h
    refine List.nodup_cons.2 ⟨fun hk => ?_, ih h.2⟩
    have := h.1 k hk
    simp at this

theorem wpAny_of_seqL : ∀ (is : List Nat) (listed : Array Bool) (a : Act) (w : World), (∀ i ∈ is, i < ops.size) →
    seqL md ops is listed = true → wpList P ops Q' (pick ops.toList is) a w → wpAny P md ops Q' is.length listed a w
  | [], _, _, _, _, hB, h => ⟨by simpa [seqL] using hB, h⟩
  | k :: is, listed, a, w, hl, hB, h => by
    have hk : k < ops.size := hl k (by simp)
    have h0 : ops[k]? = some ops[k] := Array.getElem?_eq_getElem hk
    have hp : pick ops.toList (k :: is) = ops[k] :: pick ops.toList is := by simp [pick, hk]
    rw [hp] at h
    simp only [seqL, Bool.and_eq_true, decide_eq_true_eq] at hB
    refine ⟨fun h1 => (by rw [hB.1] at h1; cases h1), fun i hi => ?_⟩
    rw [hB.1] at hi
    have hik : i = k := by simpa using hi
    subst hik
    have hw : wpOp P ops Q' i (wpList P ops Q' (pick ops.toList is)) a w := by unfold wpOp; simp only [h0]; exact h
    exact wpOp_mono (fun a' w' h' => wpAny_of_seqL is _ a' w' (fun j hj => hl j (by simp [hj])) hB.2 h') hw


theorem wpAny_of_head' {H E T : List Nat} (hsel : Region.noSelect ops = true)
    (hcov : ∀ i, i < ops.size → i ∈ H ∨ i ∈ T) (hH : ∀ i ∈ H, i < ops.size ∧ depsB ops H i = true) (hT : ∀ t ∈ T, t < ops.size ∧ t ∉ H)
    (hTH : ∀ t ∈ T, ∀ i ∈ H, (i ∈ E ∨ reachB .any ops 8 t i = true) ∧ (waits ops t i = true ∨ apartB ops i t = true))
    (hseq : seqL .any ops T ((List.range ops.size).map (fun i => H.contains i)).toArray = true)
    (hQ : E ≠ [] → ∀ c d v a w, Q' (.panic c) (Act.put a d v) w → Q' (.panic c) a w) :
    ∀ (n : Nat) (l : List Nat) (listed : Array Bool) (a : Act), l.length = n → (∀ i ∈ l, i ∈ H) → pairB ops l = true → Inv .any ops T listed →
      (∀ i, i < ops.size → (listed.getD i true = false ↔ (i ∈ l ∨ i ∈ T))) →
      wpHead P ops C E (fun a' => ∀ w', C w' → wpList P ops Q' (pick ops.toList T) a' w') l a → ∀ w, C w → wpAny P .any ops Q' (l.length + T.length) listed a w := by
  intro n
  induction n with
  | zero =>
    intro l listed a hn _ _ inv hun h w hw
    have : l = [] := List.length_eq_zero_iff.1 hn
    subst this
    have hl : listed = ((List.range ops.size).map (fun i => H.contains i)).toArray := by
      apply Array.ext
      · simp [inv.size]
      · intro i h1 h2
        have hi : i < ops.size := by rw [← inv.size]; exact h1
        have h3 := hun i hi
        have h4 : listed.getD i true = listed[i] := by simp [h1]
        rw [h4] at h3
        simp only [List.getElem_toArray, List.getElem_map, List.getElem_range]
        cases hb : listed[i] with
        | false =>
          rcases (h3.1 hb) with h5 | h5
          · cases h5
          · have h6 : i ∉ H := (hT i h5).2
            symm
            simpa using h6
        | true =>
          have h5 : i ∉ T := fun h5 => by
            have h6 := h3.2 (Or.inr h5)
            rw [hb] at h6
            cases h6
          have h6 : i ∈ H := (hcov i hi).resolve_right h5
          symm
          simpa using h6
    rw [List.length_nil, Nat.zero_add]
    exact wpAny_of_seqL T listed a w (fun t ht => (hT t ht).1) (by rw [hl]; exact hseq) (h w hw)
  | succ n ih =>
    intro l listed a hn hlH hp inv hun h w hw
    have hselS := Region.noSelect_spec hsel
    -- the first of the list may come up
    have hfirst : ∀ k l', l = k :: l' → k ∈ Region.ready .any ops listed := by
      intro k l' e
      subst e
      obtain ⟨hk, hd⟩ := hH k (hlH k (by simp))
      have h0 : ops[k]? = some ops[k] := Array.getElem?_eq_getElem hk
      refine mem_ready.2 ⟨(hun k hk).2 (Or.inl (by simp)), ops[k], h0, fun e he hb => ?_⟩
      have h1 : (H.contains e.on && e.on != k) = true := by
        have := hd
        unfold depsB at this
        simp only [h0] at this
        have h2 := Array.all_eq_true_iff_forall_mem.1 this e he
        simpa [hb] using h2
      simp only [Bool.and_eq_true, List.contains_iff_mem, bne_iff_ne] at h1
      have hon : e.on < ops.size := (hH _ h1.1).1
      cases hl : listed.getD e.on true with
      | true =>
        have : e.on < listed.size := by rw [inv.size]; exact hon
        simp [this] at hl ⊢
        exact hl
      | false =>
        rcases (hun e.on hon).1 hl with h3 | h3
        · rcases List.mem_cons.1 h3 with h4 | h4
          · exact absurd h4 h1.2
          · simp only [pairB, Bool.and_eq_true, List.all_eq_true] at hp
            have h5 := hp.1 e.on h4
            have h6 : waits ops k e.on = true := (waits_iff h0).2 ⟨e, he, hb, rfl⟩
            simp [h6] at h5
        · exact absurd h1.1 (hT _ h3).2
    have hstep : ∀ j, j ∈ l → j ∈ Region.ready .any ops listed → Inv .any ops T (listed.setIfInBounds j true) ∧ ∀ i, i < ops.size → ((listed.setIfInBounds j true).getD i true = false ↔ (i ∈ l.erase j ∨ i ∈ T)) := by
      intro j hj hjr
      refine ⟨inv.set hjr (fun ht => (hT j ht).2 (hlH j hj)), fun i hi => ?_⟩
      by_cases hij : j = i
      · subst hij
        have hjs : j < listed.size := by rw [inv.size]; exact hi
        simp only [Array.getD_eq_getD_getElem?, Array.getElem?_setIfInBounds_self_of_lt hjs, Option.getD_some]
        constructor
        · intro h; cases h
        · rintro (h | h)
          · exact absurd h ((pairB_nodup hp).not_mem_erase)
          · exact absurd (hlH j hj) (hT j h).2
      · rw [getD_set_ne true hij, hun i hi]
        constructor
        · rintro (h | h)
          · exact Or.inl ((List.mem_erase_of_ne (Ne.symm hij)).2 h)
          · exact Or.inr h
        · rintro (h | h)
          · exact Or.inl (List.mem_of_mem_erase h)
          · exact Or.inr h
    match l, hn, hlH, hp, hun, h, hfirst, hstep with
    | k :: l', hn, hlH, hp, hun, h, hfirst, hstep =>
      have hkr := hfirst k l' rfl
      by_cases hall : ∀ i ∈ k :: l', i ∈ E
      · -- all that is left yields in whatever world
        obtain ⟨ok, vk, hok, hyk, hK⟩ := h
        have hkE : E.contains k = true := List.contains_iff_mem.2 (hall k (by simp))
        rw [if_pos hkE] at hyk
        obtain ⟨inv', hun'⟩ := hstep k (by simp) hkr
        rw [List.erase_cons_head] at hun'
        have hnext := ih l' _ _ (by simpa using hn) (fun i hi => hlH i (by simp [hi])) (by simp only [pairB, Bool.and_eq_true] at hp; exact hp.2) inv' hun' hK w hw
        have hE : E ≠ [] := fun e => by rw [e] at hkE; simp at hkE
        rw [List.length_cons, show l'.length + 1 + T.length = (l'.length + T.length) + 1 by omega]
        refine wpAny_first hok hselS (fun c a w => hQ hE c _ _ a w) _ listed a w (fun j oj hoj hjk hju hno => ?_) hkr hyk hnext
        have hjs : j < ops.size := (Array.getElem?_eq_some_iff.1 hoj).1
        have hnw : waits ops j k = false := by
          cases hb : waits ops j k with
          | false => rfl
          | true =>
            obtain ⟨e, he, hbd, hon⟩ := (waits_iff hoj).1 hb
            exact absurd hon (hno e he hbd)
        rcases (hun j hjs).1 hju with h1 | h1
        · have h2 : j ∈ l' := (List.mem_cons.1 h1).resolve_left hjk
          simp only [pairB, Bool.and_eq_true, List.all_eq_true] at hp
          have h3 := hp.1 j h2
          simp only [Bool.or_eq_true] at h3
          rcases h3.2 with h4 | h4
          · rw [hnw] at h4; cases h4
          · simpa [apartB, hok, hoj] using h4
        · rcases (hTH j h1 k (hlH k (by simp))).2 with h4 | h4
          · rw [hnw] at h4; cases h4
          · simpa [apartB, hok, hoj] using h4
      · -- something is left that the tail waits for
        have hex : ∃ i, i ∈ k :: l' ∧ i ∉ E := by
          apply Classical.byContradiction
          intro hne
          exact hall fun i hi => Classical.byContradiction fun hiE => hne ⟨i, hi, hiE⟩
        obtain ⟨i, hi, hiE⟩ := hex
        rw [List.length_cons, show l'.length + 1 + T.length = (l'.length + T.length) + 1 by omega]
        refine ⟨fun h0 => (by rw [h0] at hkr; cases hkr), fun j hj => ?_⟩
        obtain ⟨hju, oj, hoj, hdeps⟩ := mem_ready.1 hj
        have hjs : j < ops.size := (Array.getElem?_eq_some_iff.1 hoj).1
        have hjl : j ∈ k :: l' := by
          rcases (hun j hjs).1 hju with h1 | h1
          · exact h1
          · exfalso
            have hr := ((hTH j h1 i (hlH i hi)).1).resolve_left hiE
            have h2 := reach_listed inv.closed 8 j i hr (fun o ho => by rw [Option.some.inj (ho.symm.trans hoj)]; exact hdeps)
            have h3 := (hun i (hH i (hlH i hi)).1).2 (Or.inl hi)
            rw [getD_both h3] at h2
            cases h2
        have hnw : ∀ i ∈ k :: l', waits ops j i = false := by
          intro i hi
          cases hb : waits ops j i with
          | false => rfl
          | true =>
            obtain ⟨e, he, hbd, hon⟩ := (waits_iff hoj).1 hb
            have h2 := hdeps e he hbd
            have h3 := (hun i (hH i (hlH i hi)).1).2 (Or.inl hi)
            rw [hon, getD_both h3] at h2
            cases h2
        obtain ⟨o', v, ho', hy, hK⟩ := front (fun j o cs b ho => hselS j o cs b ho) _ a j hp hjl hnw h
        have : o' = oj := Option.some.inj (ho'.symm.trans hoj)
        subst this
        obtain ⟨inv', hun'⟩ := hstep j hjl hj
        have hlen : ((k :: l').erase j).length = n := by rw [List.length_erase_of_mem hjl, hn]; rfl
        refine wpOp_of_qOp hw (fun a' w' hw' hK' => ?_) (hy.yieldsIn.qOp hoj hK)
        have := ih ((k :: l').erase j) _ a' hlen (fun i hi => hlH i (List.mem_of_mem_erase hi)) (pairB_erase j hp) inv' hun' hK' w' hw'
        rw [hlen] at this
        rw [show l'.length = n by simpa using hn]
        exact this

end

/-- **A REGION THAT DRAWS ITS ORDER: its head 'H' walked once (those of 'E' yield in whatever world, the others in every world of the class), its tail 'T' behind it in every world of the class.** -/
theorem wp_region_het {P : Program} {id : Nat} {Q : Exit → Act → World → Prop} {a : Act} {w : World} {l : List Oper} (C : World → Prop) (H E T : List Nat) (hm : P.follows .mixedOrders = true) (hB : headTailB l.toArray H E T = true)
    (hC : C w.drew) (hlen : H.length + T.length = l.length) (hQ : E ≠ [] → ∀ c d v a w, Q (.panic c) (Act.put a d v) w → Q (.panic c) a w)
    (h : wpHead P l.toArray C E (fun a' => ∀ w', C w' → wpList P l.toArray Q (pick l T) a' w') H a) : (Code.region id l.toArray true).wp P Q a w := by
  simp only [headTailB, Bool.and_eq_true, List.all_eq_true, decide_eq_true_eq, Bool.not_eq_true', List.mem_range, Bool.or_eq_true, List.contains_iff_mem] at hB
  obtain ⟨⟨⟨⟨⟨⟨hsel, hcov⟩, hH⟩, hT⟩, hTH⟩, hpair⟩, hseq⟩ := hB
  have hT' : ∀ t ∈ T, t < l.toArray.size ∧ t ∉ H := fun t ht => ⟨(hT t ht).1, fun hh => by
    have := (hT t ht).2
    rw [List.contains_iff_mem.2 hh] at this
    cases this⟩
  have inv0 : Inv .any l.toArray T (Array.replicate l.toArray.size false) :=
    ⟨by simp, fun j oj _ hl => (by rw [getD_replicate_false] at hl; cases hl), fun t ht => getD_in (by simpa using (hT' t ht).1) (getD_replicate_false _ _)⟩
  refine wp_region_any hm ?_
  have key := wpAny_of_head' (P := P) (ops := l.toArray) (C := C) (Q' := Q) hsel hcov hH hT' hTH hseq hQ H.length H (Array.replicate l.toArray.size false) a rfl (fun _ h => h) hpair inv0
    (fun i hi => ⟨fun _ => hcov i hi, fun _ => getD_in (by simpa using hi) (getD_replicate_false _ _)⟩) (by simpa using h) w.drew hC
  rw [hlen] at key
  exact key

theorem panic_body {P : Program} {fn : Func} {R : Ending → World → Prop} : ∀ c d v a w, bodyPost P fn R (.panic c) (Act.put a d v) w → bodyPost P fn R (.panic c) a w := fun _ d _ _ _ h => by
  cases d <;> exact h
theorem panic_then {K : Act → World → Prop} {Q : Exit → Act → World → Prop} (h : ∀ c d v a w, Q (.panic c) (Act.put a d v) w → Q (.panic c) a w) : ∀ c d v a w, Exit.then K Q (.panic c) (Act.put a d v) w → Exit.then K Q (.panic c) a w := h
/-- The same with the operations written beside their numbers. -/
def pickI (l : List Oper) : List Nat → List (Nat × Oper)
  | [] => []
  | i :: is => match l[i]? with
    | some o => (i, o) :: pickI l is
    | none => pickI l is
def wpHeadO (P : Program) (ops : Array Oper) (C : World → Prop) (E : List Nat) (Q : Act → Prop) : List (Nat × Oper) → Act → Prop
  | [], a => Q a
  | (k, o) :: ks, a => ∃ v, (if E.contains k then Yields P ops o v a else YieldsIn P ops C o v a) ∧ wpHeadO P ops C E Q ks (a.put o.dst v)
theorem head_of_O {P : Program} {l : List Oper} {C : World → Prop} {E : List Nat} {Q : Act → Prop} : ∀ (H : List Nat) (a : Act), (∀ i ∈ H, i < l.length) → wpHeadO P l.toArray C E Q (pickI l H) a → wpHead P l.toArray C E Q H a
  | [], _, _, h => h
  | k :: H, a, hl, h => by
    have hk : k < l.length := hl k (by simp)
    have h0 : l[k]? = some l[k] := List.getElem?_eq_getElem hk
    have hp : pickI l (k :: H) = (k, l[k]) :: pickI l H := by simp [pickI, h0]
    rw [hp] at h
    obtain ⟨v, hv, hK⟩ := h
    exact ⟨l[k], v, by simp [hk], hv, head_of_O H _ (fun i hi => hl i (by simp [hi])) hK⟩

/-- The class that serves most: what lay in the world at the region's start is as it was. -/
def Bl (w w' : World) : Prop := Below w.heap.size w w'
theorem Bl.out {w w' : World} (h : Bl w w') : Below w.heap.size w w' := h
theorem Bl.trans {w w1 w2 : World} (h : Bl w w1) (k : Below w1.heap.size w1 w2) : Bl w w2 := bl_trans h k
theorem wp_region_bl {P : Program} {id : Nat} {Q : Exit → Act → World → Prop} {a : Act} {w : World} {l : List Oper} (H T : List Nat) (hm : P.follows .mixedOrders = true) (hB : headTailB l.toArray H [] T = true)
    (hlen : H.length + T.length = l.length)
    (h : wpHeadO P l.toArray (Bl w) [] (fun a' => ∀ w', Bl w w' → wpList P l.toArray Q (pick l T) a' w') (pickI l H) a) : (Code.region id l.toArray true).wp P Q a w :=
  wp_region_het (Bl w) H [] T hm hB (bl_drew (bl_refl w)) hlen (fun h => absurd rfl h) (head_of_O H a (by
    simp only [headTailB, Bool.and_eq_true, List.all_eq_true, decide_eq_true_eq] at hB
    exact fun i hi => by simpa using (hB.1.1.1.1.2 i hi).1) h)
theorem wp_region_ble {P : Program} {id : Nat} {Q : Exit → Act → World → Prop} {a : Act} {w : World} {l : List Oper} (H E T : List Nat) (hm : P.follows .mixedOrders = true) (hB : headTailB l.toArray H E T = true)
    (hlen : H.length + T.length = l.length) (hQ : ∀ c d v a w, Q (.panic c) (Act.put a d v) w → Q (.panic c) a w)
    (h : wpHeadO P l.toArray (Bl w) E (fun a' => ∀ w', Bl w w' → wpList P l.toArray Q (pick l T) a' w') (pickI l H) a) : (Code.region id l.toArray true).wp P Q a w :=
  wp_region_het (Bl w) H E T hm hB (bl_drew (bl_refl w)) hlen (fun _ => hQ) (head_of_O H a (by
    simp only [headTailB, Bool.and_eq_true, List.all_eq_true, decide_eq_true_eq] at hB
    exact fun i hi => by simpa using (hB.1.1.1.1.2 i hi).1) h)

theorem wanted_free {o : Oper} {y : Nat → Option Bool} (h : o.guard = none) : Region.wanted o y = true := by
  unfold Region.wanted
  rw [h]
section
variable {P : Program} {ops : Array Oper} {C : World → Prop} {E : List Nat} {Q : Act → Prop} {a : Act} {o : Oper} {k : Nat} {ks : List (Nat × Oper)}
/-- One operation of the head: the value that it hands back in every world of the class; in whatever world; passed over by its guard. -/
theorem head_val (hE : E.contains k = false) (hw : Region.wanted o (yielded ops a.tmps) = true) (h : ∃ v, (∀ w, C w → Oper.quietUpon P C w v ((execOp a.eval o).run P w)) ∧ wpHeadO P ops C E Q ks (a.put o.dst v)) : wpHeadO P ops C E Q ((k, o) :: ks) a :=
  h.elim fun v hv => ⟨v, by rw [if_neg (by rw [hE]; exact Bool.false_ne_true)]; exact .inl ⟨hw, hv.1⟩, hv.2⟩
theorem head_pure (hE : E.contains k = true) (hw : Region.wanted o (yielded ops a.tmps) = true) (h : ∃ v, (∀ w, (execOp a.eval o).run P w = .ok (.value v) w) ∧ wpHeadO P ops C E Q ks (a.put o.dst v)) : wpHeadO P ops C E Q ((k, o) :: ks) a :=
  h.elim fun v hv => ⟨v, by rw [if_pos hE]; exact .inl ⟨hw, hv.1⟩, hv.2⟩
theorem head_pass (hw : Region.wanted o (yielded ops a.tmps) = false) (h : wpHeadO P ops C E Q ks (a.put o.dst undef)) : wpHeadO P ops C E Q ((k, o) :: ks) a :=
  ⟨undef, by split <;> exact .inr ⟨hw, rfl⟩, h⟩
theorem head_nil (h : Q a) : wpHeadO P ops C E Q [] a := h
end
end Go.Proofs.YtehifkdfbiebfaaDoor
namespace Go.Proofs.YtehifkdfbiebfaaDoor
open Go.RowKit

/-- The call returns v and leaves the world as it is. -/
def RetS (v : Value) (w : World) (e : Ending) (w' : World) : Prop := e = .returned v ∧ w = w'

def absF (n : Int) : Nat := n.natAbs
theorem abs_wrap (n : Int) (h : -9223372036854775808 ≤ n) (h' : n < 0) : IntKind.u64.wrap (-IntKind.u64.wrap n) = (absF n : Int) := by
  simp only [IntKind.wrap_u64, absF]
  omega
theorem abs_pos (n : Int) (h : 0 ≤ n) : n = (absF n : Int) := by
  unfold absF
  omega
theorem absF_le (n : Int) (h : -9223372036854775808 ≤ n) (h' : n ≤ 9223372036854775807) : absF n ≤ 9223372036854775808 := by
  unfold absF
  omega
set_option maxHeartbeats 400000 in
theorem abs_c (n : Int) (w : World) (h : -9223372036854775808 ≤ n) (h' : n ≤ 9223372036854775807) : Calls Tryd.prog 108 #[.int .i64 n] w (RetS (.int .u64 (absF n)) w) := by
  have hw := fun h0 => abs_wrap n h h0
  have hp := fun h0 => abs_pos n h0
  generalize (absF n : Int) = a at *
  have HW := Lib.hid hw
  have HP := Lib.hid hp
  clear hw hp
  go_enter Tryd.func108, Tryd.ntmps108
  go_wp2
  all_goals go_ret
  · exact ⟨ret_int (HW.out (by assumption)), rfl⟩
  · exact ⟨ret_int (HP.out (by assumption)), rfl⟩

set_option maxHeartbeats 1000000 in
theorem gcd_c (a b : Nat) (w : World) (ha : a ≤ 9223372036854775808) (hb : b ≤ 9223372036854775808) : Calls Tryd.prog 107 #[.int .u64 a, .int .u64 b] w (Ret (.int .u64 (Nat.gcd a b)) w) := by
  obtain ⟨M, hM, ha, hb⟩ : ∃ M : Nat, M ≤ 9223372036854775808 ∧ a ≤ M ∧ b ≤ M := ⟨_, Nat.le_refl _, ha, hb⟩
  generalize hg : Nat.gcd a b = g
  have HG := Lib.hid hg
  clear hg
  go_enter Tryd.func107, Tryd.ntmps107
  go_wp2
  go_loopw [0, 1] (fun s0 s1 wr => ∃ x y : Nat, s0 = .int .u64 x ∧ s1 = .int .u64 y ∧ x ≤ M ∧ y ≤ M ∧ Hid (Nat.gcd x y = g) ∧ Below w.heap.size w wr) (fun _ s1 _ => (intOf s1).toNat)
  case atStart => exact ⟨a, b, rfl, rfl, ha, hb, HG, bl_refl _⟩
  case round =>
    obtain ⟨x, y, rfl, rfl, hx, hy, HI, hbw⟩ := hrel
    by_cases hy0 : 0 < y
    · have hlt := Nat.mod_lt x hy0
      have hgc : Nat.gcd y (x % y) = g := by rw [← HI.out, Nat.gcd_comm, ← Nat.gcd_rec, Nat.gcd_comm]
      have HI2 := Lib.hid hgc
      clear hgc
      have hyn : ¬ y = 0 := by omega
      have htm : (x : Int).tmod (y : Int) = ((x % y : Nat) : Int) := by rw [Int.tmod_eq_emod_of_nonneg (by omega)]; rfl
      generalize hxy : x % y = z at *
      have HZ := Lib.hid hxy
      clear hxy
      go_wp2
      (refine wp_region_bl [0,1,2,3,4,5] [] (by kernel_rfl) (by kernel_rfl) (by rfl) ?_
       simp only [pickI, pick, List.getElem?_cons_succ, List.getElem?_cons_zero]
       iterate 6 (first
         | (refine head_val (by rfl) (by first | exact wanted_free rfl | rfl) ?_
            apply Exists.intro
            refine ⟨fun X hX => ?_, ?_⟩
            · (obtain ⟨qz, qc, qf⟩ := bcl hX.out (by first | (simp; rfl) | rfl)
               go_simp
               first | done | rfl | exact ⟨rfl, rfl⟩)
            simp only [Act.put, List.setIfInBounds_toArray, List.set_cons_zero, List.set_cons_succ])
         | (refine head_pass (by rfl) ?_
            simp only [Act.put, List.setIfInBounds_toArray, List.set_cons_zero, List.set_cons_succ]))
       refine head_nil ?_
       intro w' hw'
       have hb := hw'.out
       clear hw'
       obtain ⟨hz, hc, hf⟩ := bcl hb (by first | (simp; rfl) | rfl))
      go_wp2
      go_roundw
      case rel => exact ⟨y, z, rfl, rfl, hy, by omega, HI2, bl_trans hbw hb⟩
      case measure => simp [intOf]; omega
    · have hy1 : y = 0 := by omega
      subst hy1
      have hx0 : x = g := by rw [← HI.out, Nat.gcd_zero_right]
      go_wp2
      go_ret
      exact ⟨ret_int (by rw [hx0]), hbw⟩

/-- The call panics with an error of the program's own, and leaves all blocks that lay in w as they were. -/
def Fails (n : Int) (w : World) (e : Ending) (w' : World) : Prop := e = .panicked [{ v := .iface 42 (.int .i64 n), recovered := false }] ∧ Below w.heap.size w w'
set_option maxHeartbeats 400000 in
theorem fail_c (n : Int) (w : World) : Calls Tryd.prog 113 #[.int .i64 n] w (Fails n w) := by
  go_enter Tryd.func113, Tryd.ntmps113
  go_wp2
  exact ⟨rfl, rfl, bl_refl _⟩

def gF (n d : Int) : Nat := Nat.gcd (absF n) (absF d)
def xF (n d : Int) : Nat := absF n / gF n d
def yF (n d : Int) : Nat := absF d / gF n d
def numF (n d : Int) : Int := if decide (n < 0) != decide (d < 0) then -(xF n d : Int) else xF n d
theorem gF_pos {n d : Int} (h : d ≠ 0) : 0 < gF n d := Nat.gcd_pos_of_pos_right _ (by unfold absF; omega)

set_option maxHeartbeats 400000 in
theorem reduced_zero (n : Int) (w : World) : Calls Tryd.prog 85 #[.int .i64 n, .int .i64 0] w (Fails 7 w) := by
  go_enter Tryd.func85, Tryd.ntmps85
  go_wp2_with (go_at_call 113; refine (fail_c _ _).mono ?_; rintro e w' ⟨rfl, hb⟩)
  refine ⟨rfl, rfl, ?_⟩
  (repeat (first | (with_reducible exact bl_refl _) | (with_reducible refine bl_drew ?_) | (with_reducible refine bl_alloc ?_ _) | (with_reducible refine bl_set' ?_ ?_; · (first | omega | (simp; done) | (simp; omega))) | (with_reducible refine bl_last (by assumption) ?_) | (with_reducible refine bl_drewN ?_ _)))

set_option maxHeartbeats 1000000 in
theorem reduced_range (n d : Int) (w : World) (h1 : -9223372036854775808 ≤ n) (h2 : n ≤ 9223372036854775807) (h3 : -9223372036854775808 ≤ d) (h4 : d ≤ 9223372036854775807) (hd : d ≠ 0) (hr : 1000000000 < xF n d ∨ 1000000000 < yF n d) :
    Calls Tryd.prog 85 #[.int .i64 n, .int .i64 d] w (Fails 3 w) := by
  have G := fun w => gcd_c (absF n) (absF d) w (absF_le n h1 h2) (absF_le d h3 h4)
  have A1 := fun w => abs_c n w h1 h2
  have A2 := fun w => abs_c d w h3 h4
  have hg := gF_pos (n := n) hd
  have hgn : ¬ gF n d = 0 := by omega
  have hd0 : (d == 0) = false := beq_eq_false_iff_ne.2 hd
  have b1 := absF_le n h1 h2
  have b2 := absF_le d h3 h4
  have hr' : (1000000000 < absF n / gF n d) ∨ (absF n / gF n d ≤ 1000000000 ∧ 1000000000 < absF d / gF n d) := by
    unfold xF yF at hr
    omega
  have G : ∀ w, Calls Tryd.prog 107 #[.int .u64 (absF n), .int .u64 (absF d)] w (Ret (.int .u64 (gF n d)) w) := G
  clear hr
  generalize gF n d = g at *
  generalize absF n = x at *
  generalize absF d = y at *
  have G := Lib.hid G
  have A1 := Lib.hid A1
  have A2 := Lib.hid A2
  have q1 : (x : Int).tdiv (g : Int) = ((x / g : Nat) : Int) := by rw [Int.tdiv_eq_ediv_of_nonneg (by omega)]; rfl
  have q2 : (y : Int).tdiv (g : Int) = ((y / g : Nat) : Int) := by rw [Int.tdiv_eq_ediv_of_nonneg (by omega)]; rfl
  have z1 : x / g ≤ x := Nat.div_le_self _ _
  have z2 : y / g ≤ y := Nat.div_le_self _ _
  generalize x / g = xg at *
  generalize y / g = yg at *
  rcases hr' with hr | ⟨hr, hr2⟩
  all_goals
    go_enter Tryd.func85, Tryd.ntmps85
    go_wp2_with (first | (go_at_call 113; refine (fail_c _ _).mono ?_; rintro e w' ⟨rfl, hb⟩) | (go_at_call 108; ((with_reducible refine (A1.out _).mono ?_); rintro e w' ⟨rfl, rfl⟩)) | (go_at_call 108; ((with_reducible refine (A2.out _).mono ?_); rintro e w' ⟨rfl, rfl⟩)) | (go_at_call 107; ((with_reducible refine (G.out _).mono ?_); rintro e w' ⟨rfl, hb⟩; obtain ⟨hz, hc, hf⟩ := bcl hb (by first | (simp; rfl) | rfl))))
    refine ⟨rfl, rfl, ?_⟩
    (repeat (first | (with_reducible exact bl_refl _) | (with_reducible refine bl_drew ?_) | (with_reducible refine bl_alloc ?_ _) | (with_reducible refine bl_set' ?_ ?_; · (first | omega | (simp; done) | (simp; omega))) | (with_reducible refine bl_last (by assumption) ?_) | (with_reducible refine bl_drewN ?_ _)))

set_option maxHeartbeats 1000000 in
theorem reduced_ok (n d : Int) (w : World) (h1 : -9223372036854775808 ≤ n) (h2 : n ≤ 9223372036854775807) (h3 : -9223372036854775808 ≤ d) (h4 : d ≤ 9223372036854775807) (hd : d ≠ 0) (hx : xF n d ≤ 1000000000) (hy : yF n d ≤ 1000000000) :
    Calls Tryd.prog 85 #[.int .i64 n, .int .i64 d] w (Ret (.agg #[.int .i64 (numF n d), .int .i64 (yF n d)]) w) := by
  have G := fun w => gcd_c (absF n) (absF d) w (absF_le n h1 h2) (absF_le d h3 h4)
  have A1 := fun w => abs_c n w h1 h2
  have A2 := fun w => abs_c d w h3 h4
  have hg := gF_pos (n := n) hd
  have hgn : ¬ gF n d = 0 := by omega
  have hd0 : (d == 0) = false := beq_eq_false_iff_ne.2 hd
  have b1 := absF_le n h1 h2
  have b2 := absF_le d h3 h4
  have hx : absF n / gF n d ≤ 1000000000 := hx
  have hy : absF d / gF n d ≤ 1000000000 := hy
  have G : ∀ w, Calls Tryd.prog 107 #[.int .u64 (absF n), .int .u64 (absF d)] w (Ret (.int .u64 (gF n d)) w) := G
  have hN : numF n d = if decide (n < 0) != decide (d < 0) then -((absF n / gF n d : Nat) : Int) else ((absF n / gF n d : Nat) : Int) := rfl
  generalize numF n d = N at *
  unfold yF
  generalize gF n d = g at *
  generalize absF n = x at *
  generalize absF d = y at *
  have G := Lib.hid G
  have A1 := Lib.hid A1
  have A2 := Lib.hid A2
  have q1 : (x : Int).tdiv (g : Int) = ((x / g : Nat) : Int) := by rw [Int.tdiv_eq_ediv_of_nonneg (by omega)]; rfl
  have q2 : (y : Int).tdiv (g : Int) = ((y / g : Nat) : Int) := by rw [Int.tdiv_eq_ediv_of_nonneg (by omega)]; rfl
  generalize x / g = xg at *
  generalize y / g = yg at *
  have u1 : IntKind.i64.wrap (xg : Int) = xg := by rw [IntKind.wrap_i64]; omega
  have u2 : IntKind.i64.wrap (yg : Int) = yg := by rw [IntKind.wrap_i64]; omega
  have hN' : (decide (n < 0) = true ∧ decide (d < 0) = true ∧ N = xg) ∨ (decide (n < 0) = true ∧ decide (d < 0) = false ∧ N = -(xg : Int)) ∨ (decide (n < 0) = false ∧ decide (d < 0) = true ∧ N = -(xg : Int)) ∨ (decide (n < 0) = false ∧ decide (d < 0) = false ∧ N = xg) := by
    cases hn : decide (n < 0) <;> cases hdn : decide (d < 0) <;> simp [hn, hdn] at hN <;> simp [hN]
  clear hN
  rcases hN' with ⟨hn, hdn, rfl⟩ | ⟨hn, hdn, rfl⟩ | ⟨hn, hdn, rfl⟩ | ⟨hn, hdn, rfl⟩
  all_goals
    go_enter Tryd.func85, Tryd.ntmps85
    go_wp2_with (first | (go_at_call 108; ((with_reducible refine (A1.out _).mono ?_); rintro e w' ⟨rfl, rfl⟩)) | (go_at_call 108; ((with_reducible refine (A2.out _).mono ?_); rintro e w' ⟨rfl, rfl⟩)) | (go_at_call 107; ((with_reducible refine (G.out _).mono ?_); rintro e w' ⟨rfl, hb⟩; obtain ⟨hz, hc, hf⟩ := bcl hb (by first | (simp; rfl) | rfl))))
    (refine wp_region_ble [0,1,2,3,4,5,6,7,8] [0,1,2,3,4,5,6,7,8] [9,10] (by kernel_rfl) (by kernel_rfl) (by rfl) (by repeat (first | (with_reducible assumption) | (with_reducible refine panic_then ?_) | (with_reducible refine panic_block ?_) | (with_reducible exact panic_body) | exact panic_body | refine panic_then ?_ | refine panic_block ?_)) ?_
     simp only [pickI, pick, List.getElem?_cons_succ, List.getElem?_cons_zero]
     iterate 9 (first
       | (refine head_val (by rfl) (by first | exact wanted_free rfl | rfl) ?_
          apply Exists.intro
          refine ⟨fun X hX => ?_, ?_⟩
          · (obtain ⟨qz, qc, qf⟩ := bcl hX.out (by first | (simp; rfl) | rfl)
             go_simp
             first | done | rfl | exact ⟨rfl, rfl⟩)
          simp only [Act.put, List.setIfInBounds_toArray, List.set_cons_zero, List.set_cons_succ])
       | (refine head_pure (by rfl) (by first | exact wanted_free rfl | rfl) ?_
          apply Exists.intro
          refine ⟨fun X => ?_, ?_⟩
          · (go_simp
             first | done | rfl)
          simp only [Act.put, List.setIfInBounds_toArray, List.set_cons_zero, List.set_cons_succ])
       | (refine head_pass (by rfl) ?_
          simp only [Act.put, List.setIfInBounds_toArray, List.set_cons_zero, List.set_cons_succ]))
     refine head_nil ?_
     intro w' hw'
     have hb := hw'.out
     clear hw'
     obtain ⟨hz, hc, hf⟩ := bcl hb (by first | (simp; rfl) | rfl))
    go_wp2
    first | (refine bodyPost_ret (v := .agg #[.int .i64 xg, .int .i64 yg]) (by simp only [results, Tryd.results85]; go_simp) rfl ⟨rfl, ?_⟩) | (refine bodyPost_ret (v := .agg #[.int .i64 (-(xg : Int)), .int .i64 yg]) (by simp only [results, Tryd.results85]; go_simp) rfl ⟨rfl, ?_⟩)
    (repeat (first | (with_reducible exact bl_refl _) | (with_reducible refine bl_drew ?_) | (with_reducible refine bl_alloc ?_ _) | (with_reducible refine bl_set' ?_ ?_; · (first | omega | (simp; done) | (simp; omega))) | (with_reducible refine bl_last (by assumption) ?_) | (with_reducible refine bl_drewN ?_ _)))
end Go.Proofs.YtehifkdfbiebfaaDoor
