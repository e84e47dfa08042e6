/- A law on a region that draws its order and holds one allocation, which waits for nothing: the head is walked once, the allocation is met last. Pieces of a function's code by their path. -/
import Derived.Test.YtehifkdfbiebfaaDoorK02
import Derived.Test.YtehifkdfbiebfaaDoorK00
import Derived.Deep.Cut
namespace Go.Proofs.YtehifkdfbiebfaaDoor
open Go Go.RowKit

section
variable {P : Program} {ops : Array Oper} {w0 : World} {E : List Nat}

/-- One value in every world behind w0, the world behind it being a step on. -/
def YS (P : Program) (ops : Array Oper) (w0 : World) (o : Oper) (v : Value) (a : Act) : Prop :=
  (Region.wanted o (yielded ops a.tmps) = true ∧ ∀ w, Bl w0 w → o.quietAt P a (fun w' => Below w.heap.size w w') w v) ∨ (Region.wanted o (yielded ops a.tmps) = false ∧ v = undef)
theorem YS.of_same {o : Oper} {v : Value} {a a' : Act} (hy : YS P ops w0 o v a) (he : execOp a'.eval o = execOp a.eval o)
    (hw : Region.wanted o (yielded ops a'.tmps) = Region.wanted o (yielded ops a.tmps)) : YS P ops w0 o v a' := by
  unfold YS Oper.quietAt at *
  rw [he, hw]
  exact hy
def Closed (w0 : World) (S : World → Prop) : Prop := (∀ w, S w → Bl w0 w) ∧ ∀ w w', S w → Below w.heap.size w w' → S w'
theorem quietUpon_mono {C C' : World → Prop} {w : World} {v : Value} (h : ∀ w', C w' → C' w') : ∀ {r : Result Next}, Oper.quietUpon P C w v r → Oper.quietUpon P C' w v r
  | .ok (.value _) _, hq => hq
  | .ok .skip _, hq => hq
  | .ok (.enter _ _) _, hq => ⟨hq.1, hq.2.mono fun _ _ ⟨h1, h2⟩ => ⟨h1, h _ h2⟩⟩
  | .ok (.round ..) _, hq => hq.elim
  | .halt _ _, hq => hq.elim
theorem YS.yieldsIn {S : World → Prop} {o : Oper} {v : Value} {a : Act} (hS : Closed w0 S) (h : YS P ops w0 o v a) : YieldsIn P ops S o v a :=
  h.imp (fun ⟨hw, hv⟩ => ⟨hw, fun w hw' => quietUpon_mono (fun w' h' => hS.2 w w' hw' h') (hv w (hS.1 w hw'))⟩) id

def Z (P : Program) (ops : Array Oper) (w0 : World) (E : List Nat) (k : Nat) (o : Oper) (v : Value) (a : Act) : Prop := if E.contains k then Yields P ops o v a else YS P ops w0 o v a
theorem Z.of_same {k : Nat} {o : Oper} {v : Value} {a a' : Act} (hy : Z P ops w0 E k o v a) (he : execOp a'.eval o = execOp a.eval o)
    (hw : Region.wanted o (yielded ops a'.tmps) = Region.wanted o (yielded ops a.tmps)) : Z P ops w0 E k o v a' := by
  unfold Z at *
  split
  · rename_i h; rw [if_pos h] at hy; exact Yields.of_same' hy he hw
  · rename_i h; rw [if_neg h] at hy; exact YS.of_same hy he hw
theorem Z.toY {S : World → Prop} {k : Nat} {o : Oper} {v : Value} {a : Act} (hS : Closed w0 S) (hy : Z P ops w0 E k o v a) : Y P ops S E k o v a := by
  unfold Z at hy
  unfold Y
  split
  · rename_i h; rw [if_pos h] at hy; exact hy
  · rename_i h; rw [if_neg h] at hy; exact hy.yieldsIn hS
def wpHeadZ (P : Program) (ops : Array Oper) (w0 : World) (E : List Nat) (Q : Act → Prop) : List Nat → Act → Prop
  | [], a => Q a
  | k :: ks, a => ∃ o v, ops[k]? = some o ∧ Z P ops w0 E k o v a ∧ wpHeadZ P ops w0 E Q ks (a.put o.dst v)
theorem headZ_old {S : World → Prop} {Q : Act → Prop} (hS : Closed w0 S) : ∀ (l : List Nat) (a : Act), wpHeadZ P ops w0 E Q l a → wpHead P ops S E Q l a
  | [], _, h => h
  | _ :: ks, _, ⟨o, v, h1, h2, h3⟩ => ⟨o, v, h1, h2.toY hS, headZ_old hS ks _ h3⟩
theorem frontZ {Q : Act → Prop} (hsel : ∀ (j : Nat) (o : Oper) cs b, ops[j]? = some o → o.op ≠ .select cs b) :
    ∀ (l : List Nat) (a : Act) (j : Nat), pairB ops l = true → j ∈ l → (∀ i ∈ l, waits ops j i = false) → wpHeadZ P ops w0 E Q l a →
      ∃ o v, ops[j]? = some o ∧ Z P ops w0 E j o v a ∧ wpHeadZ P ops w0 E Q (l.erase j) (a.put o.dst v)
  | [], _, _, _, h, _, _ => by cases h
  | k :: l, a, j, hp, hj, hw, h => by
    obtain ⟨ok, vk, hok, hyk, hK⟩ := h
    by_cases hkj : k = j
    · subst hkj
      refine ⟨ok, vk, hok, hyk, ?_⟩
      rw [List.erase_cons_head]
      exact hK
    · simp only [pairB, Bool.and_eq_true, List.all_eq_true] at hp
      have hj' : j ∈ l := by
        rcases List.mem_cons.1 hj with e | e
        · exact absurd e.symm hkj
        · exact e
      obtain ⟨oj, vj, hoj, hyj, hJ⟩ := frontZ hsel l _ j hp.2 hj' (fun i hi => hw i (by simp [hi])) hK
      have hap : ok.apart ops oj = true := by
        have h1 := hp.1 j hj'
        simp only [Bool.or_eq_true] at h1
        rcases h1.2 with h2 | h2
        · rw [hw k (by simp)] at h2; cases h2
        · simpa [apartB, hok, hoj] using h2
      obtain ⟨h1, h2, h3⟩ := Oper.apart_spec hap
      refine ⟨oj, vj, hoj, hyj.of_same ?_ ?_, ?_⟩
      · exact (execOp_put oj (fun cs b => hsel j oj cs b hoj) a ok.dst vk h1).symm
      · exact (wanted_put oj a ok.dst vk h1).symm
      · rw [List.erase_cons_tail (by simpa using hkj)]
        refine ⟨ok, vk, hok, ?_, ?_⟩
        · exact Z.of_same hyk (execOp_put ok (fun cs b => hsel k ok cs b hok) a oj.dst vj h3) (wanted_put ok a oj.dst vj h3)
        · rw [← Act.put_comm a vk vj h2]
          exact hJ
/-- What the allocation writes is looked at by nobody of the head. -/
theorem headZ_put {Q Q1 : Act → Prop} (hsel : ∀ (j : Nat) (o : Oper) cs b, ops[j]? = some o → o.op ≠ .select cs b) {m : Nat} {om : Oper} (hom : ops[m]? = some om) (p : Value) (hQ : ∀ a, Q a → Q1 (a.put om.dst p)) :
    ∀ (l : List Nat) (a : Act), (∀ j ∈ l, apartB ops m j = true) → wpHeadZ P ops w0 E Q l a → wpHeadZ P ops w0 E Q1 l (a.put om.dst p)
  | [], a, _, h => hQ a h
  | k :: l, a, hap, h => by
    obtain ⟨ok, vk, hok, hyk, hK⟩ := h
    have h0 : om.apart ops ok = true := by
      have := hap k (by simp)
      simpa [apartB, hom, hok] using this
    obtain ⟨h1, h2, h3⟩ := Oper.apart_spec h0
    refine ⟨ok, vk, hok, Z.of_same hyk (execOp_put ok (fun cs b => hsel k ok cs b hok) a om.dst p h1) (wanted_put ok a om.dst p h1), ?_⟩
    rw [Act.put_comm a p vk h2]
    exact headZ_put hsel hom p hQ l _ (fun j hj => hap j (by simp [hj])) hK

variable {Q' : Exit → Act → World → Prop}
theorem wpAny_alloc {H T : List Nat} {m : Nat} {om : Oper} {t : TypeId} {z : Array Value} (hsel : Region.noSelect ops = true)
    (hcov : ∀ i, i < ops.size → i ∈ m :: H ∨ i ∈ T) (hH : ∀ i ∈ m :: H, i < ops.size ∧ depsB ops (m :: H) i = true) (hT : ∀ t ∈ T, t < ops.size ∧ t ∉ m :: H)
    (hTH : ∀ t ∈ T, ∀ i ∈ m :: H, (i ∈ E ∨ reachB .any ops 8 t i = true) ∧ (waits ops t i = true ∨ apartB ops i t = true))
    (hseq : seqL .any ops T ((List.range ops.size).map (fun i => (m :: H).contains i)).toArray = true)
    (hQ : E ≠ [] → ∀ c d v a w, Q' (.panic c) (Act.put a d v) w → Q' (.panic c) a w)
    (hom : ops[m]? = some om) (hgd : om.guard = none) (hdep : ∀ e ∈ om.after, Region.binds .any e = false) (hap : ∀ j ∈ H, apartB ops m j = true) (hmH : m ∉ H) (hrT : ∀ t ∈ T, reachB .any ops 8 t m = true)
    (hrun : ∀ (a : Act) w, (execOp a.eval om).run P w = .ok (.value (.pointer (some ⟨w.heap.size, 0, none⟩))) (w.alloc (.cells z t))) :
    ∀ (n : Nat) (l : List Nat) (listed : Array Bool) (a : Act), l.length = n → (∀ i ∈ l, i ∈ H) → pairB ops l = true → Inv .any ops T listed →
      (∀ i, i < ops.size → (listed.getD i true = false ↔ (i = m ∨ i ∈ l ∨ i ∈ T))) →
      wpHeadZ P ops w0 E (fun a' => ∀ w' B, Bl w0 w' → w0.heap.size ≤ B → Blk w' B t z → wpList P ops Q' (pick ops.toList T) (a'.put om.dst (.pointer (some ⟨B, 0, none⟩))) w') l a →
      ∀ w, Bl w0 w → wpAny P .any ops Q' (l.length + T.length + 1) listed a w := by
  have hselS := Region.noSelect_spec hsel
  have hms : m < ops.size := (Array.getElem?_eq_some_iff.1 hom).1
  have hmT : m ∉ T := fun h => (hT m h).2 (by simp)
  -- the allocation, whenever it comes
  have stepM : ∀ (l : List Nat) (listed : Array Bool) (a : Act), (∀ i ∈ l, i ∈ H) → pairB ops l = true → Inv .any ops T listed → (∀ i, i < ops.size → (listed.getD i true = false ↔ (i = m ∨ i ∈ l ∨ i ∈ T))) → m ∈ Region.ready .any ops listed →
      wpHeadZ P ops w0 E (fun a' => ∀ w' B, Bl w0 w' → w0.heap.size ≤ B → Blk w' B t z → wpList P ops Q' (pick ops.toList T) (a'.put om.dst (.pointer (some ⟨B, 0, none⟩))) w') l a →
      ∀ w, Bl w0 w → wpOp P ops Q' m (wpAny P .any ops Q' (l.length + T.length) (listed.setIfInBounds m true)) a w := by
    intro l listed a hlH hp inv hun hmr h w hw
    unfold wpOp
    have hwant : Region.wanted om (yielded ops a.tmps) = true := by unfold Region.wanted; rw [hgd]
    simp only [hom, hwant, if_true]
    refine .inl ?_
    unfold Oper.wp
    rw [hrun a w]
    simp only [Oper.upon]
    have hS : Closed w0 (fun w' => Bl w0 w' ∧ Blk w' w.heap.size t z) := ⟨fun _ h => h.1, fun _ _ h hb => ⟨h.1.trans hb, h.2.below hb h.2.lt⟩⟩
    refine wpAny_of_head' (C := fun w' => Bl w0 w' ∧ Blk w' w.heap.size t z) (H := m :: H) (E := E) hsel hcov hH hT hTH hseq hQ l.length l _ _ rfl (fun i hi => by simp [hlH i hi]) hp (inv.set hmr hmT) (fun i hi => ?_)
      (headZ_old hS _ _ (headZ_put hselS hom _ (fun a' hq w' hs => hq w' _ hs.1 hw.out.size hs.2) l a (fun j hj => hap j (hlH j hj)) h)) (w.alloc (.cells z t)) ⟨hw.trans ((Below.refl _ w).alloc (Nat.le_refl _) _), Blk.new _ _ _⟩
    by_cases him : m = i
    · subst him
      have hjs : m < listed.size := by rw [inv.size]; exact hms
      simp only [Array.getD_eq_getD_getElem?, Array.getElem?_setIfInBounds_self_of_lt hjs, Option.getD_some]
      constructor
      · intro h; cases h
      · rintro (h | h)
        · exact absurd (hlH m h) hmH
        · exact absurd h hmT
    · rw [getD_set_ne true him, hun i hi]
      constructor
      · rintro (h | h)
        · exact absurd h.symm him
        · exact h
      · exact Or.inr
  have hmr0 : ∀ (l : List Nat) (listed : Array Bool), (∀ i, i < ops.size → (listed.getD i true = false ↔ (i = m ∨ i ∈ l ∨ i ∈ T))) → m ∈ Region.ready .any ops listed := fun l listed hun =>
    mem_ready.2 ⟨(hun m hms).2 (Or.inl rfl), om, hom, fun e he hb => by rw [hdep e he] at hb; cases hb⟩
  intro n
  induction n with
  | zero =>
    intro l listed a hn hlH hp inv hun h w hw
    have hl0 : l = [] := List.length_eq_zero_iff.1 hn
    have hmr := hmr0 l listed hun
    refine ⟨fun h0 => (by rw [h0] at hmr; cases hmr), fun j hj => ?_⟩
    obtain ⟨hju, oj, hoj, hdeps⟩ := mem_ready.1 hj
    have hjs : j < ops.size := (Array.getElem?_eq_some_iff.1 hoj).1
    have hjm : j = m := by
      rcases (hun j hjs).1 hju with h1 | h1 | h1
      · exact h1
      · rw [hl0] at h1; cases h1
      · exfalso
        have h2 := reach_listed inv.closed 8 j m (hrT j h1) (fun o ho => by rw [Option.some.inj (ho.symm.trans hoj)]; exact hdeps)
        have h3 := (hun m hms).2 (Or.inl rfl)
        rw [getD_both h3] at h2
        cases h2
    subst hjm
    exact stepM l listed a hlH hp inv hun hmr h w hw
  | succ n ih =>
    intro l listed a hn hlH hp inv hun h w hw
    have hmr := hmr0 l listed hun
    refine ⟨fun h0 => (by rw [h0] at hmr; cases hmr), fun j hj => ?_⟩
    obtain ⟨hju, oj, hoj, hdeps⟩ := mem_ready.1 hj
    have hjs : j < ops.size := (Array.getElem?_eq_some_iff.1 hoj).1
    rcases (hun j hjs).1 hju with h1 | hjl | h1
    · subst h1
      exact stepM l listed a hlH hp inv hun hmr h w hw
    · have hnw : ∀ i ∈ l, waits ops j i = false := by
        intro i hi
        cases hb : waits ops j i with
        | false => rfl
        | true =>
          obtain ⟨e, he, hbd, hon⟩ := (waits_iff hoj).1 hb
          have h2 := hdeps e he hbd
          have h3 := (hun i (hH i (by simp [hlH i hi])).1).2 (Or.inr (Or.inl hi))
          rw [hon, getD_both h3] at h2
          cases h2
      obtain ⟨o', v, ho', hy, hK⟩ := frontZ hselS _ a j hp hjl hnw h
      have : o' = oj := Option.some.inj (ho'.symm.trans hoj)
      subst this
      have hjT : j ∉ T := fun ht => (hT j ht).2 (by simp [hlH j hjl])
      have hun' : ∀ i, i < ops.size → ((listed.setIfInBounds j true).getD i true = false ↔ (i = m ∨ i ∈ l.erase j ∨ i ∈ T)) := fun i hi => by
        by_cases hij : j = i
        · subst hij
          have hjs : j < listed.size := by rw [inv.size]; exact hi
          simp only [Array.getD_eq_getD_getElem?, Array.getElem?_setIfInBounds_self_of_lt hjs, Option.getD_some]
          constructor
          · intro h; cases h
          · rintro (h | h | h)
            · exact absurd (by rw [← h]; exact hlH j hjl) hmH
            · exact absurd h ((pairB_nodup hp).not_mem_erase)
            · exact absurd h hjT
        · rw [getD_set_ne true hij, hun i hi]
          constructor
          · rintro (h | h | h)
            · exact Or.inl h
            · exact Or.inr (Or.inl ((List.mem_erase_of_ne (Ne.symm hij)).2 h))
            · exact Or.inr (Or.inr h)
          · rintro (h | h | h)
            · exact Or.inl h
            · exact Or.inr (Or.inl (List.mem_of_mem_erase h))
            · exact Or.inr (Or.inr h)
      have hlen : (l.erase j).length = n := by rw [List.length_erase_of_mem hjl, hn]; rfl
      have hS0 : Closed w0 (Bl w0) := ⟨fun _ h => h, fun _ _ h hb => h.trans hb⟩
      refine wpOp_of_qOp (C := Bl w0) hw (fun a' w' hw' hK' => ?_) ((hy.toY hS0).yieldsIn.qOp hoj hK)
      have := ih (l.erase j) _ a' hlen (fun i hi => hlH i (List.mem_of_mem_erase hi)) (pairB_erase j hp) (inv.set hj hjT) hun' hK' w' hw'
      rw [hlen] at this
      rw [hn, show n + 1 + T.length = n + T.length + 1 by omega]
      exact this
    · exfalso
      have h2 := reach_listed inv.closed 8 j m (hrT j h1) (fun o ho => by rw [Option.some.inj (ho.symm.trans hoj)]; exact hdeps)
      have h3 := (hun m hms).2 (Or.inl rfl)
      rw [getD_both h3] at h2
      cases h2

theorem panic_block {id : Nat} {Q : Exit → Act → World → Prop} (h : ∀ c d v a w, Q (.panic c) (Act.put a d v) w → Q (.panic c) a w) : ∀ c d v a w, Exit.inBlock id Q (.panic c) (Act.put a d v) w → Exit.inBlock id Q (.panic c) a w := h

/-- The static look at the allocation m: it waits for nothing, nobody of the head looks at it, the tail waits for it. -/
def allocB (ops : Array Oper) (H T : List Nat) (m : Nat) : Bool :=
  (match ops[m]? with | some om => om.guard.isNone && om.after.all (fun e => !Region.binds .any e) | none => false) && H.all (fun j => apartB ops m j) && !H.contains m && T.all (fun t => reachB .any ops 8 t m)
def wpHeadZO (P : Program) (ops : Array Oper) (w0 : World) (E : List Nat) (Q : Act → Prop) : List (Nat × Oper) → Act → Prop
  | [], a => Q a
  | (k, o) :: ks, a => ∃ v, Z P ops w0 E k o v a ∧ wpHeadZO P ops w0 E Q ks (a.put o.dst v)
theorem headZ_of_O {l : List Oper} {Q : Act → Prop} : ∀ (H : List Nat) (a : Act), (∀ i ∈ H, i < l.length) → wpHeadZO P l.toArray w0 E Q (pickI l H) a → wpHeadZ P l.toArray w0 E Q H a
  | [], _, _, h => h
  | k :: H, a, hl, h => by
    have hk : k < l.length := hl k (by simp)
    have h0 : l[k]? = some l[k] := List.getElem?_eq_getElem hk
    have hp : pickI l (k :: H) = (k, l[k]) :: pickI l H := by simp [pickI, h0]
    rw [hp] at h
    obtain ⟨v, hv, hK⟩ := h
    exact ⟨l[k], v, by simp [hk], hv, headZ_of_O H _ (fun i hi => hl i (by simp [hi])) hK⟩

/-- **A REGION THAT DRAWS ITS ORDER, WITH ONE ALLOCATION 'm' AT LARGE.** -/
theorem wp_region_alloc {id : Nat} {Q : Exit → Act → World → Prop} {a : Act} {w : World} {l : List Oper} (H E T : List Nat) (m : Nat) (t : TypeId) (z : Array Value) (om : Oper) (hm : P.follows .mixedOrders = true) (hB : headTailB l.toArray (m :: H) E T = true)
    (hA : allocB l.toArray H T m = true) (hlen : H.length + T.length + 1 = l.length) (hQ : ∀ c d v a w, Q (.panic c) (Act.put a d v) w → Q (.panic c) a w) (hom : l[m]? = some om)
    (hrun : ∀ (a : Act) w, (execOp a.eval om).run P w = .ok (.value (.pointer (some ⟨w.heap.size, 0, none⟩))) (w.alloc (.cells z t)))
    (h : wpHeadZO P l.toArray w E (fun a' => ∀ w' B, Bl w w' → w.heap.size ≤ B → Blk w' B t z → wpList P l.toArray Q (pick l T) (a'.put om.dst (.pointer (some ⟨B, 0, none⟩))) w') (pickI l H) a) : (Code.region id l.toArray true).wp P Q a w := by
  have hom' : l.toArray[m]? = some om := by simpa using hom
  simp only [headTailB, Bool.and_eq_true, List.all_eq_true, decide_eq_true_eq, Bool.not_eq_true', List.mem_range, Bool.or_eq_true, List.contains_iff_mem] at hB
  obtain ⟨⟨⟨⟨⟨⟨hsel, hcov⟩, hH⟩, hT⟩, hTH⟩, hpair⟩, hseq⟩ := hB
  simp only [allocB, hom', Bool.and_eq_true, List.all_eq_true, Bool.not_eq_true', Option.isNone_iff_eq_none] at hA
  obtain ⟨⟨⟨⟨hgd, hdep⟩, hap⟩, hmH⟩, hrT⟩ := hA
  have hmH' : m ∉ H := fun hh => by rw [List.contains_iff_mem.2 hh] at hmH; cases hmH
  have hT' : ∀ t ∈ T, t < l.toArray.size ∧ t ∉ m :: H := fun t ht => ⟨(hT t ht).1, fun hh => by
    have := (hT t ht).2
    rw [List.contains_iff_mem.2 hh] at this
    cases this⟩
  have inv0 : Inv .any l.toArray T (Array.replicate l.toArray.size false) :=
    ⟨by simp, fun j oj _ hl => (by rw [getD_replicate_false] at hl; cases hl), fun t ht => getD_in (by simpa using (hT' t ht).1) (getD_replicate_false _ _)⟩
  have hpH : pairB l.toArray H = true := by
    simp only [pairB, Bool.and_eq_true] at hpair
    exact hpair.2
  refine wp_region_any hm ?_
  have key := wpAny_alloc (P := P) (ops := l.toArray) (w0 := w) (E := E) (Q' := Q) (H := H) (T := T) (m := m) (om := om) (t := t) (z := z) hsel hcov hH hT' hTH hseq (fun _ => hQ) hom' hgd
    (fun e he => by simpa using Array.all_eq_true_iff_forall_mem.1 hdep e he) hap hmH' hrT hrun H.length H (Array.replicate l.toArray.size false) a rfl (fun _ h => h) hpH inv0
    (fun i hi => ⟨fun _ => by
      rcases hcov i hi with h1 | h1
      · rcases List.mem_cons.1 h1 with h2 | h2
        · exact Or.inl h2
        · exact Or.inr (Or.inl h2)
      · exact Or.inr (Or.inr h1), fun _ => getD_in (by simpa using hi) (getD_replicate_false _ _)⟩) (headZ_of_O H a (fun i hi => by simpa using (hH i (by simp [hi])).1) (by simpa using h)) w.drew (bl_drew (bl_refl w))
  rw [hlen] at key
  exact key

section
variable {Q : Act → Prop} {a : Act} {o : Oper} {k : Nat} {ks : List (Nat × Oper)}
theorem headZ_val (hE : E.contains k = false) (hw : Region.wanted o (yielded ops a.tmps) = true) (h : ∃ v, (∀ w, Bl w0 w → Oper.quietUpon P (fun w' => Below w.heap.size w w') w v ((execOp a.eval o).run P w)) ∧ wpHeadZO P ops w0 E Q ks (a.put o.dst v)) : wpHeadZO P ops w0 E Q ((k, o) :: ks) a :=
  h.elim fun v hv => ⟨v, by unfold Z; rw [if_neg (by rw [hE]; exact Bool.false_ne_true)]; exact .inl ⟨hw, hv.1⟩, hv.2⟩
theorem headZ_pure (hE : E.contains k = true) (hw : Region.wanted o (yielded ops a.tmps) = true) (h : ∃ v, (∀ w, (execOp a.eval o).run P w = .ok (.value v) w) ∧ wpHeadZO P ops w0 E Q ks (a.put o.dst v)) : wpHeadZO P ops w0 E Q ((k, o) :: ks) a :=
  h.elim fun v hv => ⟨v, by unfold Z; rw [if_pos hE]; exact .inl ⟨hw, hv.1⟩, hv.2⟩
theorem headZ_pass (hw : Region.wanted o (yielded ops a.tmps) = false) (h : wpHeadZO P ops w0 E Q ks (a.put o.dst undef)) : wpHeadZO P ops w0 E Q ((k, o) :: ks) a :=
  ⟨undef, by unfold Z; split <;> exact .inr ⟨hw, rfl⟩, h⟩
theorem headZ_nil (h : Q a) : wpHeadZO P ops w0 E Q [] a := h
end
end
end Go.Proofs.YtehifkdfbiebfaaDoor
namespace Go.Proofs.YtehifkdfbiebfaaDoor
open Go Go.RowKit

/-- The part of a code at the end of a path. -/
def at_ : List Nat → Code → Code
  | [], c => c
  | 0 :: p, .seq a _ => at_ p a
  | 1 :: p, .seq _ b => at_ p b
  | _ :: p, .block _ c => at_ p c
  | _ :: p, .loop c => at_ p c
  | _ :: p, .scope c => at_ p c
  | 1 :: p, .cond _ a _ => at_ p a
  | 2 :: p, .cond _ _ b => at_ p b
  | 0 :: p, .rangeFunc _ _ a _ => at_ p a
  | 1 :: p, .rangeFunc _ _ _ b => at_ p b
  | _, _ => .skip
end Go.Proofs.YtehifkdfbiebfaaDoor
