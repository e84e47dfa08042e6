/- A law on a region that draws its order and holds makers: operations that hand back a value which depends on the world (an address), known by a property that later steps keep. -/
import Derived.Test.YtkgklmmkkhbimaaRegion2
namespace Go.Proofs.Ytkgklmmkkhbimaa
open Go Go.RowKit

section
variable {P : Program} {ops : Array Oper} {w0 : World} {E : List Nat}

/-- A property of a value and a world that every later step keeps. -/
def Steady (Φ : Value → World → Prop) : Prop := ∀ v w w', Φ v w → Below w.heap.size w w' → Φ v w'
/-- A maker: in every world behind w0 it runs to its end; its value has the property there. -/
def Mk (P : Program) (w0 : World) (o : Oper) (Φ : Value → World → Prop) (a : Act) : Prop :=
  o.guard = none ∧ Steady Φ ∧ ∀ w, Bl w0 w → match (execOp a.eval o).run P w with
    | .ok (.value v) w' => Below w.heap.size w w' ∧ Φ v w'
    | .ok (.enter f args) w' => w' = w ∧ Calls P f args w (fun e w'' => ∃ v, e = .returned v ∧ Below w.heap.size w w'' ∧ Φ v w'')
    | _ => False
theorem Mk.of_same {o : Oper} {Φ : Value → World → Prop} {a a' : Act} (h : Mk P w0 o Φ a) (he : execOp a'.eval o = execOp a.eval o) : Mk P w0 o Φ a' := by
  unfold Mk at *
  rw [he]
  exact h

variable {Q' : Exit → Act → World → Prop}
/-- The makers that are left, then the tail. -/
def QM (P : Program) (ops : Array Oper) (w0 : World) (Q' : Exit → Act → World → Prop) (T : List Nat) : (World → Prop) → List (Nat × (Value → World → Prop)) → Act → Prop
  | S, [], a => ∀ w', S w' → wpList P ops Q' (pick ops.toList T) a w'
  | S, (m, Φ) :: ms, a => ∃ om, ops[m]? = some om ∧ Mk P w0 om Φ a ∧ ∀ v, QM P ops w0 Q' T (fun w => S w ∧ Φ v w) ms (a.put om.dst v)
theorem QM.mono {T : List Nat} : ∀ {ms : List (Nat × (Value → World → Prop))} {S S' : World → Prop} {a : Act}, (∀ w, S' w → S w) → QM P ops w0 Q' T S ms a → QM P ops w0 Q' T S' ms a
  | [], _, _, _, hS, h => fun w' hw => h w' (hS w' hw)
  | (_, _) :: _, _, _, _, hS, ⟨om, h1, h2, h3⟩ => ⟨om, h1, h2, fun v => QM.mono (fun w hw => ⟨hS w hw.1, hw.2⟩) (h3 v)⟩
/-- One maker is brought to the front. -/
theorem QM.front {T : List Nat} (hsel : ∀ (j : Nat) (o : Oper) cs b, ops[j]? = some o → o.op ≠ .select cs b) :
    ∀ (pre : List (Nat × (Value → World → Prop))) {m : Nat} {Φ : Value → World → Prop} {post : List (Nat × (Value → World → Prop))} {S : World → Prop} {a : Act}, (∀ p ∈ pre, apartB ops p.1 m = true) →
      QM P ops w0 Q' T S (pre ++ (m, Φ) :: post) a → QM P ops w0 Q' T S ((m, Φ) :: (pre ++ post)) a
  | [], _, _, _, _, _, _, h => h
  | (k, Ψ) :: pre, m, Φ, post, S, a, hap, ⟨ok, hok, hmk, hK⟩ => by
    have hf : ∀ v, QM P ops w0 Q' T (fun w => S w ∧ Ψ v w) ((m, Φ) :: (pre ++ post)) (a.put ok.dst v) := fun v => QM.front hsel pre (fun p hp => hap p (by simp [hp])) (hK v)
    obtain ⟨om, hom, hmm, _⟩ := hf undef
    have h0 : ok.apart ops om = true := by
      have := hap (k, Ψ) (by simp)
      simpa [apartB, hok, hom] using this
    obtain ⟨h1, h2, h3⟩ := Oper.apart_spec h0
    refine ⟨om, hom, hmm.of_same (execOp_put om (fun cs b => hsel m om cs b hom) a ok.dst undef h1).symm, fun v => ⟨ok, hok, hmk.of_same (execOp_put ok (fun cs b => hsel k ok cs b hok) a om.dst v h3), fun u => ?_⟩⟩
    obtain ⟨om', hom', _, hv⟩ := hf u
    have : om' = om := Option.some.inj (hom'.symm.trans hom)
    subst this
    rw [← Act.put_comm a u v h2]
    exact (hv v).mono fun w hw => ⟨⟨hw.1.1, hw.2⟩, hw.1.2⟩
/-- What holds of a maker behind the head holds before it. -/
theorem mk_before {Q : Act → Prop} (hsel : ∀ (j : Nat) (o : Oper) cs b, ops[j]? = some o → o.op ≠ .select cs b) {m : Nat} {om : Oper} {Φ : Value → World → Prop} (hom : ops[m]? = some om) (hQ : ∀ a, Q a → Mk P w0 om Φ a) :
    ∀ (l : List Nat) (a : Act), (∀ j ∈ l, apartB ops j m = true) → wpHeadZ P ops w0 E Q l a → Mk P w0 om Φ a
  | [], a, _, h => hQ a h
  | k :: l, a, hap, ⟨ok, vk, hok, _, hK⟩ => by
    have h0 : ok.apart ops om = true := by
      have := hap k (by simp)
      simpa [apartB, hok, hom] using this
    obtain ⟨h1, _, _⟩ := Oper.apart_spec h0
    exact (mk_before hsel hom hQ l _ (fun j hj => hap j (by simp [hj])) hK).of_same (execOp_put om (fun cs b => hsel m om cs b hom) a ok.dst vk h1).symm
theorem headZ_mono {Q Q1 : Act → Prop} (h : ∀ a, Q a → Q1 a) : ∀ (l : List Nat) (a : Act), wpHeadZ P ops w0 E Q l a → wpHeadZ P ops w0 E Q1 l a
  | [], a, hh => h a hh
  | _ :: l, _, ⟨o, v, h1, h2, h3⟩ => ⟨o, v, h1, h2, headZ_mono h l _ h3⟩

theorem wpAny_makers {H T M : List Nat} (hsel : Region.noSelect ops = true)
    (hcov : ∀ i, i < ops.size → i ∈ M ++ H ∨ i ∈ T) (hH : ∀ i ∈ M ++ H, i < ops.size ∧ depsB ops (M ++ H) i = true) (hT : ∀ t ∈ T, t < ops.size ∧ t ∉ M ++ H)
    (hTH : ∀ t ∈ T, ∀ i ∈ M ++ H, (i ∈ E ∨ reachB .any ops 8 t i = true) ∧ (waits ops t i = true ∨ apartB ops i t = true))
    (hseq : seqL .any ops T ((List.range ops.size).map (fun i => (M ++ H).contains i)).toArray = true)
    (hQ : E ≠ [] → ∀ c d v a w, Q' (.panic c) (Act.put a d v) w → Q' (.panic c) a w)
    (hlex : ∀ i o, ops[i]? = some o → ∀ e ∈ o.after, Region.binds .any e = true → e.on < i)
    (hpH : pairB ops H = true) (hMH : ∀ m ∈ M, ∀ j ∈ H, (waits ops m j = true ∨ (apartB ops m j = true ∧ apartB ops j m = true)) ∧ m ≠ j)
    (hMM : ∀ m ∈ M, ∀ m' ∈ M, m ≠ m' → apartB ops m m' = true) (hrT : ∀ t ∈ T, ∀ m ∈ M, reachB .any ops 8 t m = true) (hMn : M.Nodup) :
    ∀ (n : Nat) (ms : List (Nat × (Value → World → Prop))) (l : List Nat) (S : World → Prop) (listed : Array Bool) (a : Act), ms.length + l.length = n → (∀ p ∈ ms, p.1 ∈ M) → (ms.map (·.1)).Nodup → (∀ i ∈ l, i ∈ H) → pairB ops l = true → Inv .any ops T listed →
      (∀ i, i < ops.size → (listed.getD i true = false ↔ ((∃ p ∈ ms, p.1 = i) ∨ i ∈ l ∨ i ∈ T))) → Closed w0 S →
      wpHeadZ P ops w0 E (QM P ops w0 Q' T S ms) l a → ∀ w, S w → wpAny P .any ops Q' (ms.length + l.length + T.length) listed a w := by
  have hselS := Region.noSelect_spec hsel
  intro n
  induction n with
  | zero =>
    intro ms l S listed a hn hms hmn hlH hp inv hun hS h w hw
    have hms0 : ms = [] := List.length_eq_zero_iff.1 (by omega)
    subst hms0
    rw [List.length_nil, Nat.zero_add]
    refine wpAny_of_head' (C := S) (H := M ++ H) (E := E) hsel hcov hH hT hTH hseq hQ l.length l listed a rfl (fun i hi => by simp [hlH i hi]) hp inv (fun i hi => ?_) (headZ_old hS _ _ h) w hw
    rw [hun i hi]
    simp
  | succ n ih =>
    intro ms l S listed a hn hms hmn hlH hp inv hun hS h w hw
    by_cases hms0 : ms = []
    · subst hms0
      rw [List.length_nil, Nat.zero_add]
      refine wpAny_of_head' (C := S) (H := M ++ H) (E := E) hsel hcov hH hT hTH hseq hQ l.length l listed a rfl (fun i hi => by simp [hlH i hi]) hp inv (fun i hi => ?_) (headZ_old hS _ _ h) w hw
      rw [hun i hi]
      simp
    have hpos : 0 < ms.length := List.length_pos_iff.2 hms0
    -- something may come up: the least that has not
    have hex : ∃ j, j ∈ Region.ready .any ops listed := by
      obtain ⟨p, hpm⟩ : ∃ p, p ∈ ms := List.exists_mem_of_ne_nil ms hms0
      have hps : p.1 < ops.size := (hH p.1 (by simp [hms p hpm])).1
      have hpu : listed.getD p.1 true = false := (hun p.1 hps).2 (Or.inl ⟨p, hpm, rfl⟩)
      have key : ∀ (N i : Nat), i < N → i < ops.size → listed.getD i true = false → ∃ j, j ∈ Region.ready .any ops listed := by
        intro N
        induction N with
        | zero => intro i h; omega
        | succ N ihN =>
          intro i _ hi hu
          by_cases hr : i ∈ Region.ready .any ops listed
          · exact ⟨i, hr⟩
          · have h0 : ops[i]? = some ops[i] := Array.getElem?_eq_getElem hi
            have : ∃ e ∈ ops[i].after, Region.binds .any e = true ∧ listed.getD e.on false = false := by
              apply Classical.byContradiction
              intro hne
              refine hr (mem_ready.2 ⟨hu, ops[i], h0, fun e he hb => ?_⟩)
              cases hl : listed.getD e.on false with
              | true => rfl
              | false => exact absurd ⟨e, he, hb, hl⟩ hne
            obtain ⟨e, he, hb, hl⟩ := this
            have hlt := hlex i _ h0 e he hb
            have hes : e.on < listed.size := by rw [inv.size]; omega
            have hl' : listed.getD e.on true = false := by
              simp [hes] at hl ⊢
              exact hl
            exact ihN e.on (by omega) (by omega) hl'
      exact key (p.1 + 1) p.1 (by omega) hps hpu
    obtain ⟨j0, hj0⟩ := hex
    rw [show ms.length + l.length + T.length = (n + T.length) + 1 by omega]
    refine ⟨fun h0 => (by rw [h0] at hj0; cases hj0), fun j hj => ?_⟩
    obtain ⟨hju, oj, hoj, hdeps⟩ := mem_ready.1 hj
    have hjs : j < ops.size := (Array.getElem?_eq_some_iff.1 hoj).1
    have hnwait : ∀ i, i < ops.size → listed.getD i true = false → waits ops j i = false := fun i hi hu => by
      cases hb : waits ops j i with
      | false => rfl
      | true =>
        obtain ⟨e, he, hbd, hon⟩ := (waits_iff hoj).1 hb
        have h2 := hdeps e he hbd
        rw [hon, getD_both hu] at h2
        cases h2
    have hunset : ∀ (ms' : List (Nat × (Value → World → Prop))) (l' : List Nat), (∀ i, i ≠ j → ((∃ p ∈ ms', p.1 = i) ↔ (∃ p ∈ ms, p.1 = i))) → (∀ i, i ≠ j → (i ∈ l' ↔ i ∈ l)) → (∀ p ∈ ms', p.1 ≠ j) → j ∉ l' → j ∉ T →
        ∀ i, i < ops.size → ((listed.setIfInBounds j true).getD i true = false ↔ ((∃ p ∈ ms', p.1 = i) ∨ i ∈ l' ∨ i ∈ T)) := fun ms' l' e1 e2 n1 n2 n3 i hi => by
      by_cases hij : j = i
      · subst hij
        have hjs : j < listed.size := by rw [inv.size]; exact hi
        simp only [Array.getD_eq_getD_getElem?, Array.getElem?_setIfInBounds_self_of_lt hjs, Option.getD_some]
        constructor
        · intro h; cases h
        · rintro (⟨p, hp, he⟩ | h | h)
          · exact absurd he (n1 p hp)
          · exact absurd h n2
          · exact absurd h n3
      · rw [getD_set_ne true hij, hun i hi, e1 i (Ne.symm hij), e2 i (Ne.symm hij)]
    rcases (hun j hjs).1 hju with ⟨p, hpm, hpj⟩ | hjl | hjT
    · -- a maker
      obtain ⟨m, Φ⟩ := p
      simp only at hpj
      subst hpj
      obtain ⟨pre, post, rfl⟩ := List.append_of_mem hpm
      have hmM : m ∈ M := hms (m, Φ) (by simp)
      have hmT : m ∉ T := fun ht => (hT m ht).2 (by simp [hmM])
      have hmHn : m ∉ H := fun hh => (hMH m hmM m hh).2 rfl
      simp only [List.map_append, List.map_cons] at hmn
      have hnot : ∀ p ∈ pre ++ post, p.1 ≠ m := fun p hp e => by
        have h1 := List.nodup_append.1 hmn
        rcases List.mem_append.1 hp with hp | hp
        · exact h1.2.2 p.1 (List.mem_map.2 ⟨p, hp, rfl⟩) m (by simp) e
        · exact (List.nodup_cons.1 h1.2.1).1 (List.mem_map.2 ⟨p, hp, e⟩)
      have h2 : wpHeadZ P ops w0 E (QM P ops w0 Q' T S ((m, Φ) :: (pre ++ post))) l a := headZ_mono (fun a' hq => QM.front hselS pre (fun p hp => hMM p.1 (hms p (by simp [hp])) m hmM (hnot p (by simp [hp]))) hq) l a h
      have hapl : ∀ i ∈ l, apartB ops m i = true ∧ apartB ops i m = true := fun i hi => by
        have h3 := (hMH m hmM i (hlH i hi)).1
        rcases h3 with h3 | h3
        · rw [hnwait i (hH i (by simp [hlH i hi])).1 ((hun i (hH i (by simp [hlH i hi])).1).2 (Or.inr (Or.inl hi)))] at h3
          cases h3
        · exact h3
      have hmk := mk_before (Φ := Φ) hselS hoj (fun a' hq => by
        obtain ⟨om, hom, hm', _⟩ := hq
        have : om = oj := Option.some.inj (hom.symm.trans hoj)
        subst this
        exact hm') l a (fun i hi => (hapl i hi).2) h2
      have hput := fun v => headZ_put (Q1 := QM P ops w0 Q' T (fun w => S w ∧ Φ v w) (pre ++ post)) hselS hoj v (fun a' hq => by
        obtain ⟨om, hom, _, hv⟩ := hq
        have : om = oj := Option.some.inj (hom.symm.trans hoj)
        subst this
        exact hv v) l a (fun i hi => (hapl i hi).1) h2
      have hlen : (pre ++ post).length + l.length = n := by
        simp at hn ⊢
        omega
      have hgo : ∀ v w', S w' → Φ v w' → wpAny P .any ops Q' (n + T.length) (listed.setIfInBounds m true) (a.put oj.dst v) w' := fun v w' hs hv => by
        have := ih (pre ++ post) l (fun w => S w ∧ Φ v w) (listed.setIfInBounds m true) (a.put oj.dst v) hlen (fun p hp => hms p (by
            rcases List.mem_append.1 hp with h | h
            · simp [h]
            · simp [h])) (by
            rw [List.map_append]
            have h1 := List.nodup_append.1 hmn
            exact List.nodup_append.2 ⟨h1.1, (List.nodup_cons.1 h1.2.1).2, fun x hx y hy => h1.2.2 x hx y (by simp [hy])⟩) hlH hp (inv.set hj hmT)
          (hunset (pre ++ post) l (fun i hi => by
            constructor
            · rintro ⟨p, hp, e⟩
              exact ⟨p, by rcases List.mem_append.1 hp with h | h <;> simp [h], e⟩
            · rintro ⟨p, hp, e⟩
              rcases List.mem_append.1 hp with h | h
              · exact ⟨p, by simp [h], e⟩
              · rcases List.mem_cons.1 h with h | h
                · subst h; exact absurd e.symm hi
                · exact ⟨p, by simp [h], e⟩) (fun _ _ => Iff.rfl) hnot (fun hh => hmHn (hlH m hh)) hmT)
          ⟨fun w h => hS.1 w h.1, fun w1 w2 h hb => ⟨hS.2 w1 w2 h.1 hb, hmk.2.1 v w1 w2 h.2 hb⟩⟩ (hput v) w' ⟨hs, hv⟩
        rw [hlen] at this
        exact this
      unfold wpOp
      have hwant : Region.wanted oj (yielded ops a.tmps) = true := by unfold Region.wanted; rw [hmk.1]
      simp only [hoj, hwant, if_true]
      refine .inl ?_
      unfold Oper.wp
      have hr := hmk.2.2 w (hS.1 w hw)
      revert hr
      cases (execOp a.eval oj).run P w with
      | halt h w1 => intro hr; exact hr.elim
      | ok nx w1 =>
        cases nx with
        | value v => intro hr; exact hgo v w1 (hS.2 w w1 hw hr.1) hr.2
        | enter f args =>
          rintro ⟨rfl, hr⟩
          exact hr.mono fun e w2 ⟨v, he, hb, hv⟩ => by subst he; exact hgo v w2 (hS.2 _ w2 hw hb) hv
        | skip => intro hr; exact hr.elim
        | defer d => intro hr; exact hr.elim
        | row r args => intro hr; exact hr.elim
        | round a1 a2 a3 a4 a5 => intro hr; exact hr.elim
        | _ => intro hr; exact hr.elim
    · -- an operation of the head
      have hnw : ∀ i ∈ l, waits ops j i = false := fun i hi => hnwait i (hH i (by simp [hlH i hi])).1 ((hun i (hH i (by simp [hlH i hi])).1).2 (Or.inr (Or.inl hi)))
      obtain ⟨o', v, ho', hy, hK⟩ := frontZ hselS l a j hp hjl hnw h
      have : o' = oj := Option.some.inj (ho'.symm.trans hoj)
      subst this
      have hjH := hlH j hjl
      have hjT : j ∉ T := fun ht => (hT j ht).2 (by simp [hjH])
      have hlen : (l.erase j).length + 1 = l.length := by
        rw [List.length_erase_of_mem hjl]
        have := List.length_pos_of_mem hjl
        omega
      refine wpOp_of_qOp (C := S) hw (fun a' w' hw' hK' => ?_) ((hy.toY hS).yieldsIn.qOp hoj hK)
      have := ih ms (l.erase j) S _ a' (by omega) hms hmn (fun i hi => hlH i (List.mem_of_mem_erase hi)) (pairB_erase j hp) (inv.set hj hjT)
        (hunset ms (l.erase j) (fun _ _ => Iff.rfl) (fun i hi => ⟨List.mem_of_mem_erase, (List.mem_erase_of_ne hi).2⟩) (fun p hp e => (hMH p.1 (hms p hp) j hjH).2 e) ((pairB_nodup hp).not_mem_erase) hjT) hS hK' w' hw'
      rw [show ms.length + (l.erase j).length + T.length = n + T.length by omega] at this
      exact this
    · exfalso
      obtain ⟨p, hpm⟩ : ∃ p, p ∈ ms := List.exists_mem_of_ne_nil ms hms0
      have hps : p.1 < ops.size := (hH p.1 (by simp [hms p hpm])).1
      have h2 := reach_listed inv.closed 8 j p.1 (hrT j hjT p.1 (hms p hpm)) (fun o ho => by rw [Option.some.inj (ho.symm.trans hoj)]; exact hdeps)
      have h3 := (hun p.1 hps).2 (Or.inl ⟨p, hpm, rfl⟩)
      rw [getD_both h3] at h2
      cases h2
end
end Go.Proofs.Ytkgklmmkkhbimaa
