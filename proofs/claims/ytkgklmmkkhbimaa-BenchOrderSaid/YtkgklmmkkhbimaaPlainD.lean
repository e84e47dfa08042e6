/- Exchange of two neighbouring steps: the list stays valid, and its frequencies are the same. -/
import Derived.Test.YtkgklmmkkhbimaaPlainC
namespace Go.Proofs.Ytkgklmmkkhbimaa
open Go.RowKit

theorem okB_of {n : Int} {pre : List Bt} {b : Bt} (h1 : ptV b.p = true) (h2 : ptV b.q = true) (h3 : rtV b.rn b.rd = true) (h4 : 0 < b.to) (h5 : b.to < n) (h6 : stF pre b.to < 0) (h7 : b.fr = 0 ∨ (0 < b.fr ∧ b.fr < n ∧ 0 ≤ stF pre b.fr)) : okB n pre b = true := by
  unfold okB
  have e1 : setB n (stF pre) b.to = false := by
    unfold setB
    rw [decide_eq_false (by omega), decide_eq_false (p := 0 ≤ stF pre b.to) (by omega)]
    simp
  have e2 : setB n (stF pre) b.fr = true := by
    unfold setB
    rcases h7 with h | ⟨p1, p2, p3⟩
    · simp [h]
    · simp
      omega
  rw [h1, h2, h3, e1, e2, decide_eq_true (by omega)]
  rfl
theorem okUp_of {n : Int} {l : List Bt} : ∀ {k : Nat}, k ≤ l.length → (∀ i b, i < k → l[i]? = some b → okB n (l.take i) b = true) → okUp n l k = true
  | 0, _, _ => rfl
  | k + 1, hk, h => by
    have hb : l[k]? = some (l[k]'(by omega)) := List.getElem?_eq_getElem _
    show (okUp n l k && okB n (l.take k) (l.getD k default)) = true
    rw [getD_of hb, okUp_of (k := k) (by omega) (fun i b hi hb => h i b (by omega) hb), h k _ (by omega) hb]
    rfl
theorem stF_mem {l : List Bt} {x : Int} : 0 ≤ stF l x ↔ ∃ b ∈ l, b.to = x := by
  constructor
  · intro h
    obtain ⟨b, hb, e⟩ := stF_get h
    exact ⟨b, List.mem_of_getElem? hb, e⟩
  · rintro ⟨b, hb, e⟩
    rcases Int.lt_or_le (stF l x) 0 with h | h
    · exact absurd e (stF_none.1 h b hb)
    · exact h
/-- What a valid list needs depends on which items are set before alone. -/
theorem okB_mem {n : Int} {p p' : List Bt} {b : Bt} (hs : (∃ c ∈ p', c.to = b.to) → ∃ c ∈ p, c.to = b.to) (hf : (∃ c ∈ p, c.to = b.fr) → ∃ c ∈ p', c.to = b.fr) (h : okB n p b = true) : okB n p' b = true := by
  obtain ⟨h1, h2, h3, h4, h5, h6, h7⟩ := ok_parts h
  refine okB_of h1 h2 h3 h4 h5 ?_ ?_
  · rcases Int.lt_or_le (stF p' b.to) 0 with k | k
    · exact k
    · have := stF_mem.2 (hs (stF_mem.1 k))
      omega
  · rcases h7 with h | ⟨p1, p2, p3⟩
    · exact Or.inl h
    · exact Or.inr ⟨p1, p2, stF_mem.2 (hf (stF_mem.1 p3))⟩
theorem swap_parts {n : Int} {P S : List Bt} {a b : Bt} (hv : vld n (P ++ a :: b :: S) = true) (_hne : b.fr ≠ a.to) :
    okB n P a = true ∧ okB n (P ++ [a]) b = true ∧ a.to ≠ b.to ∧ a.fr ≠ b.to := by
  have ha := vld_at hv (i := P.length) (b := a) (by simp)
  have hb := vld_at hv (i := P.length + 1) (b := b) (by simp)
  have t1 : (P ++ a :: b :: S).take P.length = P := by simp
  have t2 : (P ++ a :: b :: S).take (P.length + 1) = P ++ [a] := by rw [List.take_length_add_append]; rfl
  rw [t1] at ha
  rw [t2] at hb
  have hp := ok_parts ha
  have hq := ok_parts hb
  have hno := stF_none.1 hq.2.2.2.2.2.1
  refine ⟨ha, hb, hno a (by simp), ?_⟩
  rcases hp.2.2.2.2.2.2 with h | ⟨_, _, h⟩
  · have := hq.2.2.2.1
    omega
  · obtain ⟨c, hc, e⟩ := stF_mem.1 h
    have := hno c (by simp [hc])
    omega
theorem swap_vld {n : Int} {P S : List Bt} {a b : Bt} (hv : vld n (P ++ a :: b :: S) = true) (hne : b.fr ≠ a.to) : vld n (P ++ b :: a :: S) = true := by
  obtain ⟨ha, hb, n1, n2⟩ := swap_parts hv hne
  have hlen := vld_len hv
  unfold vld
  rw [decide_eq_true (by simpa using hlen), Bool.true_and]
  refine okUp_of (Nat.le_refl _) fun i c hi hc => ?_
  have hi' : i < P.length ∨ i = P.length ∨ i = P.length + 1 ∨ ∃ j, i = P.length + (j + 2) := by
    rcases Nat.lt_or_ge i P.length with h | h
    · exact Or.inl h
    · by_cases h1 : i = P.length
      · exact Or.inr (Or.inl h1)
      · by_cases h2 : i = P.length + 1
        · exact Or.inr (Or.inr (Or.inl h2))
        · exact Or.inr (Or.inr (Or.inr ⟨i - P.length - 2, by omega⟩))
  rcases hi' with h | rfl | rfl | ⟨j, rfl⟩
  · have e : (P ++ b :: a :: S).take i = (P ++ a :: b :: S).take i := by
      rw [List.take_append_of_le_length (by omega), List.take_append_of_le_length (by omega)]
    rw [e]
    refine vld_at hv ?_
    rw [List.getElem?_append_left h] at hc ⊢
    exact hc
  · have hcb : b = c := by simpa using hc
    subst hcb
    rw [show (P ++ b :: a :: S).take P.length = P by simp]
    refine okB_mem ?_ ?_ hb
    · rintro ⟨d, hd, e⟩
      exact ⟨d, by simp [hd], e⟩
    · rintro ⟨d, hd, e⟩
      rw [List.mem_append, List.mem_singleton] at hd
      rcases hd with hd | rfl
      · exact ⟨d, hd, e⟩
      · exact absurd e.symm hne
  · have hca : a = c := by simpa using hc
    subst hca
    rw [show (P ++ b :: a :: S).take (P.length + 1) = P ++ [b] by rw [List.take_length_add_append]; rfl]
    refine okB_mem ?_ ?_ ha
    · rintro ⟨d, hd, e⟩
      rw [List.mem_append, List.mem_singleton] at hd
      rcases hd with hd | rfl
      · exact ⟨d, hd, e⟩
      · exact absurd e.symm n1
    · rintro ⟨d, hd, e⟩
      exact ⟨d, by simp [hd], e⟩
  · have hc' : (P ++ a :: b :: S)[P.length + (j + 2)]? = some c := by
      rw [List.getElem?_append_right (by omega)] at hc ⊢
      simpa using hc
    have h := vld_at hv hc'
    have e1 : (P ++ a :: b :: S).take (P.length + (j + 2)) = P ++ a :: b :: S.take j := by rw [List.take_length_add_append]; rfl
    have e2 : (P ++ b :: a :: S).take (P.length + (j + 2)) = P ++ b :: a :: S.take j := by rw [List.take_length_add_append]; rfl
    rw [e1] at h
    rw [e2]
    have hm : ∀ d, d ∈ P ++ a :: b :: S.take j ↔ d ∈ P ++ b :: a :: S.take j := by
      intro d
      simp only [List.mem_append, List.mem_cons]
      constructor
      · rintro (h | h | h | h) <;> simp [h]
      · rintro (h | h | h | h) <;> simp [h]
    refine okB_mem ?_ ?_ h
    · rintro ⟨d, hd, e⟩
      exact ⟨d, (hm d).2 hd, e⟩
    · rintro ⟨d, hd, e⟩
      exact ⟨d, (hm d).1 hd, e⟩

/-- What a step makes of the frequencies. -/
def putF (b : Bt) (o : Int × Int) (g : Nat → Int × Int) : Option (Nat → Int × Int) :=
  if stepE (g b.fr.toNat) b o = 0 then some fun x => if x = b.to.toNat then stepF (g b.fr.toNat) b o else g x else none
theorem plO_put (l : List Bt) (f0 : Int × Int) (off : Nat → Int × Int) (k : Nat) : plO l f0 off (k + 1) = (plO l f0 off k).bind (putF (l.getD k default) (off k)) := rfl
theorem plO_congr {l l' : List Bt} {f0 : Int × Int} {off : Nat → Int × Int} : ∀ {k : Nat}, (∀ i, i < k → l.getD i default = l'.getD i default) → plO l f0 off k = plO l' f0 off k
  | 0, _ => rfl
  | k + 1, h => by rw [plO_put, plO_put, plO_congr (k := k) (fun i hi => h i (by omega)), h k (by omega)]
theorem put_comm {a b : Bt} {o : Int × Int} (h1 : a.to.toNat ≠ b.fr.toNat) (h2 : b.to.toNat ≠ a.fr.toNat) (h3 : a.to.toNat ≠ b.to.toNat) (g : Nat → Int × Int) : (putF a o g).bind (putF b o) = (putF b o g).bind (putF a o) := by
  unfold putF
  by_cases ea : stepE (g a.fr.toNat) a o = 0
  · by_cases eb : stepE (g b.fr.toNat) b o = 0
    · rw [if_pos ea, if_pos eb, Option.bind_some, Option.bind_some]
      simp only [h1.symm, h2.symm, if_false]
      rw [if_pos ea, if_pos eb]
      congr 1
      funext x
      by_cases xa : x = a.to.toNat
      · subst xa
        simp [h3]
      · simp [xa]
    · rw [if_pos ea, if_neg eb, Option.bind_some]
      simp only [h1.symm, if_false]
      rw [if_neg eb]
      rfl
  · by_cases eb : stepE (g b.fr.toNat) b o = 0
    · rw [if_neg ea, if_pos eb, Option.bind_some]
      simp only [h2.symm, if_false]
      rw [if_neg ea]
      rfl
    · rw [if_neg ea, if_neg eb]
      rfl
theorem swap_pl {n : Int} {P S : List Bt} {a b : Bt} (hv : vld n (P ++ a :: b :: S) = true) (hne : b.fr ≠ a.to) (f0 o : Int × Int) : ∀ j, plO (P ++ b :: a :: S) f0 (fun _ => o) (P.length + (j + 2)) = plO (P ++ a :: b :: S) f0 (fun _ => o) (P.length + (j + 2))
  | 0 => by
    obtain ⟨ha, hb, n1, n2⟩ := swap_parts hv hne
    have pa := (ok_parts ha).2.2.2
    have pb := (ok_parts hb).2.2.2
    show plO _ _ _ ((P.length + 1) + 1) = plO _ _ _ ((P.length + 1) + 1)
    rw [plO_put, plO_put, plO_put, plO_put, plO_congr (k := P.length) (l' := P ++ a :: b :: S) (fun i hi => by simp only [List.getD_eq_getElem?_getD]; rw [List.getElem?_append_left hi, List.getElem?_append_left hi])]
    have g1 : (P ++ b :: a :: S).getD P.length default = b := getD_of (by simp)
    have g2 : (P ++ b :: a :: S).getD (P.length + 1) default = a := getD_of (by simp)
    have g3 : (P ++ a :: b :: S).getD P.length default = a := getD_of (by simp)
    have g4 : (P ++ a :: b :: S).getD (P.length + 1) default = b := getD_of (by simp)
    rw [g1, g2, g3, g4]
    cases plO (P ++ a :: b :: S) f0 (fun _ => o) P.length with
    | none => rfl
    | some g =>
      simp only [Option.bind_some]
      exact put_comm (by omega) (by omega) (by omega) g
  | j + 1 => by
    have ih := swap_pl hv hne f0 o j
    show plO _ _ _ ((P.length + (j + 2)) + 1) = plO _ _ _ ((P.length + (j + 2)) + 1)
    rw [plO_put, plO_put, ih]
    congr 2
    simp only [List.getD_eq_getElem?_getD]
    rw [List.getElem?_append_right (by omega), List.getElem?_append_right (by omega)]
    simp
/-- The list with steps i and i + 1 exchanged. -/
def swapL (l : List Bt) (i : Nat) : List Bt := (l.set i (l.getD (i + 1) default)).set (i + 1) (l.getD i default)
theorem swapL_len (l : List Bt) (i : Nat) : (swapL l i).length = l.length := by simp [swapL]
theorem swap_law {n : Int} {l : List Bt} {i : Nat} (hi : i + 1 < l.length) (hv : vld n l = true) (hne : (l.getD (i + 1) default).fr ≠ (l.getD i default).to) (f0 o : Int × Int) :
    vld n (swapL l i) = true ∧ plO (swapL l i) f0 (fun _ => o) l.length = plO l f0 (fun _ => o) l.length := by
  have e0 : l[i]? = some (l[i]'(by omega)) := List.getElem?_eq_getElem _
  have e1 : l[i + 1]? = some (l[i + 1]'hi) := List.getElem?_eq_getElem _
  rw [getD_of e0, getD_of e1] at hne
  have hl : l = l.take i ++ l[i]'(by omega) :: l[i + 1]'hi :: l.drop (i + 2) := by
    conv => lhs; rw [← List.take_append_drop i l]
    rw [List.drop_eq_getElem_cons (by omega), List.drop_eq_getElem_cons hi]
  have hs : swapL l i = l.take i ++ l[i + 1]'hi :: l[i]'(by omega) :: l.drop (i + 2) := by
    unfold swapL
    rw [getD_of e0, getD_of e1]
    refine List.ext_getElem? fun j => ?_
    rw [List.getElem?_set, List.getElem?_set]
    have hlt : (l.take i).length = i := by simp; omega
    by_cases h1 : i + 1 = j
    · subst h1
      rw [List.getElem?_append_right (by omega), hlt]
      simp
      omega
    · by_cases h2 : i = j
      · subst h2
        rw [List.getElem?_append_right (by omega), hlt]
        simp
        omega
      · simp only [h1, h2, if_false]
        rcases Nat.lt_or_ge j i with h | h
        · rw [List.getElem?_append_left (by omega), List.getElem?_take_of_lt h]
        · rw [List.getElem?_append_right (by omega), hlt]
          obtain ⟨m, rfl⟩ : ∃ m, j = i + (m + 2) := ⟨j - i - 2, by omega⟩
          rw [show i + (m + 2) - i = m + 2 by omega]
          simp only [List.getElem?_cons_succ, List.getElem?_drop]
          congr 1
          omega
  generalize l[i]'(by omega) = a at *
  generalize l[i + 1]'hi = b at *
  have hm : ∃ j, l.length = (l.take i).length + (j + 2) := ⟨l.length - i - 2, by simp; omega⟩
  obtain ⟨j, hj⟩ := hm
  rw [hl] at hv
  refine ⟨by rw [hs]; exact swap_vld hv hne, ?_⟩
  rw [hs, hj]
  have := swap_pl hv hne f0 o j
  rw [this, ← hl]
end Go.Proofs.Ytkgklmmkkhbimaa
