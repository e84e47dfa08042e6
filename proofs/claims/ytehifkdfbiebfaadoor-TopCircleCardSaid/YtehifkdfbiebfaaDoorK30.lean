/- Bench: the way of an item: the items and the steps on it, in a valid list. Bench: the iterator of the way of an item. -/
import Derived.Test.YtehifkdfbiebfaaDoorK29
import Derived.Shelf.Abstract
import Derived.Shelf.RegionOpen
import Derived.OwnWalkIn
import Derived.TacticsInMore
import Derived.LoopNIn
import Derived.LoopIn
namespace Go.Proofs.YtehifkdfbiebfaaDoor
open Go.RowKit

/-- What a valid list tells of its step i. -/
theorem vld_at {n : Int} {l : List Bt} (h : vld n l = true) {i : Nat} {b : Bt} (hb : l[i]? = some b) : okB n (l.take i) b = true := by
  have hi : i < l.length := (List.getElem?_eq_some_iff.1 hb).1
  unfold vld at h
  simp only [Bool.and_eq_true] at h
  have := okUp_mono (j := i + 1) (by omega) h.2
  simp only [okUp, Bool.and_eq_true] at this
  have e : l.getD i default = b := by rw [List.getD_eq_getElem?_getD, hb]; rfl
  rw [e] at this
  exact this.2
theorem vld_len {n : Int} {l : List Bt} (h : vld n l = true) : 1 ≤ n ∧ n ≤ 40 ∧ (l.length : Int) = n - 1 := by
  unfold vld at h
  simp only [Bool.and_eq_true, decide_eq_true_eq] at h
  exact h.1
theorem ok_parts {n : Int} {pre : List Bt} {b : Bt} (h : okB n pre b = true) : ptV b.p = true ∧ ptV b.q = true ∧ rtV b.rn b.rd = true ∧ 0 < b.to ∧ b.to < n ∧ stF pre b.to < 0 ∧ (b.fr = 0 ∨ (0 < b.fr ∧ b.fr < n ∧ 0 ≤ stF pre b.fr)) := by
  unfold okB at h
  simp only [Bool.and_eq_true, Bool.not_eq_true', decide_eq_true_eq] at h
  obtain ⟨h1, h2, ⟨h3, h4⟩, h5, h6, h7⟩ := h
  unfold setB at h5 h6
  simp only [Bool.or_eq_true, Bool.and_eq_true, decide_eq_true_eq, Bool.or_eq_false_iff, Bool.and_eq_false_iff, decide_eq_false_iff_not] at h5 h6
  refine ⟨h1, h2, h7, by omega, h4, by omega, ?_⟩
  rcases h6 with h6 | h6
  · exact Or.inl h6
  · exact Or.inr ⟨h6.1.1, h6.1.2, h6.2⟩
theorem stF_take {l : List Bt} {i : Nat} {x : Int} (h : 0 ≤ stF (l.take i) x) : stF l x = stF (l.take i) x ∧ stF (l.take i) x < i := by
  have h1 := stF_lt (l.take i) x
  have h2 : (l.take i).length ≤ i := List.length_take_le _ _
  refine ⟨?_, by omega⟩
  have e : l = l.take i ++ l.drop i := (List.take_append_drop i l).symm
  conv => lhs; rw [e]
  unfold stF at h ⊢
  rw [List.findIdx?_append]
  cases hf : (l.take i).findIdx? (fun b => b.to == x) with
  | none => rw [hf] at h; simp at h
  | some j => simp
theorem stF_at {n : Int} {l : List Bt} (h : vld n l = true) {i : Nat} {b : Bt} (hb : l[i]? = some b) : stF l b.to = i := by
  have hi : i < l.length := (List.getElem?_eq_some_iff.1 hb).1
  have hk := (ok_parts (vld_at h hb)).2.2.2.2.2.1
  have h1 : stF (l.take (i + 1)) b.to = i := by
    rw [take_snoc' hb, stF_snoc, if_neg (by omega), if_pos rfl]
    simp
    omega
  have := (stF_take (l := l) (i := i + 1) (x := b.to) (by omega)).1
  omega
/-- Distinct naturals below m: at most m of them. -/
theorem nodup_len : ∀ (m : Nat) (l : List Nat), l.Nodup → (∀ a ∈ l, a < m) → l.length ≤ m
  | 0, l, _, h => by
    cases l with
    | nil => simp
    | cons a l => exact absurd (h a (by simp)) (by omega)
  | m + 1, l, hn, h => by
    have h1 := nodup_len m (l.erase m) (hn.erase m) (fun a ha => by
      have h2 := h a (List.mem_of_mem_erase ha)
      have h3 : a ≠ m := by
        rintro rfl
        exact (hn.not_mem_erase) ha
      omega)
    by_cases hm : m ∈ l
    · rw [List.length_erase_of_mem hm] at h1
      omega
    · rw [List.erase_of_not_mem hm] at h1
      omega
theorem tos_nodup {n : Int} {l : List Bt} (h : vld n l = true) : (l.map fun b => b.to.toNat).Nodup := by
  refine List.pairwise_iff_getElem.2 ?_
  intro i j hi hj hij
  rw [List.length_map] at hi hj
  have hbi : l[i]? = some (l[i]'hi) := List.getElem?_eq_getElem hi
  have hbj : l[j]? = some (l[j]'hj) := List.getElem?_eq_getElem hj
  rw [List.getElem_map, List.getElem_map]
  intro e
  have p1 := ok_parts (vld_at h hbi)
  have p2 := ok_parts (vld_at h hbj)
  have s1 := stF_at h hbi
  have s2 := stF_at h hbj
  have e2 : (l[i]'hi).to = (l[j]'hj).to := by omega
  rw [e2] at s1
  omega
/-- In a valid list each item but 0 is set. -/
theorem all_set {n : Int} {l : List Bt} (h : vld n l = true) {x : Int} (h0 : 0 < x) (hn : x < n) : 0 ≤ stF l x := by
  rcases Int.lt_or_le (stF l x) 0 with hlt | hge
  · exfalso
    have hno := stF_none.1 hlt
    obtain ⟨n1, n2, n3⟩ := vld_len h
    have key := nodup_len n.toNat (0 :: x.toNat :: l.map fun b => b.to.toNat) (by
      refine List.nodup_cons.2 ⟨?_, List.nodup_cons.2 ⟨?_, tos_nodup h⟩⟩
      · simp only [List.mem_cons, List.mem_map, not_or, not_exists, not_and]
        refine ⟨by omega, fun b hb => ?_⟩
        obtain ⟨i, hi⟩ := List.getElem?_of_mem hb
        have := ok_parts (vld_at h hi)
        omega
      · simp only [List.mem_map, not_exists, not_and]
        intro b hb e
        obtain ⟨i, hi⟩ := List.getElem?_of_mem hb
        have := ok_parts (vld_at h hi)
        exact hno b hb (by omega)) (fun a ha => by
      simp only [List.mem_cons, List.mem_map] at ha
      rcases ha with rfl | rfl | ⟨b, hb, rfl⟩
      · omega
      · omega
      · obtain ⟨i, hi⟩ := List.getElem?_of_mem hb
        have := ok_parts (vld_at h hi)
        omega)
    simp at key
    omega
  · exact hge

/-- From which item the step that sets item x begins. -/
def frF (l : List Bt) (x : Int) : Int := (l.getD (stF l x).toNat default).fr
theorem fr_spec {n : Int} {l : List Bt} (h : vld n l = true) {x : Int} (h0 : 0 < x) (hn : x < n) :
    ∃ b, l[(stF l x).toNat]? = some b ∧ b.to = x ∧ b.fr = frF l x ∧ 0 ≤ frF l x ∧ frF l x < n ∧ (frF l x ≠ 0 → stF l (frF l x) < stF l x) := by
  have hs := all_set h h0 hn
  obtain ⟨b, hb, hto⟩ := stF_get hs
  have e : frF l x = b.fr := by unfold frF; rw [List.getD_eq_getElem?_getD, hb]; rfl
  have hp := (ok_parts (vld_at h hb)).2.2.2.2.2.2
  have hl := vld_len h
  refine ⟨b, hb, hto, e.symm, ?_, ?_, ?_⟩
  · rw [e]; omega
  · rw [e]; omega
  · rw [e]
    intro hne
    rcases hp with hp | ⟨_, _, hp⟩
    · exact absurd hp hne
    · have := stF_take hp
      omega
/-- The items on the way from x back to item 0, and how many there are. -/
def itL (l : List Bt) (x : Int) : Nat → Int
  | 0 => x
  | k + 1 => frF l (itL l x k)
theorem itL_succ (l : List Bt) (x : Int) : ∀ k, itL l x (k + 1) = itL l (frF l x) k
  | 0 => rfl
  | k + 1 => by
    show frF l (itL l x (k + 1)) = _
    rw [itL_succ l x k]
    rfl
def lenW (l : List Bt) (x : Int) : Nat → Nat
  | 0 => 0
  | f + 1 => if x = 0 then 0 else lenW l (frF l x) f + 1
def wayK (l : List Bt) (x : Int) : Nat := lenW l x l.length
theorem lenW_spec {n : Int} {l : List Bt} (h : vld n l = true) : ∀ (f : Nat) (x : Int), 0 ≤ x → x < n → (x = 0 ∨ stF l x < f) → itL l x (lenW l x f) = 0 ∧ ∀ k, k < lenW l x f → 0 < itL l x k ∧ itL l x k < n
  | 0, x, h0, hn, hf => by
    have hx : x = 0 := by
      rcases hf with hf | hf
      · exact hf
      · rcases Int.lt_or_le 0 x with h1 | h1
        · have := all_set h h1 hn
          omega
        · omega
    exact ⟨hx, fun k hk => absurd hk (by simp [lenW])⟩
  | f + 1, x, h0, hn, hf => by
    by_cases hx : x = 0
    · simp only [lenW, hx, if_true]
      exact ⟨rfl, fun k hk => absurd hk (by omega)⟩
    · simp only [lenW, hx, if_false]
      obtain ⟨b, _, _, _, y0, yn, yd⟩ := fr_spec h (x := x) (by omega) hn
      have hfs : stF l x < f + 1 := by omega
      obtain ⟨i1, i2⟩ := lenW_spec h f (frF l x) y0 yn (by
        by_cases hy : frF l x = 0
        · exact Or.inl hy
        · right
          have := yd hy
          omega)
      refine ⟨by rw [itL_succ]; exact i1, fun k hk => ?_⟩
      cases k with
      | zero => exact ⟨by show 0 < x; omega, hn⟩
      | succ k =>
        rw [itL_succ]
        exact i2 k (by omega)
theorem way_spec {n : Int} {l : List Bt} (h : vld n l = true) {x : Int} (h0 : 0 ≤ x) (hn : x < n) : itL l x (wayK l x) = 0 ∧ ∀ k, k < wayK l x → 0 < itL l x k ∧ itL l x k < n := by
  refine lenW_spec h l.length x h0 hn ?_
  have := stF_lt l x
  omega
/-- Does item x rest on step i? -/
def onW (l : List Bt) (x : Int) (i : Nat) : Bool := (List.range (wayK l x)).any fun k => stF l (itL l x k) == (i : Int)
end Go.Proofs.YtehifkdfbiebfaaDoor
namespace Go.Proofs.YtehifkdfbiebfaaDoor
open Go Go.RowKit Go.Shelf
attribute [local go_sem] Oper.semAt_some

/-- The measure of the iterator's loop, read off its own cell. -/
def wayM (l : List Bt) (Bi : Nat) (w : World) : Nat := match w.cell? ⟨Bi, 0, none⟩ with
  | some (.int _ x) => if x = 0 then 0 else (stF l x + 1).toNat
  | _ => 0



end Go.Proofs.YtehifkdfbiebfaaDoor
