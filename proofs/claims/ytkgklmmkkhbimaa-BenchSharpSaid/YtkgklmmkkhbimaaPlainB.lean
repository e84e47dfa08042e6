/- The steps on which an item rests: they rise, and each begins where the one before leads. -/
import Derived.Test.YtkgklmmkkhbimaaRefA
namespace Go.Proofs.Ytkgklmmkkhbimaa
open Go.RowKit

theorem asc_eq : ∀ (a b : List Int), a.Pairwise (· < ·) → b.Pairwise (· < ·) → (∀ x, x ∈ a ↔ x ∈ b) → a = b
  | [], [], _, _, _ => rfl
  | [], y :: b, _, _, h => by have := (h y).2 (by simp); simp at this
  | x :: a, [], _, _, h => by have := (h x).1 (by simp); simp at this
  | x :: a, y :: b, h1, h2, h => by
    rw [List.pairwise_cons] at h1 h2
    have e : x = y := by
      have m1 := (h x).1 (by simp)
      have m2 := (h y).2 (by simp)
      rw [List.mem_cons] at m1 m2
      rcases m1 with m1 | m1
      · exact m1
      · rcases m2 with m2 | m2
        · exact m2.symm
        · have := h1.1 y m2
          have := h2.1 x m1
          omega
    subst e
    rw [asc_eq a b h1.2 h2.2 fun z => by
      constructor
      · intro hz
        have m := (h z).1 (by simp [hz])
        rw [List.mem_cons] at m
        rcases m with m | m
        · have := h1.1 z hz; omega
        · exact m
      · intro hz
        have m := (h z).2 (by simp [hz])
        rw [List.mem_cons] at m
        rcases m with m | m
        · have := h2.1 z hz; omega
        · exact m]
theorem sel_asc (is : Nat → Bool) (L : Nat) : (selF is L).Pairwise (· < ·) := by
  unfold selF
  rw [List.pairwise_map]
  refine List.Pairwise.imp ?_ (List.Pairwise.filter is List.pairwise_lt_range)
  intro a b h
  omega
theorem sel_mem (is : Nat → Bool) (L : Nat) (x : Int) : x ∈ selF is L ↔ ∃ i : Nat, i < L ∧ is i = true ∧ x = i := by
  unfold selF
  simp only [List.mem_map, List.mem_filter, List.mem_range]
  constructor
  · rintro ⟨i, ⟨h1, h2⟩, rfl⟩; exact ⟨i, h1, h2, rfl⟩
  · rintro ⟨i, h1, h2, rfl⟩; exact ⟨i, ⟨h1, h2⟩, rfl⟩
/-- Each step of the way is earlier than the one by which it was found. -/
theorem way_down {n : Int} {l : List Bt} (hv : vld n l = true) {x : Int} (h0 : 0 ≤ x) (hn : x < n) : ∀ {k j : Nat}, j < k → k < wayK l x → stF l (itL l x k) < stF l (itL l x j)
  | 0, _, hj, _ => absurd hj (by omega)
  | k + 1, j, hj, hk => by
    obtain ⟨_, hw⟩ := way_spec hv h0 hn
    have p1 := hw k (by omega)
    have p2 := hw (k + 1) hk
    obtain ⟨b, _, _, _, _, _, y⟩ := fr_spec hv p1.1 p1.2
    have e : itL l x (k + 1) = frF l (itL l x k) := rfl
    rw [e] at p2 ⊢
    have h1 := y (by omega)
    by_cases hjk : j = k
    · rw [hjk]; exact h1
    · have := way_down hv h0 hn (k := k) (j := j) (by omega) (by omega)
      omega
theorem sel_way {n : Int} {l : List Bt} (hv : vld n l = true) {x : Int} (h0 : 0 ≤ x) (hn : x < n) : selF (onW l x) l.length = (List.range (wayK l x)).map fun j => stF l (itL l x (wayK l x - 1 - j)) := by
  obtain ⟨_, hw⟩ := way_spec hv h0 hn
  refine asc_eq _ _ (sel_asc _ _) ?_ ?_
  · rw [List.pairwise_map]
    refine List.Pairwise.imp_of_mem ?_ List.pairwise_lt_range
    intro a b ha hb h
    rw [List.mem_range] at ha hb
    exact way_down hv h0 hn (by omega) (by omega)
  · intro z
    rw [sel_mem]
    simp only [List.mem_map, List.mem_range]
    constructor
    · rintro ⟨i, hi, hon, rfl⟩
      unfold onW at hon
      rw [List.any_eq_true] at hon
      obtain ⟨k, hk, he⟩ := hon
      rw [List.mem_range] at hk
      refine ⟨wayK l x - 1 - k, by omega, ?_⟩
      rw [show wayK l x - 1 - (wayK l x - 1 - k) = k by omega]
      simpa using he
    · rintro ⟨j, hj, rfl⟩
      have p := hw (wayK l x - 1 - j) (by omega)
      have hs := all_set hv p.1 p.2
      have hlt := stF_lt l (itL l x (wayK l x - 1 - j))
      refine ⟨(stF l (itL l x (wayK l x - 1 - j))).toNat, by omega, ?_, by omega⟩
      unfold onW
      rw [List.any_eq_true]
      refine ⟨wayK l x - 1 - j, by simp; omega, ?_⟩
      simp
      omega
/-- The items between the steps, from item 0 on. -/
def atF (l : List Bt) (x : Int) (j : Nat) : Int := itL l x (wayK l x - j)
theorem rests_law {n : Int} {l : List Bt} (hv : vld n l = true) {x : Int} (h0 : 0 ≤ x) (hn : x < n) : atF l x 0 = 0 ∧ atF l x (selF (onW l x) l.length).length = x ∧
    ∀ j i, (selF (onW l x) l.length)[j]? = some i → 0 ≤ i ∧ (∃ b, l[i.toNat]? = some b ∧ b.fr = atF l x j ∧ b.to = atF l x (j + 1)) := by
  obtain ⟨hz, hw⟩ := way_spec hv h0 hn
  rw [sel_way hv h0 hn]
  refine ⟨hz, ?_, fun j i hi => ?_⟩
  · unfold atF
    simp
    rfl
  · have hj : j < wayK l x := by
      have := (List.getElem?_eq_some_iff.1 hi).1
      simpa using this
    rw [List.getElem?_map, List.getElem?_range hj] at hi
    simp only [Option.map_some, Option.some.injEq] at hi
    have p := hw (wayK l x - 1 - j) (by omega)
    obtain ⟨b, hb, ht, hf, _⟩ := fr_spec hv p.1 p.2
    have hs := all_set hv p.1 p.2
    rw [hi] at hb hs
    refine ⟨hs, b, hb, ?_, ?_⟩
    · rw [hf]
      show itL l x (wayK l x - 1 - j + 1) = itL l x (wayK l x - j)
      rw [show wayK l x - 1 - j + 1 = wayK l x - j by omega]
    · rw [ht]
      show _ = itL l x (wayK l x - (j + 1))
      rw [show wayK l x - 1 - j = wayK l x - (j + 1) by omega]
/-- The step before the j-th one, or -1. -/
def befF (xs : List Int) : Nat → Int
  | 0 => -1
  | j + 1 => xs.getD j 0
theorem bef_lt {xs : List Int} (h : xs.Pairwise (· < ·)) (h0 : ∀ x ∈ xs, 0 ≤ x) {j : Nat} {i : Int} (hi : xs[j]? = some i) : befF xs j < i := by
  cases j with
  | zero =>
    have := h0 i (List.mem_of_getElem? hi)
    show -1 < i
    omega
  | succ j =>
    have hlt := (List.getElem?_eq_some_iff.1 hi).1
    have e := (List.getElem?_eq_some_iff.1 hi).2
    show xs.getD j 0 < i
    have : xs.getD j 0 = xs[j] := by simp [List.getD, List.getElem?_eq_getElem (show j < xs.length by omega)]
    have hh := List.pairwise_iff_getElem.1 h j (j + 1) (by omega) hlt (by omega)
    rw [this]
    omega
end Go.Proofs.Ytkgklmmkkhbimaa
