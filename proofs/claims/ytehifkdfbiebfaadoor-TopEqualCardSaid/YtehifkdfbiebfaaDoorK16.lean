/- Products of lists of powers: plain laws. Powers of the primes: bounds. -/
import Derived.Test.YtehifkdfbiebfaaDoorK15
import Derived.Deep.AppendLies
namespace Go.Proofs.YtehifkdfbiebfaaDoor
open Go Go.RowKit

def prodL (l : List Nat) : Nat := l.foldl (· * ·) 1
theorem prodL_nil : prodL [] = 1 := rfl
theorem prodL_snoc (l : List Nat) (x : Nat) : prodL (l ++ [x]) = prodL l * x := by simp [prodL, List.foldl_append]
theorem foldl_acc : ∀ (l : List Nat) (a : Nat), l.foldl (· * ·) a = a * prodL l
  | [], a => by simp [prodL]
  | x :: l, a => by
    show l.foldl (· * ·) (a * x) = a * l.foldl (· * ·) (1 * x)
    rw [foldl_acc l (a * x), foldl_acc l (1 * x), Nat.one_mul, Nat.mul_assoc]
theorem prodL_cons (x : Nat) (l : List Nat) : prodL (x :: l) = x * prodL l := by
  show l.foldl (· * ·) (1 * x) = _
  rw [foldl_acc, Nat.one_mul]
theorem prodL_pos : ∀ (l : List Nat), (∀ x ∈ l, 1 ≤ x) → 1 ≤ prodL l
  | [], _ => Nat.le_refl _
  | x :: l, h => by
    rw [prodL_cons]
    exact Nat.mul_le_mul (h x (by simp)) (prodL_pos l (fun y hy => h y (by simp [hy])))
theorem prodL_take_succ (l : List Nat) (k : Nat) (x : Nat) (h : l[k]? = some x) : prodL (l.take (k + 1)) = prodL (l.take k) * x := by
  rw [List.take_add_one, h]
  exact prodL_snoc _ _
theorem prodL_take_le : ∀ (l : List Nat), (∀ x ∈ l, 1 ≤ x) → ∀ k, prodL (l.take k) ≤ prodL l
  | [], _, k => by simp
  | x :: l, h, 0 => prodL_pos _ h
  | x :: l, h, k + 1 => by
    rw [List.take_succ_cons, prodL_cons, prodL_cons]
    exact Nat.mul_le_mul_left _ (prodL_take_le l (fun y hy => h y (by simp [hy])) k)
/-- The powers with an exponent above 0, of the first k. -/
def posL (P : Nat → Nat) (e : Nat → Int) : Nat → List Nat
  | 0 => []
  | k + 1 => if 0 < e k then posL P e k ++ [P k ^ (e k).toNat] else posL P e k
theorem posL_yes {P : Nat → Nat} {e : Nat → Int} {k : Nat} (h : 0 < e k) : posL P e (k + 1) = posL P e k ++ [P k ^ (e k).toNat] := by rw [posL, if_pos h]
theorem posL_no {P : Nat → Nat} {e : Nat → Int} {k : Nat} (h : ¬ 0 < e k) : posL P e (k + 1) = posL P e k := by rw [posL, if_neg h]
theorem posL_len (P : Nat → Nat) (e : Nat → Int) : ∀ k, (posL P e k).length ≤ k
  | 0 => by simp [posL]
  | k + 1 => by
    have := posL_len P e k
    unfold posL
    split
    · simp; omega
    · omega
theorem posL_prod (P : Nat → Nat) (e : Nat → Int) : ∀ k, prodL (posL P e k) = prodF P e k
  | 0 => rfl
  | k + 1 => by
    show _ = prodF P e k * pwF (P k) (e k)
    unfold posL pwF
    split
    · rw [prodL_snoc, posL_prod P e k]
    · rw [posL_prod P e k, Nat.mul_one]
theorem posL_pos {P : Nat → Nat} {e : Nat → Int} : ∀ k, (∀ i, i < k → 0 < P i) → ∀ x ∈ posL P e k, 1 ≤ x
  | 0, _, x, hx => by simp [posL] at hx
  | k + 1, h, x, hx => by
    unfold posL at hx
    split at hx
    · rcases List.mem_append.1 hx with g | g
      · exact posL_pos k (fun i hi => h i (by omega)) x g
      · simp at g
        subst g
        exact Nat.pow_pos (h k (by omega))
    · exact posL_pos k (fun i hi => h i (by omega)) x hx
/-- The numbers vals lie behind the slices Xs. -/
def Els (W : World) (Xs : List Value) (vals : List Nat) : Prop := Xs.length = vals.length ∧ ∀ (j x : Nat), vals[j]? = some x → 1 ≤ x ∧ ∃ q m : Nat, Xs[j]? = some (Value.slice (some ⟨q, 0, none⟩) m m) ∧ Num W W.heap.size q m x ∧ m ≤ 640
theorem Els.nil (W : World) : Els W [] [] := ⟨rfl, fun j x h => by simp at h⟩
theorem Els.up {W W' : World} {Xs : List Value} {vals : List Nat} (h : Els W Xs vals) (hb : Below W.heap.size W W') : Els W' Xs vals :=
  ⟨h.1, fun j x hx => by
    obtain ⟨h1, q, m, h2, h3, h4⟩ := h.2 j x hx
    exact ⟨h1, q, m, h2, h3.up hb, h4⟩⟩
theorem Els.snoc {W : World} {Xs : List Value} {vals : List Nat} {q m x : Nat} (h : Els W Xs vals) (hx : 1 ≤ x) (hN : Num W W.heap.size q m x) (hm : m ≤ 640) : Els W (Xs ++ [Value.slice (some ⟨q, 0, none⟩) m m]) (vals ++ [x]) := by
  refine ⟨by simp [h.1], fun j y hy => ?_⟩
  by_cases e : j < vals.length
  · rw [List.getElem?_append_left e] at hy
    obtain ⟨h1, q', m', h2, h3⟩ := h.2 j y hy
    exact ⟨h1, q', m', by rw [List.getElem?_append_left (by rw [h.1]; exact e)]; exact h2, h3⟩
  · rw [List.getElem?_append_right (by omega)] at hy
    obtain ⟨k, hk⟩ : ∃ k, k = j - vals.length := ⟨_, rfl⟩
    rw [← hk] at hy
    cases k with
    | zero =>
      simp at hy
      subst hy
      refine ⟨hx, q, m, ?_, hN, hm⟩
      rw [List.getElem?_append_right (by rw [h.1]; omega), h.1, ← hk]
      rfl
    | succ k => simp at hy
/-- A number that is not 0 has a first limb. -/
theorem Num.len_pos {W : World} {B b n x : Nat} (h : Num W B b n x) (hx : 1 ≤ x) : 0 < n := by
  obtain ⟨f, _, hI⟩ := h
  rcases Nat.eq_zero_or_pos n with e | e
  · subst e
    have h1 : nvF f 0 = x := hI.val
    have h2 : nvF f 0 = 0 := rfl
    omega
  · exact e
end Go.Proofs.YtehifkdfbiebfaaDoor
namespace Go.Proofs.YtehifkdfbiebfaaDoor
open Go Go.RowKit

theorem pw_cap {a b c d e f : Int} (hp : pV a b c d e f 1152 = true) {k : Nat} (hk : k < 6) : prm k ^ (pex a b c d e f k).toNat < Cap ∧ prm k ^ (-pex a b c d e f k).toNat < Cap := by
  have key : ∀ s : Int, s = 1 ∨ s = -1 → prm k ^ (sgE s a b c d e f k).toNat < Cap := fun s hs => by
    rw [← pwF_toNat]
    exact Nat.lt_of_le_of_lt (sg_le3 hs hp k hk) (lt_big (k := prH k) (Nat.le_refl _) (by rcases lt6 hk with rfl | rfl | rfl | rfl | rfl | rfl <;> decide))
  have h1 := key 1 (Or.inl rfl)
  have h2 := key (-1) (Or.inr rfl)
  rw [sgE_one] at h1
  rw [sgE_neg] at h2
  exact ⟨h1, h2⟩
end Go.Proofs.YtehifkdfbiebfaaDoor
