/- Pitch: Parse of a Text is the pitch (plain). -/
import Derived.Test.YtgbiiaaeabflnaaDoorParB
namespace Go.Proofs.YtgbiiaaeabflnaaDoor
open Go Go.RowKit

/-- What stands behind a term. -/
def tlS (t : List UInt8) : Prop := t = [] ∨ ∃ m, t = 42 :: m
section
variable {t : List UInt8} (ht : tlS t)
include ht
theorem numN_app : ∀ (f n : Nat) (x : List UInt8), numN f n (x ++ t) = numN f n x
  | 0, _, _ => rfl
  | f + 1, n, [] => by rcases ht with rfl | ⟨m, rfl⟩ <;> rfl
  | f + 1, n, y :: r => by
    show (if isDig y then numN f (10 * n + (y.toNat - 48)) (r ++ t) else n) = (if isDig y then numN f (10 * n + (y.toNat - 48)) r else n)
    rw [numN_app f _ r]
theorem numR_app : ∀ (f : Nat) (x : List UInt8), numR f (x ++ t) = numR f x ++ t
  | 0, _ => rfl
  | f + 1, [] => by rcases ht with rfl | ⟨m, rfl⟩ <;> rfl
  | f + 1, y :: r => by
    show (if isDig y then numR f (r ++ t) else y :: (r ++ t)) = (if isDig y then numR f r else y :: r) ++ t
    rw [numR_app f r]
    split <;> rfl
theorem cutB_app {m : UInt8} (hm : ((42 : UInt8) == m) = false) : ∀ x : List UInt8, cutB m (x ++ t) = cutB m x
  | [] => by
    rcases ht with rfl | ⟨r, rfl⟩
    · rfl
    · exact hm
  | y :: r => rfl
theorem cutR_app {m : UInt8} (hm : ((42 : UInt8) == m) = false) : ∀ x : List UInt8, cutR m (x ++ t) = cutR m x ++ t
  | [] => by
    rcases ht with rfl | ⟨r, rfl⟩
    · rfl
    · show (if ((42 : UInt8) == m) = true then r else 42 :: r) = _
      rw [hm]; rfl
  | y :: r => by
    show (if (y == m) = true then r ++ t else y :: (r ++ t)) = (if (y == m) = true then r else y :: r) ++ t
    split <;> rfl
theorem stQ_app (x : List UInt8) : stQ (x ++ t) = stQ x := numN_app ht _ _ _
theorem stX_app (x : List UInt8) : stX (x ++ t) = stX x := by unfold stX; rw [numR_app ht, cutB_app ht (by decide)]
theorem stL_app (x : List UInt8) : stL (x ++ t) = stL x ++ t := by unfold stL; rw [numR_app ht, cutR_app ht (by decide)]
theorem stM_app (x : List UInt8) : stM (x ++ t) = stM x := by unfold stM; rw [stL_app ht, cutB_app ht (by decide)]
theorem stL3_app (x : List UInt8) : stL3 (x ++ t) = stL3 x ++ t := by unfold stL3; rw [stL_app ht, cutR_app ht (by decide)]
theorem stL4_app (x : List UInt8) : stL4 (x ++ t) = stL4 x ++ t := by unfold stL4; rw [stL3_app ht, numR_app ht]
theorem stE_app (x : List UInt8) : stE (x ++ t) = stE x := by unfold stE; rw [stX_app ht, stM_app ht, stL3_app ht, numN_app ht]
theorem stD_app (x : List UInt8) : stD (x ++ t) = stD x := by unfold stD; rw [stX_app ht, stL4_app ht, cutB_app ht (by decide), cutR_app ht (by decide), numN_app ht]
theorem stR_app (x : List UInt8) : stR (x ++ t) = stR x ++ t := by
  unfold stR
  rw [stX_app ht, stL4_app ht, cutB_app ht (by decide), cutR_app ht (by decide), numR_app ht, stL_app ht]
  split
  · split <;> rfl
  · rfl
theorem stOK_app (x : List UInt8) : stOK (x ++ t) = stOK x := by unfold stOK; rw [stE_app ht, stD_app ht]
theorem stV_app (x : List UInt8) : stV (x ++ t) = stV x := by unfold stV; rw [stE_app ht, stD_app ht]
end
def tmOK (x : List UInt8) (q : Nat) (e : Int) : Bool := decide (stQ x = q) && (stOK x && (decide (stV x = e) && (stR x).isEmpty))
theorem tm_all : ((List.range 6).all fun k => (List.range 1153).all fun n => n == 576 || tmOK (termB (prm k) ((n : Int) - 576)) (prm k) ((n : Int) - 576)) = true := by decide +kernel
theorem tm_ok {k : Nat} {e : Int} (hk : k < 6) (h0 : -576 ≤ e) (h1 : e ≤ 576) (he : e ≠ 0) : stQ (termB (prm k) e) = prm k ∧ stOK (termB (prm k) e) = true ∧ stV (termB (prm k) e) = e ∧ stR (termB (prm k) e) = [] := by
  obtain ⟨n, hn⟩ : ∃ n : Nat, n = (e + 576).toNat := ⟨_, rfl⟩
  have h := List.all_eq_true.1 (List.all_eq_true.1 tm_all k (List.mem_range.2 hk)) n (List.mem_range.2 (by omega))
  have e1 : ((n : Int) - 576) = e := by omega
  rw [e1] at h
  have : (n == 576) = false := by simp; omega
  rw [this, Bool.false_or] at h
  unfold tmOK at h
  simp at h
  exact ⟨h.1, h.2.1, h.2.2.1, h.2.2.2⟩
/-- One term's exponent set. -/
def upK (E : Nat → Int) (E' : Nat → Int) (k : Nat) : Nat → Int := fun i => if i < 6 ∧ prm i = prm k then E k else E' i
theorem stU_term {E : Nat → Int} (hE : ∀ k, k < 6 → -576 ≤ E k ∧ E k ≤ 576) {k : Nat} (hk : k < 6) (h0 : E k ≠ 0) {t : List UInt8} (ht : tlS t) (E' : Nat → Int) : stU (termB (prm k) (E k) ++ t) E' 6 = upK E E' k := by
  obtain ⟨h1, h2, h3, h4⟩ := tm_ok hk (hE k hk).1 (hE k hk).2 h0
  unfold stU upK
  rw [stQ_app ht, stV_app ht, h1, h3]
theorem parF_ks {E : Nat → Int} (hE : ∀ k, k < 6 → -576 ≤ E k ∧ E k ≤ 576) : ∀ (r : List Nat) (k : Nat), (∀ x ∈ k :: r, x < 6 ∧ E x ≠ 0) → ∀ (f : Nat) (E' : Nat → Int), r.length + 1 ≤ f → parF f (Lib.join ((k :: r).map (fun k => termB (prm k) (E k))) [42]) E' = some ((k :: r).foldl (upK E) E')
  | [], k, h, f, E', hf => by
    obtain ⟨hk, h0⟩ := h k (by simp)
    obtain ⟨h1, h2, h3, h4⟩ := tm_ok hk (hE k hk).1 (hE k hk).2 h0
    obtain ⟨g, rfl⟩ : ∃ g, f = g + 1 := ⟨f - 1, by simp at hf; omega⟩
    have hs := stU_term hE hk h0 (t := []) (Or.inl rfl) E'
    rw [List.append_nil] at hs
    rw [List.map_cons, List.map_nil, Lib.join_one]
    unfold parF
    rw [h2, h4, hs]
    rfl
  | k2 :: r, k, h, f, E', hf => by
    obtain ⟨hk, h0⟩ := h k (by simp)
    obtain ⟨h1, h2, h3, h4⟩ := tm_ok hk (hE k hk).1 (hE k hk).2 h0
    obtain ⟨g, rfl⟩ : ∃ g, f = g + 1 := ⟨f - 1, by simp at hf; omega⟩
    have ih := parF_ks hE r k2 (fun x hx => h x (by simp at hx ⊢; right; exact hx)) g (upK E E' k) (by simp at hf; omega)
    have ht : tlS (42 :: Lib.join ((k2 :: r).map (fun k => termB (prm k) (E k))) [42]) := Or.inr ⟨_, rfl⟩
    have hs := stU_term hE hk h0 ht E'
    have hj : Lib.join ((k :: k2 :: r).map (fun k => termB (prm k) (E k))) [42] = termB (prm k) (E k) ++ 42 :: Lib.join ((k2 :: r).map (fun k => termB (prm k) (E k))) [42] := by
      rw [List.map_cons, Lib.join_cons, List.map_cons, Lib.join_cons]
      simp [Lib.joinTail]
    rw [hj]
    unfold parF
    rw [stOK_app ht, stR_app ht, h2, h4, hs]
    exact ih
/-- The indexes of the exponents that are not 0. -/
def ixs (E : Nat → Int) : Nat → List Nat
  | 0 => []
  | k + 1 => if E k = 0 then ixs E k else ixs E k ++ [k]
theorem ixs_map (E : Nat → Int) : ∀ n, (txtL E n).map (·.data.toList) = (ixs E n).map (fun k => termB (prm k) (E k))
  | 0 => rfl
  | n + 1 => by
    have ih := ixs_map E n
    unfold txtL ixs
    split
    · exact ih
    · rw [List.map_append, List.map_append, ih]
      rfl
theorem ixs_mem (E : Nat → Int) (i : Nat) : ∀ n, i ∈ ixs E n ↔ i < n ∧ E i ≠ 0
  | 0 => by simp [ixs]
  | n + 1 => by
    have ih := ixs_mem E i n
    unfold ixs
    split
    · rw [ih]
      constructor
      · rintro ⟨h1, h2⟩; exact ⟨by omega, h2⟩
      · rintro ⟨h1, h2⟩
        rcases Nat.lt_or_ge i n with h3 | h3
        · exact ⟨h3, h2⟩
        · have : i = n := by omega
          subst this
          contradiction
    · rw [List.mem_append, ih]
      constructor
      · rintro (⟨h1, h2⟩ | h)
        · exact ⟨by omega, h2⟩
        · simp at h; subst h; exact ⟨by omega, by assumption⟩
      · rintro ⟨h1, h2⟩
        rcases Nat.lt_or_ge i n with h3 | h3
        · exact Or.inl ⟨h3, h2⟩
        · right; simp; omega
theorem prm_inj {i k : Nat} (hi : i < 6) (hk : k < 6) (h : prm i = prm k) : i = k := by
  have : ((List.range 6).all fun i => (List.range 6).all fun k => decide (prm i ≠ prm k) || decide (i = k)) = true := by decide
  have h1 := List.all_eq_true.1 (List.all_eq_true.1 this i (List.mem_range.2 hi)) k (List.mem_range.2 hk)
  simp at h1
  rcases h1 with h1 | h1
  · exact absurd h h1
  · exact h1
theorem fold_at (E : Nat → Int) {i : Nat} (hi : i < 6) : ∀ (ks : List Nat) (E' : Nat → Int), (∀ x ∈ ks, x < 6) → ks.foldl (upK E) E' i = if i ∈ ks then E i else E' i
  | [], E', _ => by simp
  | k :: r, E', h => by
    have hk := h k (by simp)
    rw [List.foldl_cons, fold_at E hi r _ (fun x hx => h x (by simp [hx]))]
    by_cases h1 : i ∈ r
    · rw [if_pos h1, if_pos (by simp [h1])]
    · rw [if_neg h1]
      by_cases h2 : i = k
      · subst h2
        rw [if_pos (by simp)]
        unfold upK
        rw [if_pos ⟨hi, rfl⟩]
      · rw [if_neg (by simp [h1, h2])]
        unfold upK
        rw [if_neg (fun hh => h2 (prm_inj hi hk hh.2))]
/-- Parse of a text gives the exponents back. -/
theorem par_text {E : Nat → Int} (hE : ∀ k, k < 6 → -576 ≤ E k ∧ E k ≤ 576) : ∃ E', par (textB E) = some E' ∧ ∀ i, i < 6 → E' i = E i := by
  unfold par textB
  by_cases h : txtL E 6 = []
  · rw [if_pos h]
    refine ⟨_, rfl, fun i hi => ?_⟩
    have hz : E i = 0 := by
      have hm := ixs_map E 6
      rw [h] at hm
      have hn : ixs E 6 = [] := by simpa using hm.symm
      by_cases hz : E i = 0
      · exact hz
      · have := (ixs_mem E i 6).2 ⟨hi, hz⟩
        rw [hn] at this
        simp at this
    rw [hz]
    have : ((List.range 6).all fun i => decide (stU [49] (fun _ => 0) 6 i = 0)) = true := by decide
    have := List.all_eq_true.1 this i (List.mem_range.2 hi)
    simpa using this
  · rw [if_neg h, ixs_map]
    obtain ⟨k, r, hkr⟩ : ∃ k r, ixs E 6 = k :: r := by
      cases hc : ixs E 6 with
      | nil =>
        have hm := ixs_map E 6
        rw [hc] at hm
        exact absurd (by simpa using hm) h
      | cons k r => exact ⟨k, r, rfl⟩
    have hall : ∀ x ∈ k :: r, x < 6 ∧ E x ≠ 0 := fun x hx => (ixs_mem E x 6).1 (by rw [hkr]; exact hx)
    rw [hkr]
    have hlen : r.length + 1 ≤ (Lib.join ((k :: r).map (fun k => termB (prm k) (E k))) [42]).length + 1 := by
      rw [List.map_cons, Lib.join_length]
      have : ([42] : List UInt8).length = 1 := rfl
      rw [this, List.length_map]
      omega
    refine ⟨_, parF_ks hE r k hall _ _ hlen, fun i hi => ?_⟩
    rw [fold_at E hi _ _ (fun x hx => (hall x hx).1)]
    by_cases hz : E i = 0
    · rw [if_neg (by rw [← hkr]; intro hm; exact ((ixs_mem E i 6).1 hm).2 hz), hz]
    · rw [if_pos (by rw [← hkr]; exact (ixs_mem E i 6).2 ⟨hi, hz⟩)]
theorem parV_text {a b c d e f : Int} (hp : pV a b c d e f 576 = true) : parV (textB (pex a b c d e f)) = .tuple #[.agg #[.int .i64 a, .int .i64 b, .int .i64 c, .int .i64 d, .int .i64 e, .int .i64 f], .int .i64 0] := by
  have hE : ∀ k, k < 6 → -576 ≤ pex a b c d e f k ∧ pex a b c d e f k ≤ 576 := fun k hk => by
    obtain ⟨h1, h2, h3, h4, h5, h6⟩ := pV_of hp
    rcases lt6 hk with rfl | rfl | rfl | rfl | rfl | rfl
    · exact wi_of h1
    · exact wi_of h2
    · exact wi_of h3
    · exact wi_of h4
    · exact wi_of h5
    · exact wi_of h6
  obtain ⟨E', h1, h2⟩ := par_text hE
  have e0 : E' 0 = a := h2 0 (by omega)
  have e1 : E' 1 = b := h2 1 (by omega)
  have e2 : E' 2 = c := h2 2 (by omega)
  have e3 : E' 3 = d := h2 3 (by omega)
  have e4 : E' 4 = e := h2 4 (by omega)
  have e5 : E' 5 = f := h2 5 (by omega)
  unfold parV
  rw [h1]
  show (if parOK (textB (pex a b c d e f)) E' = true then Value.tuple #[.agg (cell6 E'), .int .i64 0] else zP) = _
  have hok : parOK (textB (pex a b c d e f)) E' = true := by
    unfold parOK
    rw [e0, e1, e2, e3, e4, e5, hp]
    simp
  rw [if_pos hok]
  unfold cell6
  rw [e0, e1, e2, e3, e4, e5]
/-- What Parse takes has this string as its Text. -/
theorem parV_ways (l : List UInt8) : (∃ a b c d e f : Int, pV a b c d e f 576 = true ∧ textB (pex a b c d e f) = l ∧ parV l = .tuple #[.agg #[.int .i64 a, .int .i64 b, .int .i64 c, .int .i64 d, .int .i64 e, .int .i64 f], .int .i64 0]) ∨ parV l = zP := by
  unfold parV
  cases h : par l with
  | none => exact Or.inr rfl
  | some E =>
    show _ ∨ (if parOK l E = true then Value.tuple #[.agg (cell6 E), .int .i64 0] else zP) = zP
    by_cases ho : parOK l E = true
    · left
      have hh := ho
      unfold parOK at hh
      rw [Bool.and_eq_true] at hh
      refine ⟨E 0, E 1, E 2, E 3, E 4, E 5, hh.1, by simpa using hh.2, ?_⟩
      show (if parOK l E = true then Value.tuple #[.agg (cell6 E), .int .i64 0] else zP) = _
      rw [if_pos ho]
      rfl
    · exact Or.inr (if_neg ho)
end Go.Proofs.YtgbiiaaeabflnaaDoor
