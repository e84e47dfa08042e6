/- Bench: tuner's lists as data: the steps, the step that sets an item, validity; the closure set of newPlan. -/
import Derived.Test.YtkgklmmkkhbimaaBenchB
import Derived.Test.YtkgklmmkkhbimaaRange
namespace Go.Proofs.Ytkgklmmkkhbimaa
open Go.RowKit

/-- A step: from which item, to which, the partials, the rate, above or below. -/
structure Bt where
  fr : Int
  to : Int
  p : Int
  q : Int
  rn : Int
  rd : Int
  ab : Bool
  deriving Inhabited
def Bt.val (b : Bt) : Value := .agg #[.int .i64 b.fr, .int .i64 b.to, .int .i64 b.p, .int .i64 b.q, .int .i64 b.rn, .int .i64 b.rd, .bool b.ab]
/-- The seven cells of step i lie from 'off + i * 7' on. -/
def BtAt (w : World) (b o : Nat) (x : Bt) : Prop :=
  w.cell? ⟨b, o, none⟩ = some (.int .i64 x.fr) ∧ w.cell? ⟨b, o + 1, none⟩ = some (.int .i64 x.to) ∧ w.cell? ⟨b, o + 2, none⟩ = some (.int .i64 x.p) ∧ w.cell? ⟨b, o + 3, none⟩ = some (.int .i64 x.q) ∧
  w.cell? ⟨b, o + 4, none⟩ = some (.int .i64 x.rn) ∧ w.cell? ⟨b, o + 5, none⟩ = some (.int .i64 x.rd) ∧ w.cell? ⟨b, o + 6, none⟩ = some (.bool x.ab)
/-- The slice 'A' of the steps l, which lie below block B. -/
def Lst (w : World) (B : Nat) (A : Option Addr) (l : List Bt) : Prop :=
  0 < l.length → ∃ b off, A = some ⟨b, off, none⟩ ∧ b < B ∧ ∀ i x, l[i]? = some x → BtAt w b (off + i * 7) x
theorem BtAt.same {w w' : World} {b o : Nat} {x : Bt} (h : BtAt w b o x) (hs : ∀ i, w'.cell? ⟨b, i, none⟩ = w.cell? ⟨b, i, none⟩) : BtAt w' b o x := by
  obtain ⟨h0, h1, h2, h3, h4, h5, h6⟩ := h
  exact ⟨(hs _).trans h0, (hs _).trans h1, (hs _).trans h2, (hs _).trans h3, (hs _).trans h4, (hs _).trans h5, (hs _).trans h6⟩
theorem Lst.below {w w' : World} {B : Nat} {A : Option Addr} {l : List Bt} (h : Lst w B A l) (hb : Below B w w') : Lst w' B A l := fun h0 => by
  obtain ⟨b, off, hA, hB, hc⟩ := h h0
  exact ⟨b, off, hA, hB, fun i x hx => (hc i x hx).same fun j => hb.cell (p := ⟨b, j, none⟩) hB⟩
theorem Lst.more {w : World} {B B' : Nat} {A : Option Addr} {l : List Bt} (h : Lst w B A l) (hB : B ≤ B') : Lst w B' A l := fun h0 => by
  obtain ⟨b, off, hA, hb, hc⟩ := h h0
  exact ⟨b, off, hA, by omega, hc⟩

/-- The first step that sets item x, or -1. -/
def stF (l : List Bt) (x : Int) : Int := match l.findIdx? (fun b => b.to == x) with
  | some i => (i : Int)
  | none => -1
theorem stF_nil (x : Int) : stF [] x = -1 := rfl
theorem stF_snoc (l : List Bt) (b : Bt) (x : Int) : stF (l ++ [b]) x = if 0 ≤ stF l x then stF l x else if b.to = x then (l.length : Int) else -1 := by
  unfold stF
  rw [List.findIdx?_append]
  cases h : l.findIdx? (fun b => b.to == x) with
  | some i => simp
  | none =>
    by_cases hb : b.to = x
    · simp [List.findIdx?_cons, hb]
    · simp [List.findIdx?_cons, hb]
theorem stF_lo (l : List Bt) (x : Int) : -1 ≤ stF l x := by
  unfold stF
  split <;> omega
theorem stF_lt (l : List Bt) (x : Int) : stF l x < l.length := by
  unfold stF
  split
  · rename_i i h
    have := (List.findIdx?_eq_some_iff_findIdx_eq.1 h).1
    omega
  · omega
theorem stF_get {l : List Bt} {x : Int} (h : 0 ≤ stF l x) : ∃ b, l[(stF l x).toNat]? = some b ∧ b.to = x := by
  unfold stF at h ⊢
  split at h
  · rename_i i hi
    obtain ⟨hlt, hp, _⟩ := List.findIdx?_eq_some_iff_getElem.1 hi
    exact ⟨l[i], by simp [hlt], by simpa using hp⟩
  · omega
theorem stF_none {l : List Bt} {x : Int} : stF l x < 0 ↔ ∀ b ∈ l, b.to ≠ x := by
  unfold stF
  split
  · rename_i i hi
    obtain ⟨hlt, hp, _⟩ := List.findIdx?_eq_some_iff_getElem.1 hi
    constructor
    · intro h; omega
    · intro h
      exact absurd (by simpa using hp) (h _ (List.getElem_mem hlt))
  · rename_i hi
    have := List.findIdx?_eq_none_iff.1 hi
    constructor
    · intro _ b hb
      simpa using this b hb
    · intro _; omega

/-- Is item x set, by the steps that s tells? -/
def setB (n : Int) (s : Int → Int) (x : Int) : Bool := decide (x = 0) || (decide (0 < x ∧ x < n) && decide (0 ≤ s x))
theorem set_ways (n : Int) (s : Int → Int) (x : Int) : (x = 0 ∧ setB n s x = true) ∨ (x < 0 ∧ setB n s x = false) ∨ (0 < x ∧ n ≤ x ∧ setB n s x = false) ∨ (0 < x ∧ x < n ∧ setB n s x = decide (0 ≤ s x)) := by
  unfold setB
  rcases Int.lt_trichotomy x 0 with h | h | h
  · exact Or.inr (Or.inl ⟨h, by simp; omega⟩)
  · exact Or.inl ⟨h, by simp [h]⟩
  · by_cases h2 : x < n
    · refine Or.inr (Or.inr (Or.inr ⟨h, h2, ?_⟩))
      have : ¬ x = 0 := by omega
      simp [this, h, h2]
    · exact Or.inr (Or.inr (Or.inl ⟨h, by omega, by simp; omega⟩))

set_option maxHeartbeats 400000 in
theorem set_c (x n : Int) (N Bn Bp Bs : Nat) (s : Int → Int) (w : World) (hn : w.cell? ⟨Bn, 0, none⟩ = some (.int .i64 n)) (hp : w.cell? ⟨Bp, 1, none⟩ = some (.slice (some ⟨Bs, 0, none⟩) N N)) (hN : (N : Int) = n)
    (hs : 0 < x → x < n → w.cell? ⟨Bs, x.toNat, none⟩ = some (.int .i64 (s x))) :
    Calls Try.prog 56 #[.int .i64 x, .pointer (some ⟨Bn, 0, none⟩), .pointer (some ⟨Bp, 0, none⟩)] w (RetS (.bool (setB n s x)) w) := by
  have hw := set_ways n s x
  generalize setB n s x = r at *
  rcases hw with ⟨h1, rfl⟩ | ⟨h1, rfl⟩ | ⟨h1, h2, rfl⟩ | ⟨h1, h2, rfl⟩
  · subst h1
    clear hs
    go_enter Try.func56, Try.ntmps56
    go_wp2
    go_ret
    exact ⟨rfl, rfl⟩
  · clear hs
    have hx0 : (x == 0) = false := beq_eq_false_iff_ne.2 (by omega)
    go_enter Try.func56, Try.ntmps56
    go_wp2
    go_ret
    exact ⟨rfl, rfl⟩
  · clear hs
    have hx0 : (x == 0) = false := beq_eq_false_iff_ne.2 (by omega)
    go_enter Try.func56, Try.ntmps56
    go_wp2
    go_ret
    exact ⟨rfl, rfl⟩
  · have hc := hs h1 h2
    clear hs
    have h3 : x < N := by omega
    have hx0 : (x == 0) = false := beq_eq_false_iff_ne.2 (by omega)
    generalize s x = y at *
    have hN := Lib.hid hN
    go_enter Try.func56, Try.ntmps56
    go_wp2
    go_ret
    exact ⟨rfl, rfl⟩
end Go.Proofs.Ytkgklmmkkhbimaa
