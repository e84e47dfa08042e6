/- Bench: what Suspects reckons, in plain words; a loop in whose rounds marks gather. -/
import Derived.Test.YtkgklmmkkhbimaaBenchI
namespace Go.Proofs.Ytkgklmmkkhbimaa
open Go Go.RowKit

/-- The slots ds of the temporaries by f, the others as they are. -/
def overlay (t : Array Value) (ds : List Nat) (f : Nat → Value) : Array Value := ds.foldl (fun t d => t.setIfInBounds d (f d)) t
theorem overlay_self (t : Array Value) (ds : List Nat) : overlay t ds (fun d => t.getD d undef) = t := by
  unfold overlay
  suffices h : ∀ (ds : List Nat) (s : Array Value), s = t → ds.foldl (fun t' d => t'.setIfInBounds d (t.getD d undef)) s = t from h ds t rfl
  intro ds
  induction ds with
  | nil => intro s hs; exact hs
  | cons d ds ih =>
    intro s hs
    refine ih _ ?_
    subst hs
    apply Array.ext
    · simp
    · intro i h1 h2
      rw [Array.getElem_setIfInBounds h2]
      split
      · rename_i e
        subst e
        rw [Array.getD_eq_getD_getElem?, Array.getElem?_eq_getElem h2]
        rfl
      · rfl
theorem wp_loop_over {P : Program} {c : Code} {Q : Exit → Act → World → Prop} {t : Array Value} {D0 : List Deferred} {w : World} (ds : List Nat) (rel : (Nat → Value) → List Deferred → World → Prop) (μ : (Nat → Value) → Nat)
    (h0 : rel (fun d => t.getD d undef) D0 w)
    (round : ∀ f D wr, rel f D wr → c.wp P (Exit.then (fun a' w' => (rel (fun d => a'.tmps.getD d undef) a'.defers w' ∧ a'.tmps = overlay t ds (fun d => a'.tmps.getD d undef)) ∧ μ (fun d => a'.tmps.getD d undef) < μ f) Q) { tmps := overlay t ds f, defers := D } wr) :
    (Code.loop c).wp P Q { tmps := t, defers := D0 } w := by
  refine wp_loop (fun a' w' => ∃ f D, rel f D w' ∧ a' = { tmps := overlay t ds f, defers := D } ∧ μ f = μ (fun d => a'.tmps.getD d undef)) (fun a' _ => μ (fun d => a'.tmps.getD d undef)) ⟨_, _, h0, by rw [overlay_self], rfl⟩ ?_
  rintro a' w' ⟨f, D, hr, rfl, hm⟩
  refine Code.wp_mono ?_ (round f D w' hr)
  intro e a2 w2 h
  cases e with
  | normal =>
    obtain ⟨⟨h1, h2⟩, h3⟩ := h
    refine ⟨⟨_, _, h1, ?_, rfl⟩, by rw [← hm]; exact h3⟩
    cases a2
    simp only at h2 ⊢
    rw [← h2]
  | _ => exact h

/-- An array of L bools. -/
def bA (L : Nat) (b : Nat → Bool) : Array Value := ((List.range L).map fun (i : Nat) => Value.bool (b i)).toArray
theorem bA_get (L : Nat) (b : Nat → Bool) {i : Nat} (h : i < L) : (bA L b)[i]? = some (.bool (b i)) := by
  simp [bA, h]
theorem bA_zero (L : Nat) : bA L (fun _ => false) = Array.replicate L (.bool false) := by
  apply Array.ext <;> simp [bA]
theorem bA_set (L : Nat) (b : Nat → Bool) (i : Nat) (v : Bool) : (bA L b).setIfInBounds i (.bool v) = bA L (fun j => if j = i then v else b j) := by
  apply Array.ext
  · simp [bA]
  · intro j h1 h2
    have hj : j < L := by simpa [bA] using h2
    rw [Array.getElem_setIfInBounds (by simpa [bA] using hj)]
    simp only [bA, List.getElem_toArray, List.getElem_map, List.getElem_range]
    by_cases e : i = j
    · rw [if_pos e, if_pos e.symm]
    · rw [if_neg e, if_neg (Ne.symm e)]
theorem bA_congr {L : Nat} {b c : Nat → Bool} (h : ∀ j, j < L → b j = c j) : bA L b = bA L c := by
  apply Array.ext
  · simp [bA]
  · intro j h1 h2
    have hj : j < L := by simpa [bA] using h2
    simp only [bA, List.getElem_toArray, List.getElem_map, List.getElem_range]
    rw [h j hj]

/-- How often step j has come among the first k of the way of x: odd? -/
def tgK (l : List Bt) (x : Int) : Nat → Nat → Bool
  | 0, _ => false
  | k + 1, j => tgK l x k j != (stF l (itL l x k) == (j : Int))
def tgW (l : List Bt) (x : Int) (j : Nat) : Bool := tgK l x (wayK l x) j
/-- The steps that the first i items of a check mark. -/
def onI (l : List Bt) (c : Int × Int) : Nat → Nat → Bool
  | 0, _ => false
  | 1, j => false != tgW l c.1 j
  | _, j => (false != tgW l c.1 j) != tgW l c.2 j
/-- The steps that the first k checks clear. -/
def clF (l : List Bt) (cs : List (Int × Int)) (fs : List Bool) : Nat → Nat → Bool
  | 0, _ => false
  | k + 1, j => clF l cs fs k j || (onI l (cs.getD k (0, 0)) 2 j != fs.getD k false)
def okC (n : Int) (cs : List (Int × Int)) : Bool := cs.all fun c => decide (0 ≤ c.1 ∧ c.1 < n ∧ 0 ≤ c.2 ∧ c.2 < n)
def susG (n : Int) (l : List Bt) (cs : List (Int × Int)) (fs : List Bool) : Bool := vld n l && (decide (cs.length = fs.length ∧ cs.length ≤ 200) && okC n cs)
def susS (l : List Bt) (cs : List (Int × Int)) (fs : List Bool) (j : Nat) : Bool := !clF l cs fs cs.length j
/-- The addresses of a slice of checks, and of a slice of bools. -/
def ChkR (w : World) (B : Nat) (A : Option Addr) (cs : List (Int × Int)) : Prop :=
  0 < cs.length → ∃ b off, A = some ⟨b, off, none⟩ ∧ b < B ∧ ∀ k c, cs[k]? = some c → w.cell? ⟨b, off + k * 2, none⟩ = some (.int .i64 c.1) ∧ w.cell? ⟨b, off + k * 2 + 1, none⟩ = some (.int .i64 c.2)
def BoolsR (w : World) (B : Nat) (A : Option Addr) (fs : List Bool) : Prop :=
  0 < fs.length → ∃ b off, A = some ⟨b, off, none⟩ ∧ b < B ∧ ∀ k c, fs[k]? = some c → w.cell? ⟨b, off + k, none⟩ = some (.bool c)
theorem ChkR.below {w w' : World} {B : Nat} {A : Option Addr} {cs : List (Int × Int)} (h : ChkR w B A cs) (hb : Below B w w') : ChkR w' B A cs := fun h0 => by
  obtain ⟨b, off, hA, hB, hc⟩ := h h0
  exact ⟨b, off, hA, hB, fun k c hk => ⟨(hb.cell (p := ⟨b, _, none⟩) hB).trans (hc k c hk).1, (hb.cell (p := ⟨b, _, none⟩) hB).trans (hc k c hk).2⟩⟩
theorem BoolsR.below {w w' : World} {B : Nat} {A : Option Addr} {fs : List Bool} (h : BoolsR w B A fs) (hb : Below B w w') : BoolsR w' B A fs := fun h0 => by
  obtain ⟨b, off, hA, hB, hc⟩ := h h0
  exact ⟨b, off, hA, hB, fun k c hk => (hb.cell (p := ⟨b, _, none⟩) hB).trans (hc k c hk)⟩
theorem BoolsR.more {w : World} {B B' : Nat} {A : Option Addr} {fs : List Bool} (h : BoolsR w B A fs) (hB : B ≤ B') : BoolsR w B' A fs := fun h0 => by
  obtain ⟨b, off, hA, hb, hc⟩ := h h0
  exact ⟨b, off, hA, by omega, hc⟩
theorem ChkR.more {w : World} {B B' : Nat} {A : Option Addr} {fs : List (Int × Int)} (h : ChkR w B A fs) (hB : B ≤ B') : ChkR w B' A fs := fun h0 => by
  obtain ⟨b, off, hA, hb, hc⟩ := h h0
  exact ⟨b, off, hA, by omega, hc⟩
theorem But.comp {x y : Nat} {a b c : World} (h : But y y a b) (k : But x y b c) (hx : a.heap.size ≤ x) : But y y a c :=
  ⟨k.os.trans h.os, k.tape.trans h.tape, k.output.trans h.output, Nat.le_trans h.size k.size, fun i hi h1 h2 => (k.block i (Nat.lt_of_lt_of_le hi h.size) (by omega) h2).trans (h.block i hi h1 h2)⟩
theorem Marked.at {w : World} {d : Nat} : ∀ {Ds : List Nat}, Marked w Ds → d ∈ Ds → w.heap[d]? = some (.deferred (some []))
  | [], _, h => absurd h (by simp)
  | D :: Ds, hm, h => by
    rcases List.mem_cons.1 h with rfl | h
    · exact hm.1
    · exact Marked.at hm.2.2 h
theorem Marked.ne {w : World} {d g : Nat} {t : TypeId} {cs : Array Value} {Ds : List Nat} (hm : Marked w Ds) (hd : d ∈ Ds) (hb : Blk w g t cs) : d ≠ g := by
  rintro rfl
  have := hm.at hd
  unfold Blk at hb
  rw [hb] at this
  cases this
/-- What Suspects leaves. -/
def SusP (n : Int) (l : List Bt) (cs : List (Int × Int)) (fs : List Bool) (w : World) (e : Ending) (w' : World) : Prop :=
  Below w.heap.size w w' ∧ ((susG n l cs fs = false ∧ e = .returned (.tuple #[.slice none 0 0, .int .i64 1])) ∨
    (susG n l cs fs = true ∧ ∃ A cap, e = .returned (.tuple #[.slice A (selF (susS l cs fs) l.length).length cap, .int .i64 0]) ∧ IntsR w' w'.heap.size A (selF (susS l cs fs) l.length)))
end Go.Proofs.Ytkgklmmkkhbimaa
