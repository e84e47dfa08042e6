/- A loop in whose rounds marks gather. -/
import Derived.Test.YtehifkdfbiebfaaDoorK00
namespace Go.Proofs.YtehifkdfbiebfaaDoor
open Go Go.RowKit

/-- The slots ds of the temporaries by f, the others as they are. -/
def overlay (t : Array Value) (ds : List Nat) (f : Nat → Value) : Array Value := ds.foldl (fun t d => t.setIfInBounds d (f d)) t
theorem overlay_self (t : Array Value) (ds : List Nat) : overlay t ds (fun d => t.getD d undef) = t := by
  unfold overlay
  suffices h : ∀ (ds : List Nat) (s : Array Value), s = t → ds.foldl (fun t' d => t'.setIfInBounds d (t.getD d undef)) s = t from h ds t rfl
  intro ds
  induction ds with
  | nil => intro s hs; exact hs
  | cons d ds ih =>
    intro s hs
    refine ih _ ?_
    subst hs
    apply Array.ext
    · simp
    · intro i h1 h2
      rw [Array.getElem_setIfInBounds h2]
      split
      · rename_i e
        subst e
        rw [Array.getD_eq_getD_getElem?, Array.getElem?_eq_getElem h2]
        rfl
      · rfl
theorem wp_loop_over {P : Program} {c : Code} {Q : Exit → Act → World → Prop} {t : Array Value} {D0 : List Deferred} {w : World} (ds : List Nat) (rel : (Nat → Value) → List Deferred → World → Prop) (μ : (Nat → Value) → Nat)
    (h0 : rel (fun d => t.getD d undef) D0 w)
    (round : ∀ f D wr, rel f D wr → c.wp P (Exit.then (fun a' w' => (rel (fun d => a'.tmps.getD d undef) a'.defers w' ∧ a'.tmps = overlay t ds (fun d => a'.tmps.getD d undef)) ∧ μ (fun d => a'.tmps.getD d undef) < μ f) Q) { tmps := overlay t ds f, defers := D } wr) :
    (Code.loop c).wp P Q { tmps := t, defers := D0 } w := by
  refine wp_loop (fun a' w' => ∃ f D, rel f D w' ∧ a' = { tmps := overlay t ds f, defers := D } ∧ μ f = μ (fun d => a'.tmps.getD d undef)) (fun a' _ => μ (fun d => a'.tmps.getD d undef)) ⟨_, _, h0, by rw [overlay_self], rfl⟩ ?_
  rintro a' w' ⟨f, D, hr, rfl, hm⟩
  refine Code.wp_mono ?_ (round f D w' hr)
  intro e a2 w2 h
  cases e with
  | normal =>
    obtain ⟨⟨h1, h2⟩, h3⟩ := h
    refine ⟨⟨_, _, h1, ?_, rfl⟩, by rw [← hm]; exact h3⟩
    cases a2
    simp only at h2 ⊢
    rw [← h2]
  | _ => exact h
end Go.Proofs.YtehifkdfbiebfaaDoor
