/- A range over a function: the general law, whatever relation tells of the rounds. -/
import Derived.Test.YtehifkdfbiebfaaDoorK00
namespace Go.Proofs.YtehifkdfbiebfaaDoor
open Go Go.RowKit

/-- The contract of an iterator that yields at some of the numbers from 0 to K - 1. -/
def IterG (P : Program) (gf : Nat) (lb : Array Value) (K : Nat) (on : Nat → Bool) (is : Nat → Array Value) (SL : World → Prop) : Prop :=
  ∀ (l : Nat) (J : Nat → World → Prop) (W : World),
    (∀ k W W', J k W → Below W.heap.size W W' → J k W') → (∀ k W, J k W → SL W) →
    (∀ k W1, k < K → on k = true → J k W1 → YieldAt Fence.wide 2 P l (is k) W1 (fun e W' => e = .returned (.bool true) ∧ J (k + 1) W')) →
    (∀ k W1, k < K → on k = false → J k W1 → J (k + 1) W1) →
    J 0 W → CallsIn Fence.wide 3 P gf (#[.func (.yield l) #[] #[]] ++ lb) W (fun e W' => (∃ v, e = .returned v) ∧ J K W')
/-- What a round owes. -/
def roundEndG (J : Nat → World → Prop) (k D : Nat) (W : World) : Exit → Act → World → Prop
  | .normal, _, W' => J (k + 1) W' ∧ W'.heap[D]? = W.heap[D]? ∧ W'.heap[D + 1]? = W.heap[D + 1]?
  | _, _, _ => False
theorem wp_rangeG {P : Program} {g : Operand} {ps : Array Tmp} {assign body : Code} {Q : Exit → Act → World → Prop} {a : Act} {w : World} {gf : Nat} {lb : Array Value} {K : Nat} {on : Nat → Bool} {is : Nat → Array Value} {SL : World → Prop}
    (hg : a.eval g = .func (.func gf) #[] lb) (eg : ∀ args w, (callFunc gf args).run P w = .ok (.enter gf args) w) (hit : IterG P gf lb K on is SL) (hps : ∀ k, ps.size = (is k).size)
    (J : Nat → World → Prop) (hgrow : ∀ k W W', J k W → Below W.heap.size W W' → J k W') (hput : ∀ k W o, J k W → w.heap.size + 1 < W.heap.size → J k (W.putObj (w.heap.size + 1) o)) (hSL : ∀ k W, J k W → SL W) (h0 : J 0 w)
    (hround : ∀ (l k : Nat) (W : World), k < K → on k = true → assign.wpIn (Fence.wide.inRound l) 2 P (Exit.then (fun a₁ W₁ => W₁ = W ∧ ∀ W2, J k W2 → w.heap.size + 1 < W2.heap.size → body.wpIn (Fence.wide.inRound l) 2 P (roundEndG J k w.heap.size W2) a₁ W2) (fun _ _ _ => False))
      { tmps := (ps.zip (is k)).foldl (fun t (p, v) => t.setIfInBounds p v) a.tmps, defers := [] } W)
    (hskip : ∀ k W, k < K → on k = false → J k W → J (k + 1) W)
    (hdone : ∀ W, J K W → w.heap.size + 1 < W.heap.size → W.heap[w.heap.size]? = some (.deferred (some [])) → Q .normal { a with defers := { target := .collected w.heap.size, args := #[] } :: a.defers } W) :
    (Code.rangeFunc g ps assign body).wp P Q a w := by
  refine (wpIn_wide (n := 4)).1 ?_
  refine wpIn_rangeFunc ?_
  intro fn hfn
  show ∃ (l : Nat) (mark : List Deferred) (w₁ : World) (d : Deferred) (w₁' : World) (f : FuncId) (args : Array Value) (w₂ : World),
      (Instr.enterLoop fn a.tmps ps assign body none).run P w = .ok (l, mark) w₁ ∧ _
  obtain ⟨rec, hrec⟩ : ∃ rec : LoopState → Option Code → Loop, rec = fun st pe => { state := st, pending := pe, fn, tmps := a.tmps, params := ps, assign, body, defers := w.heap.size } := ⟨_, rfl⟩
  obtain ⟨W1, hW1⟩ : ∃ W1, (w.alloc (.deferred (some []))).alloc (.loop (rec .ready none)) = W1 := ⟨_, rfl⟩
  have hL1 : W1.heap[w.heap.size + 1]? = some (.loop (rec .ready none)) := by
    rw [← hW1]; have := World.alloc_heap_new (w.alloc (.deferred (some []))) (.loop (rec .ready none)); rwa [World.size_alloc] at this
  have hK1 : W1.heap[w.heap.size]? = some (.deferred (some [])) := by
    rw [← hW1]; exact (Below.heap_alloc _ _ _ (by simp)).trans (World.alloc_heap_new w _)
  have hJ1 : J 0 W1 := by
    rw [← hW1]
    exact hgrow 0 _ _ (hgrow 0 _ _ h0 (bl_alloc (bl_refl _) _)) (bl_alloc (bl_refl _) _)
  refine ⟨w.heap.size + 1, [{ target := .collected w.heap.size, args := #[] }], W1, { target := .fn (.func gf) lb, args := #[.func (.yield (w.heap.size + 1)) #[] #[]] }, W1, gf,
    #[.func (.yield (w.heap.size + 1)) #[] #[]] ++ lb, W1, ?_, ?_, ?_, ?_, fun _ => by omega, ?_⟩
  · rw [← hW1, hrec]; exact run_enterLoop_outer _ _ _ _ _
  · simp only [resolve, hg]
    simp [go_sem]
  · intro f' hf'; trivial
  · simp [invoke, go_sem, eg]
  · refine (hit (w.heap.size + 1)
      (fun k W => J k W ∧ W.heap[w.heap.size + 1]? = some (.loop (rec .ready none)) ∧ W.heap[w.heap.size]? = some (.deferred (some [])))
      W1 ?_ (fun k W h => hSL k W h.1) ?_ (fun k W hk ho h => ⟨hskip k W hk ho h.1, h.2⟩) ⟨hJ1, hL1, hK1⟩).mono ?_
    · rintro k W W' ⟨h1, h3, h4⟩ hb
      exact ⟨hgrow k W W' h1 hb, (hb.block _ (Array.getElem?_eq_some_iff.1 h3).1).trans h3, (hb.block _ (Array.getElem?_eq_some_iff.1 h4).1).trans h4⟩
    · rintro k W hkK hon ⟨hJ, hl, hk⟩
      have hlt : w.heap.size + 1 < W.heap.size := (Array.getElem?_eq_some_iff.1 hl).1
      have hy := run_yield (P := P) (args := is k) hl (by rw [hrec]; exact (hps k).symm)
      rw [hrec] at hy
      refine ⟨fn, _, assign, body, hy, roundIn_of_wpIn hfn (wpIn_mono (hround _ k W hkK hon) ?_)⟩
      rintro e a₁ W₁ hp
      cases e with
      | normal =>
        obtain ⟨rfl, hbody⟩ := hp
        refine ⟨_, run_beginRound hl (by rw [hrec]), ?_⟩
        obtain ⟨W2, hW2⟩ : ∃ W2, W₁.putObj (w.heap.size + 1) (.loop { rec .ready none with state := .busy }) = W2 := ⟨_, rfl⟩
        have hl2 : W2.heap[w.heap.size + 1]? = some (.loop { rec .ready none with state := .busy }) := by rw [← hW2]; exact World.putObj_heap_same hlt
        have hk2 : W2.heap[w.heap.size]? = some (.deferred (some [])) := by rw [← hW2]; exact (World.putObj_heap_other (by omega)).trans hk
        have hJ2 : J k W2 := by rw [← hW2]; exact hput k _ _ hJ hlt
        have hlt2 : w.heap.size + 1 < W2.heap.size := (Array.getElem?_eq_some_iff.1 hl2).1
        rw [hW2]
        refine wpIn_mono (hbody W2 hJ2 hlt2) ?_
        rintro e a3 W3 hp
        cases e with
        | normal =>
          obtain ⟨hJ3, hd3, hl3'⟩ := hp
          have hl3 : W3.heap[w.heap.size + 1]? = some (.loop { rec .ready none with state := .busy }) := hl3'.trans hl2
          have hk3 : W3.heap[w.heap.size]? = some (.deferred (some [])) := hd3.trans hk2
          have hlt3 : w.heap.size + 1 < W3.heap.size := (Array.getElem?_eq_some_iff.1 hl3).1
          have hr := run_endRound (P := P) none hl3
          rw [hrec] at hr
          rw [hrec]
          refine ⟨_, _, hr, rfl, hput _ _ _ hJ3 hlt3, ?_, ?_⟩
          · exact World.putObj_heap_same hlt3
          · exact (World.putObj_heap_other (by omega)).trans hk3
        | ret => exact hp.elim
        | exit id => exact hp.elim
        | goto t => exact hp.elim
        | panic ch => exact hp.elim
        | outgrown => exact hp.elim
      | exit id => exact hp.elim
      | goto t => exact hp.elim
      | ret => exact hp.elim
      | panic ch => exact hp.elim
      | outgrown => exact hp.elim
    · rintro e W2 ⟨⟨v, rfl⟩, hJ, hl, hk⟩
      have hlt : w.heap.size + 1 < W2.heap.size := (Array.getElem?_eq_some_iff.1 hl).1
      exact ⟨none, _, by have := run_endLoop (P := P) hl (by rw [hrec]; simp); rw [hrec] at this; exact this, hdone _ (hput _ _ _ hJ hlt) (by simp; omega) ((World.putObj_heap_other (by omega)).trans hk)⟩
end Go.Proofs.YtehifkdfbiebfaaDoor
