/- Pitch: what the rounds of fraction keep. -/
import Derived.Test.YtehifkdfbiebfaaDoorK18
import Derived.Test.YtehifkdfbiebfaaDoorK20
namespace Go.Proofs.YtehifkdfbiebfaaDoor
open Go Go.RowKit

theorem grown_of_below {w w' : World} (h : Below w.heap.size w w') : w.grownBy w' none := ⟨h.os, h.tape, h.output, h.size, fun k hk _ => h.block k hk⟩
theorem own_below {w w' : World} {base n : Nat} {e : TypeId} {v : Value} {xs : List Value} {size : Nat} (h : w.ownsRow base e size v n xs) (hb : Below w.heap.size w w') : w'.ownsRow base e size v n xs := by
  refine h.kept (grown_of_below hb) ?_
  cases v.ownBlock with
  | none => exact .inl rfl
  | some b => exact .inr (by simp)
theorem grown_put (w : World) (l : Nat) (o : Obj) : w.grownBy (w.putObj l o) (some l) := ⟨rfl, rfl, rfl, by simp, fun k _ hk => World.putObj_heap_other (fun e => hk (by rw [e]))⟩
theorem grown_setc (w : World) (b i : Nat) (v : Value) : w.grownBy (w.setCell ⟨b, i, none⟩ v) (some b) := ⟨rfl, rfl, rfl, by simp [World.setCell], fun k _ hk => Below.heap_setCell _ _ _ k (fun e => hk (by rw [e]))⟩
theorem Num.same {W W' : World} {q m x : Nat} (h : Num W W.heap.size q m x) (hs : W.heap.size ≤ W'.heap.size) (he : W'.heap[q]? = W.heap[q]?) : Num W' W'.heap.size q m x := by
  obtain ⟨f, ⟨h1, h2⟩, h3⟩ := h
  exact ⟨f, ⟨by omega, fun i hi => (World.cell?_of_block (a := ⟨q, i, none⟩) he).trans (h2 i hi)⟩, h3⟩
theorem Num.blk {W : World} {B q m x : Nat} (h : Num W B q m x) : q < B := by
  obtain ⟨f, ⟨h1, _⟩, _⟩ := h
  exact h1
/-- The numbers vals lie behind the slices Xs, from block B on, but for the blocks s and t. -/
def ElsB (B : Nat) (s t : Option Nat) (W : World) (Xs : List Value) (vals : List Nat) : Prop := Xs.length = vals.length ∧ ∀ (j x : Nat), vals[j]? = some x → 1 ≤ x ∧ ∃ q m : Nat, Xs[j]? = some (Value.slice (some ⟨q, 0, none⟩) m m) ∧ B ≤ q ∧ s ≠ some q ∧ t ≠ some q ∧ Num W W.heap.size q m x ∧ m ≤ 640
theorem ElsB.nil (B : Nat) (s t : Option Nat) (W : World) : ElsB B s t W [] [] := ⟨rfl, fun j x h => by simp at h⟩
theorem ElsB.els {B : Nat} {s t : Option Nat} {W : World} {Xs : List Value} {vals : List Nat} (h : ElsB B s t W Xs vals) : Els W Xs vals :=
  ⟨h.1, fun j x hx => by
    obtain ⟨h1, q, m, h2, _, _, _, h3, h4⟩ := h.2 j x hx
    exact ⟨h1, q, m, h2, h3, h4⟩⟩
theorem ElsB.swap {B : Nat} {s t : Option Nat} {W : World} {Xs : List Value} {vals : List Nat} (h : ElsB B s t W Xs vals) : ElsB B t s W Xs vals :=
  ⟨h.1, fun j x hx => by
    obtain ⟨h1, q, m, h2, h3, h4, h5, h6⟩ := h.2 j x hx
    exact ⟨h1, q, m, h2, h3, h5, h4, h6⟩⟩
theorem ElsB.keep {B : Nat} {s t s' t' : Option Nat} {W W' : World} {Xs : List Value} {vals : List Nat} (h : ElsB B s t W Xs vals) (hs : W.heap.size ≤ W'.heap.size) (hk : ∀ q, B ≤ q → q < W.heap.size → s ≠ some q → t ≠ some q → W'.heap[q]? = W.heap[q]?) (hst : ∀ q, q < W.heap.size → s ≠ some q → t ≠ some q → s' ≠ some q ∧ t' ≠ some q) : ElsB B s' t' W' Xs vals :=
  ⟨h.1, fun j x hx => by
    obtain ⟨h1, q, m, h2, h3, h4, h5, h6, h7⟩ := h.2 j x hx
    have hq := h6.blk
    obtain ⟨k1, k2⟩ := hst q hq h4 h5
    exact ⟨h1, q, m, h2, h3, k1, k2, h6.same hs (hk q h3 hq h4 h5), h7⟩⟩
theorem ElsB.snoc {B : Nat} {s t : Option Nat} {W : World} {Xs : List Value} {vals : List Nat} {q m x : Nat} (h : ElsB B s t W Xs vals) (hx : 1 ≤ x) (hB : B ≤ q) (h1 : s ≠ some q) (h2 : t ≠ some q) (hN : Num W W.heap.size q m x) (hm : m ≤ 640) : ElsB B s t W (Xs ++ [Value.slice (some ⟨q, 0, none⟩) m m]) (vals ++ [x]) := by
  refine ⟨by simp [h.1], fun j y hy => ?_⟩
  by_cases e : j < vals.length
  · rw [List.getElem?_append_left e] at hy
    obtain ⟨h1, q', m', h2, h3⟩ := h.2 j y hy
    exact ⟨h1, q', m', by rw [List.getElem?_append_left (by rw [h.1]; exact e)]; exact h2, h3⟩
  · rw [List.getElem?_append_right (by omega)] at hy
    obtain ⟨k, hk⟩ : ∃ k, k = j - vals.length := ⟨_, rfl⟩
    rw [← hk] at hy
    cases k with
    | zero =>
      simp at hy
      subst hy
      refine ⟨hx, q, m, ?_, hB, h1, h2, hN, hm⟩
      rw [List.getElem?_append_right (by rw [h.1]; omega), h.1, ← hk]
      rfl
    | succ k => simp at hy
/-- The state of the rounds: two lists of numbers that grow. -/
structure JX (w : World) (B O U F : Nat) (cs : Array Value) (W : World) (vo : Value) (no : Nat) (Xo : List Value) (vu : Value) (nu : Nat) (Xu : List Value) (L1 L2 : List Nat) : Prop where
  below : Below w.heap.size w W
  fB : Blk W F 26 cs
  pr : PR W
  oB : Blk W O 193 #[vo]
  uB : Blk W U 193 #[vu]
  oR : W.ownsRow B 83 1 vo no Xo
  uR : W.ownsRow B 83 1 vu nu Xu
  sep : ∀ g, vo.ownBlock = some g → vu.ownBlock ≠ some g
  oE : ElsB B vo.ownBlock vu.ownBlock W Xo L1
  uE : ElsB B vo.ownBlock vu.ownBlock W Xu L2
section
variable {w W : World} {B O U F : Nat} {cs : Array Value} {vo vu : Value} {no nu : Nat} {Xo Xu : List Value} {L1 L2 : List Nat}
theorem JX.swap (h : JX w B O U F cs W vo no Xo vu nu Xu L1 L2) : JX w B U O F cs W vu nu Xu vo no Xo L2 L1 :=
  ⟨h.below, h.fB, h.pr, h.uB, h.oB, h.uR, h.oR, fun g h1 h2 => h.sep g h2 h1, h.uE.swap, h.oE.swap⟩
theorem JX.grow {W' : World} (h : JX w B O U F cs W vo no Xo vu nu Xu L1 L2) (hb : Below W.heap.size W W') : JX w B O U F cs W' vo no Xo vu nu Xu L1 L2 :=
  ⟨bl_trans h.below hb, h.fB.below hb h.fB.lt, h.pr.up hb, h.oB.below hb h.oB.lt, h.uB.below hb h.uB.lt, own_below h.oR hb, own_below h.uR hb, h.sep,
    h.oE.keep hb.size (fun q _ hq _ _ => hb.block q hq) (fun _ _ h1 h2 => ⟨h1, h2⟩), h.uE.keep hb.size (fun q _ hq _ _ => hb.block q hq) (fun _ _ h1 h2 => ⟨h1, h2⟩)⟩
/-- A block that belongs to nothing is put. -/
theorem JX.put {l : Nat} {o : Obj} (h : JX w B O U F cs W vo no Xo vu nu Xu L1 L2) (hl : w.heap.size ≤ l) (hlB : l < B) (hO : O ≠ l) (hU : U ≠ l) (hF : F ≠ l) (hP : 0 < w.heap.size) : JX w B O U F cs (W.putObj l o) vo no Xo vu nu Xu L1 L2 := by
  have hb : Below w.heap.size W (W.putObj l o) := ⟨rfl, rfl, rfl, by simp, fun k hk => World.putObj_heap_other (by omega)⟩
  have hn : ∀ v : Value, ∀ n X, W.ownsRow B 83 1 v n X → v.ownBlock = none ∨ v.ownBlock ≠ some l := fun v n X hr => by
    cases hv : v.ownBlock with
    | none => exact .inl rfl
    | some g =>
      right
      intro e
      have := (hr.lt g hv).1
      have := Option.some.inj e
      omega
  exact ⟨h.below.trans hb, h.fB.same (World.putObj_heap_other hF), h.pr.under hb hP, h.oB.same (World.putObj_heap_other hO), h.uB.same (World.putObj_heap_other hU),
    h.oR.kept (grown_put _ _ _) (hn _ _ _ h.oR), h.uR.kept (grown_put _ _ _) (hn _ _ _ h.uR), h.sep,
    h.oE.keep (by simp) (fun q hq _ _ _ => World.putObj_heap_other (by omega)) (fun q _ h1 h2 => ⟨h1, h2⟩), h.uE.keep (by simp) (fun q hq _ _ _ => World.putObj_heap_other (by omega)) (fun q _ h1 h2 => ⟨h1, h2⟩)⟩
/-- A number is appended. -/
theorem JX.add (h : JX w B O U F cs W vo no Xo vu nu Xu L1 L2) (hO : w.heap.size ≤ O) (hOB : O < B) (hUB : U < B) (hFB : F < B) (hP : 0 < w.heap.size) (hOU : O ≠ U) (hOF : O ≠ F) (_ : w.heap.size ≤ B) (hBW : B ≤ W.heap.size)
    {w3 w4 : World} {o : Obj} {q n x g cap : Nat} (hb : Below W.heap.size W w3) (hq : W.heap.size ≤ q) (hN : Num w3 w3.heap.size q n x) (hn : n ≤ 640) (hx : 1 ≤ x)
    (hown : w4.ownsRow B 83 1 (.slice (some ⟨g, 0, none⟩) (no + 1) cap) (no + 1) (Xo ++ [Value.slice (some ⟨q, 0, none⟩) n n])) (hgrow : (w3.alloc o).grownBy w4 vo.ownBlock) (hat : vo.ownBlock = some g ∨ g = (w3.alloc o).heap.size) :
    JX w B O U F cs (w4.setCell ⟨O, 0, none⟩ (.slice (some ⟨g, 0, none⟩) (no + 1) cap)) (.slice (some ⟨g, 0, none⟩) (no + 1) cap) (no + 1) (Xo ++ [Value.slice (some ⟨q, 0, none⟩) n n]) vu nu Xu (L1 ++ [x]) L2 := by
  have hqs := hN.blk
  have hs3 := hb.size
  have hs4 := hgrow.size
  simp only [World.size_alloc] at hs4 hat
  -- own blocks
  have ho : ∀ b, vo.ownBlock = some b → B ≤ b ∧ b < W.heap.size := h.oR.lt
  have hu : ∀ b, vu.ownBlock = some b → B ≤ b ∧ b < W.heap.size := h.uR.lt
  have key : ∀ r, r < w3.heap.size → vo.ownBlock ≠ some r → r ≠ O → (w4.setCell ⟨O, 0, none⟩ (.slice (some ⟨g, 0, none⟩) (no + 1) cap)).heap[r]? = w3.heap[r]? := fun r h1 h2 h3 => by
    rw [Below.heap_setCell _ _ _ r h3, hgrow.block r (by simp; omega) (fun e => h2 e.symm), Below.heap_alloc _ _ _ h1]
  have key2 : ∀ r, r < W.heap.size → vo.ownBlock ≠ some r → r ≠ O → (w4.setCell ⟨O, 0, none⟩ (.slice (some ⟨g, 0, none⟩) (no + 1) cap)).heap[r]? = W.heap[r]? := fun r h1 h2 h3 => by
    rw [key r (by omega) h2 h3, hb.block r h1]
  have nlo : ∀ r, r < B → vo.ownBlock ≠ some r := fun r h1 e => by have := ho r e; omega
  have hsz : W.heap.size ≤ (w4.setCell ⟨O, 0, none⟩ (.slice (some ⟨g, 0, none⟩) (no + 1) cap)).heap.size := by simp [World.setCell]; omega
  have hbel : Below w.heap.size w (w4.setCell ⟨O, 0, none⟩ (.slice (some ⟨g, 0, none⟩) (no + 1) cap)) := by
    refine bl_set' (by exact hO) ?_
    have h1 : Below w.heap.size w w3 := bl_trans h.below hb
    refine (bl_alloc h1 _).grown hgrow ?_ ?_
    · have := h1.size
      simp
      omega
    · intro b hb'
      have := ho b hb'
      omega
  -- the new slice's block
  have hgv : (Value.slice (some ⟨g, 0, none⟩) (no + 1) cap).ownBlock = some g := rfl
  have gne : ∀ r, r < w3.heap.size → vo.ownBlock ≠ some r → g ≠ r := fun r h1 h2 e => by
    subst e
    rcases hat with h3 | h3
    · exact h2 h3
    · omega
  refine ⟨hbel, ?_, ?_, ?_, ?_, ?_, ?_, ?_, ?_, ?_⟩
  · exact h.fB.same (key2 F (by omega) (nlo F hFB) (fun e => hOF e.symm))
  · exact h.pr.under (B := w.heap.size) ⟨hbel.os.trans h.below.os.symm, hbel.tape.trans h.below.tape.symm, hbel.output.trans h.below.output.symm, hsz, fun k hk => (hbel.block k hk).trans (h.below.block k hk).symm⟩ hP
  · have h4 : Blk w4 O 193 #[vo] := h.oB.same (by rw [hgrow.block O (by simp; omega) (fun e => nlo O hOB e.symm), Below.heap_alloc _ _ _ (by omega), hb.block O (by omega)])
    exact h4.set_ 0 _
  · exact h.uB.same (key2 U (by omega) (nlo U hUB) (fun e => hOU e.symm))
  · refine hown.kept (grown_setc _ _ _ _) (.inr ?_)
    rw [hgv]
    intro e
    have := Option.some.inj e
    have := (hown.lt g rfl).1
    omega
  · have h4 : w3.ownsRow B 83 1 vu nu Xu := own_below h.uR hb
    have h5 : (w3.alloc o).ownsRow B 83 1 vu nu Xu := own_below h4 (bl_alloc (bl_refl _) _)
    have h6 : w4.ownsRow B 83 1 vu nu Xu := h5.kept hgrow (by
      cases hv : vu.ownBlock with
      | none => exact .inl rfl
      | some b => exact .inr (fun e => h.sep b e.symm hv))
    refine h6.kept (grown_setc _ _ _ _) ?_
    cases hv : vu.ownBlock with
    | none => exact .inl rfl
    | some b =>
      refine .inr (fun e => ?_)
      have := Option.some.inj e
      have := (hu b hv).1
      omega
  · intro r hr e
    rw [hgv] at hr
    have hrg := Option.some.inj hr
    subst hrg
    rcases hat with h3 | h3
    · exact h.sep _ h3 e
    · have := (hu _ e).2
      omega
  · have h4 : ElsB B (some g) vu.ownBlock (w4.setCell ⟨O, 0, none⟩ (.slice (some ⟨g, 0, none⟩) (no + 1) cap)) Xo L1 := h.oE.keep hsz (fun r h1 h2 h3 _ => key2 r h2 h3 (by omega)) (fun r h1 h2 h3 => ⟨fun e => gne r (by omega) h2 (Option.some.inj e), h3⟩)
    have hqo : vo.ownBlock ≠ some q := fun e => by have := (ho q e).2; omega
    have hqu : vu.ownBlock ≠ some q := fun e => by have := (hu q e).2; omega
    exact h4.snoc hx (by omega) (fun e => gne q hqs hqo (Option.some.inj e)) hqu (hN.same (by simp [World.setCell]; omega) (key q hqs hqo (by omega))) hn
  · exact h.uE.keep hsz (fun r h1 h2 h3 _ => key2 r h2 h3 (by omega)) (fun r h1 h2 h3 => ⟨fun e => gne r (by omega) h2 (Option.some.inj e), h3⟩)
theorem JX.add_keep (h : JX w B O U F cs W vo no Xo vu nu Xu L1 L2) {w3 w4 : World} {o : Obj} {v : Value} (hb : Below W.heap.size W w3) (hgrow : (w3.alloc o).grownBy w4 vo.ownBlock) {r : Nat} (hr : r < W.heap.size) (hrB : r < B) (hO : r ≠ O) : (w4.setCell ⟨O, 0, none⟩ v).heap[r]? = W.heap[r]? := by
  have := hb.size
  rw [Below.heap_setCell _ _ _ r hO, hgrow.block r (by simp; omega) (fun e => by have := (h.oR.lt r e.symm).1; omega), Below.heap_alloc _ _ _ (by omega), hb.block r hr]
end
end Go.Proofs.YtehifkdfbiebfaaDoor
