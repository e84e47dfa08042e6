/- Small words for contracts: 'Ret v w': the call returns v and leaves all blocks that lay in w as they were. A range over a function: the law for an iterator that keeps its state in a cell of its own, stated of plain walks. -/
import Derived.Test.YtehifkdfbiebfaaDoorProg
import Derived.WalkKit
import Derived.WalkSpells
import Derived.WalkLawsBesides
import Derived.Deep.RegionHeld3
import Derived.Deep.Draws
import Derived.Lib.Hide
import Derived.RangeFuncNested
import Derived.RangeFuncBound
import Derived.RangeFuncCalls
import Derived.RangeFuncLeaves
namespace Go.Proofs.YtehifkdfbiebfaaDoor
open Go.RowKit

def Ret (v : Value) (w : World) (e : Ending) (w' : World) : Prop := e = .returned v ∧ Below w.heap.size w w'
theorem bl_refl (w : World) : Below w.heap.size w w := Below.refl _ _
theorem bl_trans {a b c : World} (h : Below a.heap.size a b) (k : Below b.heap.size b c) : Below a.heap.size a c := h.trans (k.mono h.size)
theorem bl_alloc {a b : World} (h : Below a.heap.size a b) (o : Obj) : Below a.heap.size a (b.alloc o) := h.alloc h.size _
theorem bl_drew {a b : World} (h : Below a.heap.size a b) : Below a.heap.size a b.drew := h.drew
theorem bl_drewN {a b : World} (h : Below a.heap.size a b) (n : Nat) : Below a.heap.size a (b.drewN n) := ⟨h.os, h.tape, h.output, h.size, h.block⟩
theorem bl_set {a b : World} (h : Below a.heap.size a b) {p : Addr} (hp : a.heap.size ≤ p.block) (u : Value) : Below a.heap.size a (b.setCell p u) := h.setCell hp u
theorem bl_set' {a b : World} {p : Addr} {u : Value} (hp : a.heap.size ≤ p.block) (h : Below a.heap.size a b) : Below a.heap.size a (b.setCell p u) := h.setCell hp u
theorem bl_last {a b c : World} (k : Below b.heap.size b c) (h : Below a.heap.size a b) : Below a.heap.size a c := bl_trans h k
theorem bcell {W w1 : World} (hb : Below W.heap.size W w1) : (∀ b o, b < W.heap.size → w1.cell? ⟨b, o, none⟩ = W.cell? ⟨b, o, none⟩) ∧ (∀ b o, b < W.heap.size → w1.frozen? ⟨b, o, none⟩ = W.frozen? ⟨b, o, none⟩) :=
  ⟨fun b o h => hb.cell (p := ⟨b, o, none⟩) h, fun b o h => hb.frozen (p := ⟨b, o, none⟩) h⟩
theorem ret_bool {a b : Bool} (h : a = b) : Ending.returned (.bool a) = .returned (.bool b) := by rw [h]
theorem ret_int {k : IntKind} {a b : Int} (h : a = b) : Ending.returned (.int k a) = .returned (.int k b) := by rw [h]
theorem ret_int2 {k : IntKind} {a b : Int} {x : Value} (h : a = b) : Ending.returned (.tuple #[.int k a, x]) = .returned (.tuple #[.int k b, x]) := by rw [h]
theorem keep_cell {w w' : World} (hb : Below w.heap.size w w') {a : Addr} {v : Value} (h : w.cell? a = some v) : w'.cell? a = some v := by
  rw [hb.cell (World.block_lt_of_cell? _ _ h)]; exact h
theorem keep_frozen {w w' : World} (hb : Below w.heap.size w w') {a : Addr} {v : Value} (h : w.cell? a = some v) (hf : w.frozen? a = false) : w'.frozen? a = false := by
  rw [hb.frozen (World.block_lt_of_cell? _ _ h)]; exact hf
theorem keep_size {w w' : World} (hb : Below w.heap.size w w') {n : Nat} (h : n < w.heap.size) : n < w'.heap.size := Nat.lt_of_lt_of_le h hb.size
/-- 'b < H' is said as an equation between two addresses: the walk's own procedure decides such an equation by linear arithmetic. -/
theorem lt_of_addr {b H : Nat} (h : (⟨b + 1 - H, 0, none⟩ : Addr) = ⟨0, 0, none⟩) : b < H := by
  have := congrArg Addr.block h
  simp at this
  omega
/-- Of a world of which 'Below' alone is known: the old cells and marks, as rules for the walk. -/
theorem bcl {W w' : World} {H : Nat} (hb : Below W.heap.size W w') (hH : W.heap.size = H) : (H ≤ w'.heap.size) ∧ (∀ b o, (⟨b + 1 - H, 0, none⟩ : Addr) = ⟨0, 0, none⟩ → w'.cell? ⟨b, o, none⟩ = W.cell? ⟨b, o, none⟩) ∧ (∀ b o, (⟨b + 1 - H, 0, none⟩ : Addr) = ⟨0, 0, none⟩ → w'.frozen? ⟨b, o, none⟩ = W.frozen? ⟨b, o, none⟩) := by
  subst hH
  exact ⟨hb.size, fun b o h => hb.cell (p := ⟨b, o, none⟩) (lt_of_addr h), fun b o h => hb.frozen (p := ⟨b, o, none⟩) (lt_of_addr h)⟩
@[go_sem] theorem cell?_alloc_far (w : World) (o : Obj) (b i : Nat) (h : (⟨b + 1 - w.heap.size, 0, none⟩ : Addr) = ⟨0, 0, none⟩) : (w.alloc o).cell? ⟨b, i, none⟩ = w.cell? ⟨b, i, none⟩ :=
  World.cell?_alloc_lt _ _ _ (lt_of_addr h)
@[go_sem] theorem frozen?_alloc_far (w : World) (o : Obj) (b i : Nat) (h : (⟨b + 1 - w.heap.size, 0, none⟩ : Addr) = ⟨0, 0, none⟩) : (w.alloc o).frozen? ⟨b, i, none⟩ = w.frozen? ⟨b, i, none⟩ :=
  World.frozen?_alloc_old _ _ _ (by have := lt_of_addr h; show b ≠ _; omega)
end Go.Proofs.YtehifkdfbiebfaaDoor
namespace Go.Proofs.YtehifkdfbiebfaaDoor
open Go Go.RowKit

/-- Block g is just the cells cs of type t, none of them frozen. -/
def Blk (w : World) (g : Nat) (t : TypeId) (cs : Array Value) : Prop := w.heap[g]? = some (.cells cs t (0, 0))
section
variable {w w' : World} {g : Nat} {t : TypeId} {cs : Array Value}
theorem Blk.lt (h : Blk w g t cs) : g < w.heap.size := by
  rcases Nat.lt_or_ge g w.heap.size with hlt | hge
  · exact hlt
  · unfold Blk at h; rw [Array.getElem?_eq_none hge] at h; cases h
theorem Blk.cell (h : Blk w g t cs) (i : Nat) : w.cell? ⟨g, i, none⟩ = cs[i]? := by
  unfold Blk at h
  simp [World.cell?, h]
theorem Blk.frozen (h : Blk w g t cs) (i : Nat) : w.frozen? ⟨g, i, none⟩ = false := by
  unfold Blk at h
  simp [World.frozen?, h]
theorem Blk.new (w : World) (t : TypeId) (cs : Array Value) : Blk (w.alloc (.cells cs t)) w.heap.size t cs := World.alloc_heap_new w _
theorem Blk.drew (h : Blk w g t cs) : Blk w.drew g t cs := h
theorem Blk.alloc (h : Blk w g t cs) (o : Obj) : Blk (w.alloc o) g t cs := (Below.heap_alloc w o g h.lt).trans h
theorem Blk.set_ (h : Blk w g t cs) (i : Nat) (u : Value) : Blk (w.setCell ⟨g, i, none⟩ u) g t (cs.setIfInBounds i u) := by
  unfold Blk at h ⊢
  simp [World.setCell, Array.getElem?_modify, h]
theorem Blk.far (h : Blk w g t cs) {p : Addr} (hp : g ≠ p.block) (u : Value) : Blk (w.setCell p u) g t cs := (Below.heap_setCell w p u g hp).trans h
theorem Blk.below {B : Nat} (h : Blk w g t cs) (hb : Below B w w') (hg : g < B) : Blk w' g t cs := (hb.block g hg).trans h
theorem Blk.same (h : Blk w g t cs) (e : w'.heap[g]? = w.heap[g]?) : Blk w' g t cs := e.trans h
end

/-- From w on, only the blocks x and y, and what is new, have turned. -/
structure But (x y : Nat) (w w' : World) : Prop where
  os : w'.os = w.os
  tape : w'.tape = w.tape
  output : w'.output = w.output
  size : w.heap.size ≤ w'.heap.size
  block : ∀ k, k < w.heap.size → k ≠ x → k ≠ y → w'.heap[k]? = w.heap[k]?
section
variable {x y : Nat} {a b c w w' : World}
theorem But.refl (w : World) : But x y w w := ⟨rfl, rfl, rfl, Nat.le_refl _, fun _ _ _ _ => rfl⟩
theorem But.trans (h : But x y a b) (k : But x y b c) : But x y a c :=
  ⟨k.os.trans h.os, k.tape.trans h.tape, k.output.trans h.output, Nat.le_trans h.size k.size, fun i hi h1 h2 => (k.block i (Nat.lt_of_lt_of_le hi h.size) h1 h2).trans (h.block i hi h1 h2)⟩
theorem But.alloc (h : But x y a b) (o : Obj) : But x y a (b.alloc o) := h.trans ⟨rfl, rfl, rfl, by simp, fun k hk _ _ => Below.heap_alloc _ _ _ hk⟩
theorem But.drew (h : But x y a b) : But x y a b.drew := ⟨h.os, h.tape, h.output, h.size, h.block⟩
theorem But.setX (h : But x y a b) (i : Nat) (u : Value) : But x y a (b.setCell ⟨x, i, none⟩ u) := h.trans ⟨rfl, rfl, rfl, by simp [World.setCell], fun k _ h1 _ => Below.heap_setCell _ _ _ _ h1⟩
theorem But.setY (h : But x y a b) (i : Nat) (u : Value) : But x y a (b.setCell ⟨y, i, none⟩ u) := h.trans ⟨rfl, rfl, rfl, by simp [World.setCell], fun k _ _ h2 => Below.heap_setCell _ _ _ _ h2⟩
theorem But.put (h : But x y a b) {l : Nat} (hl : a.heap.size ≤ l) (o : Obj) : But x y a (b.putObj l o) :=
  ⟨h.os, h.tape, h.output, by simp [h.size], fun k hk h1 h2 => (World.putObj_heap_other (by omega)).trans (h.block k hk h1 h2)⟩
theorem But.grown (h : But x y a b) (hg : b.grownBy c (some y)) : But x y a c :=
  h.trans ⟨hg.os, hg.tape, hg.output, hg.size, fun k hk _ h2 => hg.block k hk (by intro e; exact h2 (Option.some.inj e))⟩
theorem But.below {B : Nat} (h : But x y a b) (hB : B ≤ a.heap.size) (hx : B ≤ x) (hy : B ≤ y) : Below B a b := ⟨h.os, h.tape, h.output, h.size, fun k hk => h.block k (by omega) (by omega) (by omega)⟩
theorem But.of_below (h : Below a.heap.size a b) : But x y a b := ⟨h.os, h.tape, h.output, h.size, fun k hk _ _ => h.block k hk⟩
theorem Blk.but {g : Nat} {t : TypeId} {cs : Array Value} (h : Blk a g t cs) (k : But x y a b) (h1 : g ≠ x) (h2 : g ≠ y) : Blk b g t cs := (k.block g h.lt h1 h2).trans h
theorem But.cell (k : But x y a b) {p : Addr} (hp : p.block < a.heap.size) (h1 : p.block ≠ x) (h2 : p.block ≠ y) : b.cell? p = a.cell? p := World.cell?_of_block (k.block _ hp h1 h2)
end

/-- What the body of a round owes: its own row alone has turned, and is told; where it leaves by a return, likewise. -/
def roundEnd (W : World) (row : Nat) (t : TypeId) (cs cx : Array Value) (nx ex : Prop) : Exit → Act → World → Prop
  | .normal, _, W' => W.grownBy W' (some row) ∧ Blk W' row t cs ∧ nx
  | .ret, _, W' => W.grownBy W' (some row) ∧ Blk W' row t cx ∧ ex
  | _, _, _ => False

/-- The contract of an iterator that yields the integers is 0, is 1, .., is (K - 1), its state lying in block Bi: whatever relation M tells of the rounds. -/
def Iter (P : Program) (gf : Nat) (lb : Array Value) (Bi : Nat) (it : Nat → Value) (K : Nat) (is : Nat → Int) (w : World) (row : Nat) : Prop :=
  ∀ (l : Nat) (J Jx : Nat → World → Prop) (W : World),
    (∀ k W v, J k W → J k (W.setCell ⟨Bi, 0, none⟩ v)) → (∀ k W, J k W → But Bi row w W) →
    (∀ k W1, k < K → J k W1 → W1.cell? ⟨Bi, 0, none⟩ = some (it k) → W1.frozen? ⟨Bi, 0, none⟩ = false → YieldAt Fence.wide 2 P l #[.int .i64 (is k)] W1 fun e W' =>
      (e = .returned (.bool true) ∧ J (k + 1) W' ∧ W'.cell? ⟨Bi, 0, none⟩ = some (it k) ∧ W'.frozen? ⟨Bi, 0, none⟩ = false) ∨ (e = .returned (.bool false) ∧ Jx k W')) →
    J 0 W → W.cell? ⟨Bi, 0, none⟩ = some (it 0) → W.frozen? ⟨Bi, 0, none⟩ = false →
    CallsIn Fence.wide 3 P gf (#[.func (.yield l) #[] #[]] ++ lb) W fun e W' => (∃ v, e = .returned v) ∧ (J K W' ∨ ∃ k, k < K ∧ Jx k W')

theorem Blk.not_lt {w : World} {g l : Nat} {t : TypeId} {cs : Array Value} {r : Loop} (h : Blk w g t cs) (hl : w.heap[l]? = some (.loop r)) : g ≠ l := by
  rintro rfl
  unfold Blk at h
  rw [h] at hl
  cases hl

theorem wp_range {P : Program} {g : Operand} {ps : Array Tmp} {assign body : Code} {Q : Exit → Act → World → Prop} {a : Act} {w : World} {gf : Nat} {lb : Array Value} {Bi row : Nat} {it : Nat → Value} {K : Nat} {is : Nat → Int}
    (hg : a.eval g = .func (.func gf) #[] lb) (eg : ∀ args w, (callFunc gf args).run P w = .ok (.enter gf args) w) (hit : Iter P gf lb Bi it K is w row)
    (t : TypeId) (cs : Nat → Array Value) (cx : Array Value) (ex : Prop) (pk : Nat → Prop) (hp0 : pk 0) (ti : TypeId) (hi : Blk w Bi ti #[it 0]) (hne : Bi ≠ row) (hrow : Blk w row t (cs 0)) (hps : ps.size = 1)
    (hround : ∀ (l k : Nat) (W : World), k < K → pk k → assign.wpIn (Fence.wide.inRound l) 2 P (Exit.then (fun a₁ W₁ => W₁ = W ∧ ∀ W2, But Bi row w W2 → Blk W2 row t (cs k) → body.wpIn (Fence.wide.inRound l) 2 P (roundEnd W2 row t (cs (k + 1)) cx (pk (k + 1)) ex) a₁ W2) (fun _ _ _ => False))
      { tmps := (ps.zip #[.int .i64 (is k)]).foldl (fun t (p, v) => t.setIfInBounds p v) a.tmps, defers := [] } W)
    (hdone : ∀ W, But Bi row w W → w.heap.size < W.heap.size → Blk W row t (cs K) → pk K → W.heap[w.heap.size]? = some (.deferred (some [])) → Q .normal { a with defers := { target := .collected w.heap.size, args := #[] } :: a.defers } W)
    (hstop : ∀ W, But Bi row w W → w.heap.size < W.heap.size → Blk W row t cx → ex → W.heap[w.heap.size]? = some (.deferred (some [])) → Code.ret.wp P Q { a with defers := { target := .collected w.heap.size, args := #[] } :: a.defers } W) :
    (Code.rangeFunc g ps assign body).wp P Q a w := by
  refine (wpIn_wide (n := 4)).1 ?_
  refine wpIn_rangeFunc ?_
  intro fn hfn
  show ∃ (l : Nat) (mark : List Deferred) (w₁ : World) (d : Deferred) (w₁' : World) (f : FuncId) (args : Array Value) (w₂ : World),
      (Instr.enterLoop fn a.tmps ps assign body none).run P w = .ok (l, mark) w₁ ∧ _
  obtain ⟨rec, hrec⟩ : ∃ rec : LoopState → Option Code → Loop, rec = fun st pe => { state := st, pending := pe, fn, tmps := a.tmps, params := ps, assign, body, defers := w.heap.size } := ⟨_, rfl⟩
  obtain ⟨W1, hW1⟩ : ∃ W1, (w.alloc (.deferred (some []))).alloc (.loop (rec .ready none)) = W1 := ⟨_, rfl⟩
  have hL1 : W1.heap[w.heap.size + 1]? = some (.loop (rec .ready none)) := by
    rw [← hW1]; have := World.alloc_heap_new (w.alloc (.deferred (some []))) (.loop (rec .ready none)); rwa [World.size_alloc] at this
  have hK1 : W1.heap[w.heap.size]? = some (.deferred (some [])) := by
    rw [← hW1]; exact (Below.heap_alloc _ _ _ (by simp)).trans (World.alloc_heap_new w _)
  have hB1 : But Bi row w W1 := by rw [← hW1]; exact ((But.refl w).alloc _).alloc _
  have hrow1 : Blk W1 row t (cs 0) := by rw [← hW1]; exact (hrow.alloc _).alloc _
  have hi1 : Blk W1 Bi ti #[it 0] := by rw [← hW1]; exact (hi.alloc _).alloc _
  have hbi := hi.lt
  have hbr := hrow.lt
  refine ⟨w.heap.size + 1, [{ target := .collected w.heap.size, args := #[] }], W1, { target := .fn (.func gf) lb, args := #[.func (.yield (w.heap.size + 1)) #[] #[]] }, W1, gf,
    #[.func (.yield (w.heap.size + 1)) #[] #[]] ++ lb, W1, ?_, ?_, ?_, ?_, fun _ => by omega, ?_⟩
  · rw [← hW1, hrec]; exact run_enterLoop_outer _ _ _ _ _
  · simp only [resolve, hg]
    simp [go_sem]
  · intro f' hf'; trivial
  · simp [invoke, go_sem, eg]
  · refine (hit (w.heap.size + 1)
      (fun k W => But Bi row w W ∧ (Blk W row t (cs k) ∧ pk k) ∧ W.heap[w.heap.size + 1]? = some (.loop (rec .ready none)) ∧ W.heap[w.heap.size]? = some (.deferred (some [])))
      (fun _ W => But Bi row w W ∧ Blk W row t cx ∧ ex ∧ W.heap[w.heap.size + 1]? = some (.loop (rec .done (some .ret))) ∧ W.heap[w.heap.size]? = some (.deferred (some [])))
      W1 ?_ (fun k W h => h.1) ?_ ⟨hB1, ⟨hrow1, hp0⟩, hL1, hK1⟩ (hi1.cell 0) (hi1.frozen 0)).mono ?_
    · rintro k W v ⟨h1, ⟨h2, h2p⟩, h3, h4⟩
      exact ⟨h1.setX _ _, ⟨h2.far (Ne.symm hne) _, h2p⟩, (Below.heap_setCell _ _ _ _ (by show w.heap.size + 1 ≠ Bi; omega)).trans h3, (Below.heap_setCell _ _ _ _ (by show w.heap.size ≠ Bi; omega)).trans h4⟩
    · rintro k W hkK ⟨hB, ⟨hr, hpk⟩, hl, hk⟩ hc hf
      have hlt : w.heap.size + 1 < W.heap.size := (Array.getElem?_eq_some_iff.1 hl).1
      have hy := run_yield (P := P) (args := #[.int .i64 (is k)]) hl (by rw [hrec]; exact hps.symm)
      rw [hrec] at hy
      refine ⟨fn, _, assign, body, hy, roundIn_of_wpIn hfn (wpIn_mono (hround _ k W hkK hpk) ?_)⟩
      rintro e a₁ W₁ hp
      cases e with
      | normal =>
        obtain ⟨rfl, hbody⟩ := hp
        refine ⟨_, run_beginRound hl (by rw [hrec]), ?_⟩
        obtain ⟨W2, hW2⟩ : ∃ W2, W₁.putObj (w.heap.size + 1) (.loop { rec .ready none with state := .busy }) = W2 := ⟨_, rfl⟩
        have hl2 : W2.heap[w.heap.size + 1]? = some (.loop { rec .ready none with state := .busy }) := by rw [← hW2]; exact World.putObj_heap_same hlt
        have hk2 : W2.heap[w.heap.size]? = some (.deferred (some [])) := by rw [← hW2]; exact (World.putObj_heap_other (by omega)).trans hk
        have hB2 : But Bi row w W2 := by rw [← hW2]; exact hB.put (by omega) _
        have hr2 : Blk W2 row t (cs k) := by rw [← hW2]; exact hr.same (World.putObj_heap_other (by omega))
        have hi2 : W2.heap[Bi]? = W₁.heap[Bi]? := by rw [← hW2]; exact World.putObj_heap_other (by omega)
        rw [hW2]
        refine wpIn_mono (hbody W2 hB2 hr2) ?_
        have fin : ∀ (jump : Option Code) (W3 : World), W2.grownBy W3 (some row) →
            (Instr.endRound (w.heap.size + 1) jump).run P W3 = .ok (.bool jump.isNone) (W3.putObj (w.heap.size + 1) (.loop (rec (if jump.isNone then .ready else .done) jump))) ∧
            W3.heap[w.heap.size + 1]? = some (.loop { rec .ready none with state := .busy }) ∧
            (W3.putObj (w.heap.size + 1) (.loop (rec (if jump.isNone then .ready else .done) jump))).heap[w.heap.size + 1]? = some (.loop (rec (if jump.isNone then .ready else .done) jump)) ∧
            (W3.putObj (w.heap.size + 1) (.loop (rec (if jump.isNone then .ready else .done) jump))).heap[w.heap.size]? = some (.deferred (some [])) := fun jump W3 hg3 => by
          have hl3 : W3.heap[w.heap.size + 1]? = some (.loop { rec .ready none with state := .busy }) := (hg3.block _ (Array.getElem?_eq_some_iff.1 hl2).1 (by intro e; have := Option.some.inj e; omega)).trans hl2
          have hk3 : W3.heap[w.heap.size]? = some (.deferred (some [])) := (hg3.block _ (Array.getElem?_eq_some_iff.1 hk2).1 (by intro e; have := Option.some.inj e; omega)).trans hk2
          have := run_endRound (P := P) jump hl3
          rw [hrec] at this ⊢
          exact ⟨this, by rw [hrec] at hl3; exact hl3, World.putObj_heap_same (Array.getElem?_eq_some_iff.1 hl3).1, (World.putObj_heap_other (by omega)).trans hk3⟩
        rintro e a3 W3 hp
        cases e with
        | normal =>
          obtain ⟨hg3, hr3, hpn⟩ := hp
          obtain ⟨hr, hl3, hl4, hk4⟩ := fin none W3 hg3
          have hsame : (W3.putObj (w.heap.size + 1) (.loop (rec .ready none))).heap[Bi]? = W₁.heap[Bi]? := by
            rw [World.putObj_heap_other (by omega), hg3.block Bi (by have := (Array.getElem?_eq_some_iff.1 hl2).1; omega) (by intro e; have := Option.some.inj e; exact hne this), hi2]
          refine ⟨_, _, hr, .inl ⟨rfl, ⟨(hB2.grown hg3).put (by omega) _, ⟨hr3.same (World.putObj_heap_other (by omega)), hpn⟩, hl4, hk4⟩, ?_, ?_⟩⟩
          · exact (World.cell?_of_block (a := ⟨Bi, 0, none⟩) hsame).trans hc
          · exact (World.frozen?_of_block (a := ⟨Bi, 0, none⟩) hsame).trans hf
        | ret =>
          obtain ⟨hg3, hr3, hx⟩ := hp
          obtain ⟨hr, hl3, hl4, hk4⟩ := fin (some .ret) W3 hg3
          exact ⟨_, _, hr, .inr ⟨rfl, (hB2.grown hg3).put (by omega) _, hr3.same (World.putObj_heap_other (by omega)), hx, hl4, hk4⟩⟩
        | exit id => exact hp.elim
        | goto t => exact hp.elim
        | panic ch => exact hp.elim
        | outgrown => exact hp.elim
      | exit id => exact hp.elim
      | goto t => exact hp.elim
      | ret => exact hp.elim
      | panic ch => exact hp.elim
      | outgrown => exact hp.elim
    · rintro e W2 ⟨⟨v, rfl⟩, (⟨hB, ⟨hr, hpk⟩, hl, hk⟩ | ⟨k, _, hB, hr, hx, hl, hk⟩)⟩
      · have hlt : w.heap.size + 1 < W2.heap.size := (Array.getElem?_eq_some_iff.1 hl).1
        exact ⟨none, _, by have := run_endLoop (P := P) hl (by rw [hrec]; simp); rw [hrec] at this; exact this, hdone _ (hB.put (by omega) _) (by simp; omega) (hr.same (World.putObj_heap_other (by omega))) hpk ((World.putObj_heap_other (by omega)).trans hk)⟩
      · have hlt : w.heap.size + 1 < W2.heap.size := (Array.getElem?_eq_some_iff.1 hl).1
        refine ⟨some .ret, _, by have := run_endLoop (P := P) hl (by rw [hrec]; simp); rw [hrec] at this; exact this, ?_⟩
        exact (wpIn_wide (n := 4)).2 (hstop _ (hB.put (by omega) _) (by simp; omega) (hr.same (World.putObj_heap_other (by omega))) hx ((World.putObj_heap_other (by omega)).trans hk))

/-- The marks of the loops that have been: each block for deferred calls lies there, empty and open. -/
def Marked (w : World) : List Nat → Prop
  | [] => True
  | D :: Ds => w.heap[D]? = some (.deferred (some [])) ∧ (∀ d ∈ Ds, d < D) ∧ Marked w Ds
def marks (Ds : List Nat) : List Deferred := Ds.map fun D => { target := .collected D, args := #[] }
theorem Marked.same {w w' : World} : ∀ {Ds : List Nat}, Marked w Ds → (∀ D ∈ Ds, w'.heap[D]? = w.heap[D]?) → Marked w' Ds
  | [], _, _ => trivial
  | D :: Ds, h, hs => ⟨(hs D (by simp)).trans h.1, h.2.1, Marked.same h.2.2 (fun d hd => hs d (by simp [hd]))⟩
theorem leaves_marks {P : Program} {fn : Func} {tmps : Array Value} {R : Ending → World → Prop} {B : Nat} : ∀ (Ds : List Nat) (w : World), Marked w Ds → (∀ D ∈ Ds, B ≤ D) →
    (∀ w', Below B w w' → (∀ (k : Nat) (cs : Array Value) (t : TypeId) (f : Nat × Nat), w.heap[k]? = some (Obj.cells cs t f) → w'.heap[k]? = some (Obj.cells cs t f)) → ∃ v, (results fn tmps).run P w' = .ok v w' ∧ R (.returned v) w') →
    LeavesInM Fence.wide 4 P fn tmps R (marks Ds) .returning w
  | [], w, _, _, h => by
    obtain ⟨v, h1, h2⟩ := h w (Below.refl _ _) (fun _ _ _ _ h => h)
    exact ⟨_, h1, h2⟩
  | D :: Ds, w, hm, hB, h => by
    refine ⟨by simp, .inl ⟨D, _, rfl, run_takeDeferred hm.1, ?_⟩⟩
    have hD : B ≤ D := hB D (by simp)
    refine leaves_marks (B := B) Ds _ (hm.2.2.same fun d hd => World.putObj_heap_other (by have := hm.2.1 d hd; omega)) (fun d hd => hB d (by simp [hd])) (fun w' hb hc => ?_)
    have h0 : Below B w (w.putObj D (Obj.deferred none)) := ⟨rfl, rfl, rfl, by simp, fun k hk => World.putObj_heap_other (by omega)⟩
    refine h w' (h0.trans hb) (fun k cs t f hk => hc k cs t f ?_)
    exact (World.putObj_heap_other (by rintro rfl; rw [hm.1] at hk; cases hk)).trans hk
/-- A function that holds ranges over functions: its contract from the plain walk of its body. -/
theorem calls_of_marks {P : Program} {f : FuncId} {fn : Func} {c : Code} {args : Array Value} {w : World} {R : Ending → World → Prop} (hf : P.funcs[f]? = some fn) (hb : fn.body = some c)
    (h : c.wp P (bodyPostM Fence.wide 4 P fn R) { tmps := args ++ Array.replicate (fn.ntmps - args.size) undef, defers := [] } w) : Calls P f args w R :=
  (callsIn_wide (n := 4)).1 (callsIn_of_wp_marks hf hb trivial ((wpIn_wide (n := 4)).2 h))
theorem calls_of_plain {P : Program} {f : FuncId} {args : Array Value} {w : World} {R : Ending → World → Prop} (h : CallsIn Fence.wide 3 P f args w R) : Calls P f args w R := callsIn_wide.1 h
end Go.Proofs.YtehifkdfbiebfaaDoor
