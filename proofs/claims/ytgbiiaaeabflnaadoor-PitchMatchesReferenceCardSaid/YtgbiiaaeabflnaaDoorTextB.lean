/- Pitch: what the rounds of Text keep. -/
import Derived.Test.YtgbiiaaeabflnaaDoorTextA
import Derived.Test.YtgbiiaaeabflnaaDoorJoin
namespace Go.Proofs.YtgbiiaaeabflnaaDoor
open Go Go.RowKit

/-- A prime with its exponent as a string. -/
def termB (q : Nat) (e : Int) : List UInt8 := if e = 12 then Lib.itoa (q : Int) else Lib.itoa (q : Int) ++ (94 :: expB e)
def txtL (E : Nat → Int) : Nat → List ByteArray
  | 0 => []
  | k + 1 => if E k = 0 then txtL E k else txtL E k ++ [⟨(termB (prm k) (E k)).toArray⟩]
theorem txtL_no {E : Nat → Int} {k : Nat} (h : E k = 0) : txtL E (k + 1) = txtL E k := by rw [txtL, if_pos h]
theorem txtL_yes {E : Nat → Int} {k : Nat} (h : ¬ E k = 0) : txtL E (k + 1) = txtL E k ++ [⟨(termB (prm k) (E k)).toArray⟩] := by rw [txtL, if_neg h]
theorem txtL_len (E : Nat → Int) : ∀ k, (txtL E k).length ≤ k
  | 0 => by simp [txtL]
  | k + 1 => by
    have := txtL_len E k
    unfold txtL
    split
    · omega
    · simp; omega
theorem expB_len {e : Int} (h0 : -576 ≤ e) (h1 : e ≤ 576) : (expB e).length ≤ 50 := by
  have hd12 : exG e ∣ 12 := Nat.gcd_dvd_left _ _
  have hle : exG e ≤ 12 := Nat.le_of_dvd (by omega) hd12
  have ht1 : -576 ≤ e.tdiv (exG e : Int) ∧ e.tdiv (exG e : Int) ≤ 576 := by
    have h1 : (e.tdiv (exG e : Int)).natAbs ≤ e.natAbs := by rw [Int.natAbs_tdiv]; exact Nat.div_le_self _ _
    omega
  obtain ⟨q, hq⟩ : ∃ q : Nat, q = 12 / exG e := ⟨_, rfl⟩
  have hq2 : q ≤ 12 := by rw [hq]; exact Nat.div_le_self _ _
  have l1 := Lib.itoa_length_le (e.tdiv (exG e : Int)) (by omega) (by omega)
  have l2 := Lib.itoa_length_le (q : Int) (by omega) (by omega)
  unfold expB
  rw [← hq]
  split
  · omega
  · simp
    omega
theorem termB_len {q : Nat} {e : Int} (hq : q ≤ 13) (h0 : -576 ≤ e) (h1 : e ≤ 576) : (termB q e).length ≤ 80 := by
  have l1 := Lib.itoa_length_le (q : Int) (by omega) (by omega)
  have l2 := expB_len h0 h1
  unfold termB
  split
  · omega
  · simp
    omega
/-- The state of the rounds: a list of strings that grows. -/
structure JT (w : World) (B O F : Nat) (cs : Array Value) (W : World) (v : Value) (n : Nat) (Xs : List Value) : Prop where
  below : Below w.heap.size w W
  fB : Blk W F 22 cs
  pr : PR W
  pw : PW W
  oB : Blk W O 60 #[v]
  oR : W.ownsRow B 9 1 v n Xs
  nn : n = 0 → v = .slice none 0 0
section
variable {w W : World} {B O F : Nat} {cs : Array Value} {v : Value} {n : Nat} {Xs : List Value}
theorem JT.grow {W' : World} (h : JT w B O F cs W v n Xs) (hb : Below W.heap.size W W') : JT w B O F cs W' v n Xs :=
  ⟨bl_trans h.below hb, h.fB.below hb h.fB.lt, h.pr.up hb, tab_up h.pw hb, h.oB.below hb h.oB.lt, own_below h.oR hb, h.nn⟩
theorem JT.put {l : Nat} {o : Obj} (h : JT w B O F cs W v n Xs) (hl : w.heap.size ≤ l) (hlB : l < B) (hO : O ≠ l) (hF : F ≠ l) (hP : 0 < w.heap.size) (hQ : 2 < w.heap.size) : JT w B O F cs (W.putObj l o) v n Xs := by
  have hb : Below w.heap.size W (W.putObj l o) := ⟨rfl, rfl, rfl, by simp, fun k hk => World.putObj_heap_other (by omega)⟩
  have hn : v.ownBlock = none ∨ v.ownBlock ≠ some l := by
    cases hv : v.ownBlock with
    | none => exact .inl rfl
    | some g =>
      right
      intro e
      have := (h.oR.lt g hv).1
      have := Option.some.inj e
      omega
  exact ⟨h.below.trans hb, h.fB.same (World.putObj_heap_other hF), h.pr.under hb hP, tab_under h.pw hb hQ, h.oB.same (World.putObj_heap_other hO), h.oR.kept (grown_put _ _ _) hn, h.nn⟩
theorem JT.add (h : JT w B O F cs W v n Xs) (hO : w.heap.size ≤ O) (hOB : O < B) (hFB : F < B) (hP : 0 < w.heap.size) (hQ : 2 < w.heap.size) (hOF : O ≠ F) (hwB : w.heap.size ≤ B) (hBW : B ≤ W.heap.size)
    {w3 w4 : World} {o : Obj} {g cap : Nat} {X : Value} (hb : Below W.heap.size W w3) (hown : w4.ownsRow B 9 1 (.slice (some ⟨g, 0, none⟩) (n + 1) cap) (n + 1) (Xs ++ [X])) (hgrow : (w3.alloc o).grownBy w4 v.ownBlock) :
    JT w B O F cs (w4.setCell ⟨O, 0, none⟩ (.slice (some ⟨g, 0, none⟩) (n + 1) cap)) (.slice (some ⟨g, 0, none⟩) (n + 1) cap) (n + 1) (Xs ++ [X]) := by
  have hs3 := hb.size
  have hs4 := hgrow.size
  simp only [World.size_alloc] at hs4
  have ho : ∀ b, v.ownBlock = some b → B ≤ b ∧ b < W.heap.size := h.oR.lt
  have nlo : ∀ r, r < B → v.ownBlock ≠ some r := fun r h1 e => by have := ho r e; omega
  have key2 : ∀ r, r < W.heap.size → v.ownBlock ≠ some r → r ≠ O → (w4.setCell ⟨O, 0, none⟩ (.slice (some ⟨g, 0, none⟩) (n + 1) cap)).heap[r]? = W.heap[r]? := fun r h1 h2 h3 => by
    rw [Below.heap_setCell _ _ _ r h3, hgrow.block r (by simp; omega) (fun e => h2 e.symm), Below.heap_alloc _ _ _ (by omega), hb.block r h1]
  have hsz : W.heap.size ≤ (w4.setCell ⟨O, 0, none⟩ (.slice (some ⟨g, 0, none⟩) (n + 1) cap)).heap.size := by simp [World.setCell]; omega
  have hbel : Below w.heap.size w (w4.setCell ⟨O, 0, none⟩ (.slice (some ⟨g, 0, none⟩) (n + 1) cap)) := by
    refine bl_set' (by exact hO) ?_
    have h1 : Below w.heap.size w w3 := bl_trans h.below hb
    refine (bl_alloc h1 _).grown hgrow ?_ ?_
    · have := h1.size
      simp
      omega
    · intro b hb'
      have := ho b hb'
      omega
  have hWB : Below w.heap.size W (w4.setCell ⟨O, 0, none⟩ (.slice (some ⟨g, 0, none⟩) (n + 1) cap)) := ⟨hbel.os.trans h.below.os.symm, hbel.tape.trans h.below.tape.symm, hbel.output.trans h.below.output.symm, hsz, fun k hk => (hbel.block k hk).trans (h.below.block k hk).symm⟩
  refine ⟨hbel, ?_, ?_, ?_, ?_, ?_, fun e => by omega⟩
  · exact h.fB.same (key2 F (by have := h.fB.lt; omega) (nlo F hFB) (fun e => hOF e.symm))
  · exact h.pr.under hWB hP
  · exact tab_under h.pw hWB hQ
  · have h4 : Blk w4 O 60 #[v] := h.oB.same (by rw [hgrow.block O (by have := h.oB.lt; simp; omega) (fun e => nlo O hOB e.symm), Below.heap_alloc _ _ _ (by have := h.oB.lt; omega), hb.block O h.oB.lt])
    exact h4.set_ 0 _
  · have hgv : (Value.slice (some ⟨g, 0, none⟩) (n + 1) cap).ownBlock = some g := rfl
    refine hown.kept (grown_setc _ _ _ _) (.inr ?_)
    rw [hgv]
    intro e
    have := Option.some.inj e
    have := (hown.lt g rfl).1
    omega
theorem JT.add_keep (h : JT w B O F cs W v n Xs) {w3 w4 : World} {o : Obj} {u : Value} (hb : Below W.heap.size W w3) (hgrow : (w3.alloc o).grownBy w4 v.ownBlock) {r : Nat} (hr : r < W.heap.size) (hrB : r < B) (hO : r ≠ O) : (w4.setCell ⟨O, 0, none⟩ u).heap[r]? = W.heap[r]? := by
  have := hb.size
  rw [Below.heap_setCell _ _ _ r hO, hgrow.block r (by simp; omega) (fun e => by have := (h.oR.lt r e.symm).1; omega), Below.heap_alloc _ _ _ (by omega), hb.block r hr]
end
end Go.Proofs.YtgbiiaaeabflnaaDoor
