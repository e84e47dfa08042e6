/- TopCircle's list: the tuner's list of pure intervals, and the ways. TopCircle's list: the walk. -/
import Derived.Test.YtehifkdfbiebfaaDoorK31
import Derived.Test.YtehifkdfbiebfaaDoorK17
import Derived.Test.YtehifkdfbiebfaaDoorK29
import Derived.Test.YtehifkdfbiebfaaDoorK01
import Derived.Deep.Cut
import Derived.Deep.AppendLies
import Derived.Test.YtehifkdfbiebfaaDoorK02
namespace Go.Proofs.YtehifkdfbiebfaaDoor
open Go Go.RowKit

/-- Rows of c cells each. -/
def rowL (f : Nat → List Value) (k : Nat) : List Value := (List.range k).flatMap f
theorem rowL_succ (f : Nat → List Value) (k : Nat) : rowL f (k + 1) = rowL f k ++ f k := by simp [rowL, List.range_succ]
theorem rowL_len {f : Nat → List Value} {c : Nat} (h : ∀ j, (f j).length = c) : ∀ k, (rowL f k).length = k * c
  | 0 => by simp [rowL]
  | k + 1 => by rw [rowL_succ, List.length_append, rowL_len h k, h, Nat.succ_mul]
theorem rowL_get {f : Nat → List Value} {c : Nat} (h : ∀ j, (f j).length = c) {x i : Nat} (hi : i < c) : ∀ {k : Nat}, x < k → (rowL f k)[x * c + i]? = (f x)[i]?
  | 0, hx => absurd hx (by omega)
  | k + 1, hx => by
    rw [rowL_succ]
    by_cases e : x = k
    · subst e
      rw [List.getElem?_append_right (by rw [rowL_len h]; omega), rowL_len h, Nat.add_sub_cancel_left]
    · have hl : x * c + i < k * c := by
        have : (x + 1) * c ≤ k * c := Nat.mul_le_mul_right c (by omega)
        rw [Nat.succ_mul] at this
        omega
      rw [List.getElem?_append_left (by rw [rowL_len h]; exact hl)]
      exact rowL_get h hi (by omega)
def v6 (g : Nat → Int) : List Value := [.int .i64 (g 0), .int .i64 (g 1), .int .i64 (g 2), .int .i64 (g 3), .int .i64 (g 4), .int .i64 (g 5)]
/-- A slice of L vectors. -/
def VecsR (w : World) (B : Nat) (A : Option Addr) (L : Nat) (g : Nat → Nat → Int) : Prop :=
  0 < L → ∃ b off, A = some ⟨b, off, none⟩ ∧ b < B ∧ ∀ k, k < L → ∀ i, i < 6 → w.cell? ⟨b, off + k * 6 + i, none⟩ = some (.int .i64 (g k i))
theorem VecsR.below {w w' : World} {B L : Nat} {A : Option Addr} {g : Nat → Nat → Int} (h : VecsR w B A L g) (hb : Below B w w') : VecsR w' B A L g := fun h0 => by
  obtain ⟨b, o, e, hlt, hc⟩ := h h0
  exact ⟨b, o, e, hlt, fun k hk i hi => (hb.cell (p := ⟨b, o + k * 6 + i, none⟩) hlt).trans (hc k hk i hi)⟩
theorem VecsR.more {w : World} {B B' L : Nat} {A : Option Addr} {g : Nat → Nat → Int} (h : VecsR w B A L g) (hB : B ≤ B') : VecsR w B' A L g := fun h0 => by
  obtain ⟨b, o, e, hlt, hc⟩ := h h0
  exact ⟨b, o, e, by omega, hc⟩
theorem VecsR.up {w w' : World} {L : Nat} {A : Option Addr} {g : Nat → Nat → Int} (h : VecsR w w.heap.size A L g) (hb : Below w.heap.size w w') : VecsR w' w'.heap.size A L g := (h.below hb).more hb.size
/-- From which item step k sets. -/
def frK (xs : List Int) (k : Nat) : Nat := if 0 < xs.getD k 0 then (xs.getD k 0 % ((k : Int) + 1)).toNat else 0
theorem frK_le (xs : List Int) (k : Nat) : frK xs k ≤ k := by
  unfold frK
  split
  · have := Int.emod_lt_of_pos (xs.getD k 0) (show (0 : Int) < (k : Int) + 1 by omega)
    omega
  · omega
/-- The ways to the items, behind m steps. -/
def wyF (fr : Nat → Nat) (g : Nat → Nat → Int) : Nat → Nat → Nat → Int
  | 0 => fun _ _ => 0
  | m + 1 => fun j i => if j = m + 1 then wyF fr g m (fr m) i + g m i else wyF fr g m j i
def wayF (fr : Nat → Nat) (g : Nat → Nat → Int) (j : Nat) (i : Nat) : Int := wyF fr g j j i
theorem wyF_eq {fr : Nat → Nat} {g : Nat → Nat → Int} : ∀ {m j : Nat}, j ≤ m → ∀ i, wyF fr g m j i = wayF fr g j i
  | 0, j, h, i => by
    have : j = 0 := by omega
    subst this; rfl
  | m + 1, j, h, i => by
    by_cases e : j = m + 1
    · subst e; rfl
    · show (if j = m + 1 then _ else wyF fr g m j i) = _
      rw [if_neg e]
      exact wyF_eq (by omega) i
theorem wayF_zero (fr : Nat → Nat) (g : Nat → Nat → Int) (i : Nat) : wayF fr g 0 i = 0 := rfl
theorem wayF_succ {fr : Nat → Nat} (hf : ∀ k, fr k ≤ k) (g : Nat → Nat → Int) (m i : Nat) : wayF fr g (m + 1) i = wayF fr g (fr m) i + g m i := by
  show (if m + 1 = m + 1 then wyF fr g m (fr m) i + g m i else _) = _
  rw [if_pos rfl, wyF_eq (hf m)]
def pVg (g : Nat → Int) (B : Int) : Bool := pV (g 0) (g 1) (g 2) (g 3) (g 4) (g 5) B
def okS (fr : Nat → Nat) (g : Nat → Nat → Int) (k : Nat) : Bool := paO (g k 0) (g k 1) (g k 2) (g k 3) (g k 4) (g k 5) && pVg (wayF fr g (k + 1)) 48
def btK (fr : Nat → Nat) (g : Nat → Nat → Int) (k : Nat) : Bt := ⟨(fr k : Int), (k : Int) + 1, (paU (g k 0) (g k 1) (g k 2) (g k 3) (g k 4) (g k 5) 6 : Int), (paD (g k 0) (g k 1) (g k 2) (g k 3) (g k 4) (g k 5) 6 : Int), 0, 1, true⟩
def btL (fr : Nat → Nat) (g : Nat → Nat → Int) (L : Nat) : List Bt := (List.range L).map (btK fr g)
def bt7 (b : Bt) : List Value := [.int .i64 b.fr, .int .i64 b.to, .int .i64 b.p, .int .i64 b.q, .int .i64 b.rn, .int .i64 b.rd, .bool b.ab]
def LisP (fr : Nat → Nat) (g : Nat → Nat → Int) (L : Nat) (w : World) (e : Ending) (w' : World) : Prop :=
  Below w.heap.size w w' ∧ (((∃ k, k < L ∧ okS fr g k = false) ∧ e = .returned (.tuple #[.slice none 0 0, .slice none 0 0, .bool false])) ∨
    ((∀ k, k < L → okS fr g k = true) ∧ ∃ A1 c1 A2 c2, e = .returned (.tuple #[.slice A1 L c1, .slice A2 (L + 1) c2, .bool true]) ∧ Lst w' w'.heap.size A1 (btL fr g L) ∧ VecsR w' w'.heap.size A2 (L + 1) (wayF fr g)))
theorem vecs_of_own {w : World} {base L : Nat} {e : TypeId} {v : Value} {g : Nat → Nat → Int} (h : w.ownsRow base e 6 v (L + 1) (rowL (fun j => v6 (g j)) (L + 1))) : ∃ A c, v = .slice A (L + 1) c ∧ VecsR w w.heap.size A (L + 1) g := by
  have h' := h
  rcases h.2 with ⟨_, h0⟩ | ⟨b, cap, cur, rfl, hb, hh, _⟩
  · omega
  · refine ⟨_, cap, rfl, fun _ => ⟨b, 0, rfl, (Array.getElem?_eq_some_iff.1 hh).1, fun k hk i hi => ?_⟩⟩
    have := World.ownsRow.cellAt h' (k * 6 + i) (by omega)
    rw [Nat.zero_add, this, rowL_get (c := 6) (fun _ => rfl) hi hk]
    rcases lt6 hi with rfl | rfl | rfl | rfl | rfl | rfl <;> rfl
theorem lst_of_own {w : World} {base L : Nat} {e : TypeId} {v : Value} {fr : Nat → Nat} {g : Nat → Nat → Int} (h : w.ownsRow base e 7 v L (rowL (fun j => bt7 (btK fr g j)) L)) : ∃ A c, v = .slice A L c ∧ Lst w w.heap.size A (btL fr g L) := by
  have h' := h
  have hl : (btL fr g L).length = L := by simp [btL]
  rcases h.2 with ⟨rfl, rfl⟩ | ⟨b, cap, cur, rfl, hb, hh, _⟩
  · exact ⟨none, 0, rfl, fun h0 => by omega⟩
  · refine ⟨_, cap, rfl, fun _ => ⟨b, 0, rfl, (Array.getElem?_eq_some_iff.1 hh).1, fun k x hx => ?_⟩⟩
    have hk : k < L := by have := (List.getElem?_eq_some_iff.1 hx).1; omega
    have hx' : x = btK fr g k := by
      unfold btL at hx
      rw [List.getElem?_map, List.getElem?_range hk] at hx
      exact (Option.some.inj hx).symm
    subst hx'
    have hc : ∀ i, i < 7 → w.cell? ⟨b, 0 + k * 7 + i, none⟩ = (bt7 (btK fr g k))[i]? := fun i hi => by
      have := World.ownsRow.cellAt h' (k * 7 + i) (by omega)
      rw [Nat.zero_add, this, rowL_get (c := 7) (fun _ => rfl) hi hk]
    exact ⟨hc 0 (by omega), hc 1 (by omega), hc 2 (by omega), hc 3 (by omega), hc 4 (by omega), hc 5 (by omega), hc 6 (by omega)⟩
end Go.Proofs.YtehifkdfbiebfaaDoor
namespace Go.Proofs.YtehifkdfbiebfaaDoor
open Go Go.RowKit

def a6 (f : Nat → Int) : Array Value := #[.int .i64 (f 0), .int .i64 (f 1), .int .i64 (f 2), .int .i64 (f 3), .int .i64 (f 4), .int .i64 (f 5)]
theorem a6_get (f : Nat → Int) {k : Nat} (h : k < 6) : (a6 f)[k]? = some (.int .i64 (f k)) := by
  rcases lt6 h with rfl | rfl | rfl | rfl | rfl | rfl <;> rfl
/-- The sum, as far as item i. -/
def mixF (f g : Nat → Int) (i : Nat) (j : Nat) : Int := if j < i then f j + g j else f j
theorem a6_set (f g : Nat → Int) {i : Nat} (h : i < 6) : (a6 (mixF f g i)).setIfInBounds i (.int .i64 (f i + g i)) = a6 (mixF f g (i + 1)) := by
  rcases lt6 h with rfl | rfl | rfl | rfl | rfl | rfl <;> simp [a6, mixF]
theorem mix_at (f g : Nat → Int) (i : Nat) : mixF f g i i = f i := by simp [mixF]
theorem Tryd.infoVec : (Tryd.prog.info? 27).map (fun i => (i.zero, i.size, i.bytes)) = some (some (.agg #[.int .i64 0, .int .i64 0, .int .i64 0, .int .i64 0, .int .i64 0, .int .i64 0]), 6, 48) := by kernel_rfl
theorem Tryd.infoBeat : (Tryd.prog.info? 39).map (fun i => (i.zero, i.size, i.bytes)) = some (some (.agg #[.int .i64 0, .int .i64 0, .int .i64 0, .int .i64 0, .int .i64 0, .int .i64 0, .bool false]), 7, 56) := by kernel_rfl
theorem vec6_of {w : World} {base L : Nat} {e : TypeId} {b cap : Nat} {g : Nat → Nat → Int} (h : w.ownsRow base e 6 (.slice (some ⟨b, 0, none⟩) (L + 1) cap) (L + 1) (rowL (fun j => v6 (g j)) (L + 1))) {x i : Nat} (hx : x < L + 1) (hi : i < 6) : w.cell? ⟨b, x * 6 + i, none⟩ = some (.int .i64 (g x i)) := by
  have := World.ownsRow.cellAt h (x * 6 + i) (by omega)
  rw [this, rowL_get (c := 6) (fun _ => rfl) hi hx]
  rcases lt6 hi with rfl | rfl | rfl | rfl | rfl | rfl <;> rfl
theorem own_form0 {w : World} {base n : Nat} {e : TypeId} {v : Value} {xs : List Value} {size : Nat} (h : w.ownsRow base e size v (n + 1) xs) : ∃ b cap, v = .slice (some ⟨b, 0, none⟩) (n + 1) cap ∧ base ≤ b ∧ b < w.heap.size := by
  rcases h.2 with ⟨_, h0⟩ | ⟨g, cap, cur, rfl, hb, hh, _⟩
  · omega
  · exact ⟨g, cap, rfl, hb, (Array.getElem?_eq_some_iff.1 hh).1⟩
theorem grown_of_but {y : Nat} {a b : World} (h : But y y a b) : a.grownBy b (some y) := ⟨h.os, h.tape, h.output, h.size, fun k hk hne => h.block k hk (fun e => hne (by rw [e])) (fun e => hne (by rw [e]))⟩
theorem own_kept {w w' : World} {base n size : Nat} {e : TypeId} {v : Value} {xs : List Value} {row : Option Nat} (h : w.ownsRow base e size v n xs) (hg : w.grownBy w' row) (hne : ∀ b, v.ownBlock = some b → row ≠ some b) : w'.ownsRow base e size v n xs := by
  refine h.kept hg ?_
  cases hv : v.ownBlock with
  | none => exact Or.inl rfl
  | some b => exact Or.inr (fun e => hne b hv e.symm)
theorem pO_bd {a b c d e f : Int} : paO a b c d e f = true → (-48 ≤ a ∧ a ≤ 48) ∧ (-48 ≤ b ∧ b ≤ 48) ∧ (-48 ≤ c ∧ c ≤ 48) ∧ (-48 ≤ d ∧ d ≤ 48) ∧ (-48 ≤ e ∧ e ≤ 48) ∧ (-48 ≤ f ∧ f ≤ 48) := fun h => by
  unfold paO at h
  simp only [Bool.and_eq_true] at h
  obtain ⟨h1, h2, h3, h4, h5, h6⟩ := pV_of h.1
  exact ⟨wi_of h1, wi_of h2, wi_of h3, wi_of h4, wi_of h5, wi_of h6⟩
theorem pO6_bd {g : Nat → Int} (h : paO (g 0) (g 1) (g 2) (g 3) (g 4) (g 5) = true) {i : Nat} (hi : i < 6) : -48 ≤ g i ∧ g i ≤ 48 := by
  obtain ⟨h1, h2, h3, h4, h5, h6⟩ := pO_bd h
  rcases lt6 hi with rfl | rfl | rfl | rfl | rfl | rfl <;> assumption
theorem way_bd {fr : Nat → Nat} {g : Nat → Nat → Int} {k : Nat} (h : ∀ j, j < k → okS fr g j = true) {j : Nat} (hj : j ≤ k) {i : Nat} (hi : i < 6) : -48 ≤ wayF fr g j i ∧ wayF fr g j i ≤ 48 := by
  cases j with
  | zero => rw [wayF_zero]; omega
  | succ j =>
    have hh := h j (by omega)
    unfold okS pVg at hh
    simp only [Bool.and_eq_true] at hh
    obtain ⟨h1, h2, h3, h4, h5, h6⟩ := pV_of hh.2
    rcases lt6 hi with rfl | rfl | rfl | rfl | rfl | rfl
    · exact wi_of h1
    · exact wi_of h2
    · exact wi_of h3
    · exact wi_of h4
    · exact wi_of h5
    · exact wi_of h6
set_option maxRecDepth 100000 in
set_option maxHeartbeats 16000000 in
theorem list18_c (xs : List Int) (g : Nat → Nat → Int) (L : Nat) (hL : L ≤ 12) (Af Av : Option Addr) (capf capv : Nat) (w : World) (hf : IntsR w w.heap.size Af xs) (hxl : xs.length ≤ 9223372036854775807) (hv : VecsR w w.heap.size Av L g) :
    Calls Tryd.prog 8 #[.slice Af xs.length capf, .slice Av L capv] w (LisP (frK xs) g L w) := by
  obtain ⟨iv, hvi, hv0, hv1, hv2⟩ := info_parts Tryd.infoVec
  obtain ⟨ib, hbi, hb0, hb1, hb2⟩ := info_parts Tryd.infoBeat
  have HF := Lib.hid hf
  have HV := Lib.hid hv
  clear hf hv
  go_enter Tryd.func8, Tryd.ntmps8
  go_upto_region 2 with fail
  refine wp_letter ?_
  intro W1 hW1
  have B1 : Below w.heap.size w W1 := by rw [hW1]; (repeat (first | (with_reducible exact bl_refl _) | (with_reducible refine bl_drew ?_) | (with_reducible refine bl_alloc ?_ _) | (with_reducible refine bl_set' ?_ ?_; · (first | omega | (simp; done) | (simp; omega))) | (with_reducible refine bl_last (by assumption) ?_) | (with_reducible refine bl_drewN ?_ _)))
  have O1 : W1.ownsRow w.heap.size 27 6 (.slice (some ⟨w.heap.size, 0, none⟩) 1 1) 1 (rowL (fun j => v6 (wayF (frK xs) g j)) 1) := by
    rw [hW1]
    exact World.ownsRow_lit w _ 1 (Nat.le_refl _) (by unfold maxLen; omega) rfl
  have HO1 := Lib.hid O1
  have HB1 := Lib.hid B1
  clear hW1 O1 B1
  go_wp2
  go_loopw [7, 8, 9] (fun wv lv kv wr => ∃ k : Nat, k ≤ L ∧ kv = .int .i64 (k : Int) ∧ Hid (∀ j, j < k → okS (frK xs) g j = true) ∧ Hid (wr.ownsRow w.heap.size 27 6 wv (k + 1) (rowL (fun j => v6 (wayF (frK xs) g j)) (k + 1))) ∧
    Hid (wr.ownsRow w.heap.size 39 7 lv k (rowL (fun j => bt7 (btK (frK xs) g j)) k)) ∧ Hid (∀ b, lv.ownBlock = some b → wv.ownBlock ≠ some b) ∧ Hid (Below w.heap.size w wr)) (fun _ _ kv _ => L - (intOf kv).toNat)
  case atStart => exact ⟨0, by omega, rfl, fun j hj => absurd hj (by omega), HO1.out, World.ownsRow_nil _ _ _ _, fun b h => by simp [Value.ownBlock] at h, HB1.out⟩
  case round =>
    obtain ⟨k, hk, rfl, HOk, HOw, HOl, HNe, HB⟩ := hrel
    obtain ⟨bw, cw, rfl, hbw0, hbw1⟩ := own_form0 HOw.out
    by_cases hlt : k < L
    · have hkL : (k : Int) < L := by omega
      obtain ⟨bv, ov, rfl, hbv, hcv⟩ := HV.out (by omega)
      have hcg : ∀ i, i < 6 → wr.cell? ⟨bv, ov + k * 6 + i, none⟩ = some (.int .i64 (g k i)) := fun i hi => (HB.out.cell (p := ⟨bv, ov + k * 6 + i, none⟩) hbv).trans (hcv k hlt i hi)
      have HCG := Lib.hid hcg
      have zb : bv < wr.heap.size := by have := HB.out.size; omega
      have g0 := hcg 0 (by omega)
      have g1 := hcg 1 (by omega)
      have g2 := hcg 2 (by omega)
      have g3 := hcg 3 (by omega)
      have g4 := hcg 4 (by omega)
      have g5 := hcg 5 (by omega)
      simp only [Nat.add_zero] at g0
      have hP := fun w => Pair_c (g k 0) (g k 1) (g k 2) (g k 3) (g k 4) (g k 5) w
      have hpa : (okS (frK xs) g k = false ∧ ∃ K : Int, (K != 0) = true ∧ paV (g k 0) (g k 1) (g k 2) (g k 3) (g k 4) (g k 5) = .tuple #[.int .i64 0, .int .i64 0, .int .i64 K]) ∨
          (paO (g k 0) (g k 1) (g k 2) (g k 3) (g k 4) (g k 5) = true ∧ paV (g k 0) (g k 1) (g k 2) (g k 3) (g k 4) (g k 5) = .tuple #[.int .i64 (paU (g k 0) (g k 1) (g k 2) (g k 3) (g k 4) (g k 5) 6 : Int), .int .i64 (paD (g k 0) (g k 1) (g k 2) (g k 3) (g k 4) (g k 5) 6 : Int), .int .i64 0]) := by
        cases ho : paO (g k 0) (g k 1) (g k 2) (g k 3) (g k 4) (g k 5)
        · refine Or.inl ⟨by unfold okS; rw [ho]; rfl, paK (g k 0) (g k 1) (g k 2) (g k 3) (g k 4) (g k 5), ?_, ?_⟩
          · unfold paK
            rw [ho]
            cases pV (g k 0) (g k 1) (g k 2) (g k 3) (g k 4) (g k 5) 48 <;> rfl
          · simp [paV, ho]
        · exact Or.inr ⟨rfl, by simp [paV, paK, ho]⟩
      have HFr : Hid (frK xs k ≤ k) := Lib.hid (frK_le xs k)
      have hfr : (xs.length ≤ k ∧ frK xs k = 0) ∨ (∃ b o x, Af = some ⟨b, o, none⟩ ∧ b < w.heap.size ∧ k < xs.length ∧ wr.cell? ⟨b, o + k, none⟩ = some (.int .i64 x) ∧ ((¬ 0 < x ∧ frK xs k = 0) ∨ (0 < x ∧ x.tmod ((k : Int) + 1) = (frK xs k : Int)))) := by
        by_cases h : k < xs.length
        · obtain ⟨b, o, rfl, hb, hc⟩ := HF.out (by omega)
          have hx : xs[k]? = some (xs.getD k 0) := by rw [List.getD_eq_getElem?_getD, List.getElem?_eq_getElem h]; rfl
          refine Or.inr ⟨b, o, xs.getD k 0, rfl, hb, h, (HB.out.cell (p := ⟨b, o + k, none⟩) hb).trans (hc k _ hx), ?_⟩
          unfold frK
          by_cases h0 : 0 < xs.getD k 0
          · refine Or.inr ⟨h0, ?_⟩
            rw [if_pos h0, Int.tmod_eq_emod_of_nonneg (by omega)]
            have := Int.emod_nonneg (xs.getD k 0) (show (k : Int) + 1 ≠ 0 by omega)
            omega
          · exact Or.inl ⟨h0, by rw [if_neg h0]⟩
        · refine Or.inl ⟨by omega, ?_⟩
          unfold frK
          rw [List.getD_eq_getElem?_getD, List.getElem?_eq_none (by omega)]
          rfl
      clear hcg hcv
      generalize hFK : frK xs k = F at hfr HFr
      have w1k : IntKind.i64.wrap ((k : Int) + 1) = (k : Int) + 1 := by rw [IntKind.wrap_i64]; omega
      have hF12 := HFr.out
      rcases hpa with ⟨hno, K, hK, hpv⟩ | ⟨hpo, hpv⟩
      · rw [hpv] at hP
        have HP := Lib.hid hP
        have HNo := Lib.hid hno
        clear hP hpv hno
        rcases hfr with ⟨h1, rfl⟩ | ⟨b, o, x, rfl, hb, h1, hx, ⟨h2, rfl⟩ | ⟨h2, h3⟩⟩
        · have d1 : decide ((k : Int) < (xs.length : Int)) = false := decide_eq_false (by omega)
          go_wp2_with (go_at_call 48; ((with_reducible refine (HP.out _).mono ?_); rintro e w' ⟨rfl, hb⟩; obtain ⟨hz, hc, hf⟩ := bcl hb (by first | (simp; rfl) | rfl)))
          refine bodyPost_ret (v := .tuple #[.slice none 0 0, .slice none 0 0, .bool false]) (by simp only [results, Tryd.results8]; go_simp) rfl ⟨bl_trans HB.out hb, Or.inl ⟨⟨k, hlt, HNo.out⟩, rfl⟩⟩
        · have d1 : decide ((k : Int) < (xs.length : Int)) = true := decide_eq_true (by omega)
          have d2 : decide (0 < x) = false := decide_eq_false h2
          have zf : b < wr.heap.size := by have := HB.out.size; omega
          go_wp2_with (go_at_call 48; ((with_reducible refine (HP.out _).mono ?_); rintro e w' ⟨rfl, hb⟩; obtain ⟨hz, hc, hf⟩ := bcl hb (by first | (simp; rfl) | rfl)))
          refine bodyPost_ret (v := .tuple #[.slice none 0 0, .slice none 0 0, .bool false]) (by simp only [results, Tryd.results8]; go_simp) rfl ⟨bl_trans HB.out hb, Or.inl ⟨⟨k, hlt, HNo.out⟩, rfl⟩⟩
        · have d1 : decide ((k : Int) < (xs.length : Int)) = true := decide_eq_true (by omega)
          have d2 : decide (0 < x) = true := decide_eq_true h2
          have zf : b < wr.heap.size := by have := HB.out.size; omega
          have w2k : IntKind.i64.wrap (F : Int) = (F : Int) := by rw [IntKind.wrap_i64]; omega
          have hk0 : ¬ ((k : Int) + 1 = 0) := by omega
          go_wp2_with (go_at_call 48; ((with_reducible refine (HP.out _).mono ?_); rintro e w' ⟨rfl, hb⟩; obtain ⟨hz, hc, hf⟩ := bcl hb (by first | (simp; rfl) | rfl)))
          refine bodyPost_ret (v := .tuple #[.slice none 0 0, .slice none 0 0, .bool false]) (by simp only [results, Tryd.results8]; go_simp) rfl ⟨bl_trans HB.out hb, Or.inl ⟨⟨k, hlt, HNo.out⟩, rfl⟩⟩
      · rw [hpv] at hP
        have HP := Lib.hid hP
        have HPo := Lib.hid hpo
        clear hP hpv hpo
        have wf0 := vec6_of HOw.out (x := F) (i := 0) (by omega) (by omega)
        have wf1 := vec6_of HOw.out (x := F) (i := 1) (by omega) (by omega)
        have wf2 := vec6_of HOw.out (x := F) (i := 2) (by omega) (by omega)
        have wf3 := vec6_of HOw.out (x := F) (i := 3) (by omega) (by omega)
        have wf4 := vec6_of HOw.out (x := F) (i := 4) (by omega) (by omega)
        have wf5 := vec6_of HOw.out (x := F) (i := 5) (by omega) (by omega)
        simp only [Nat.add_zero] at wf0
        have hFk : (F : Int) < (k : Int) + 1 := by omega
        rcases hfr with ⟨h1, rfl⟩ | ⟨b, o, x, rfl, hbl, h1, hx, ⟨h2, rfl⟩ | ⟨h2, h3⟩⟩
        · have d1 : decide ((k : Int) < (xs.length : Int)) = false := decide_eq_false (by omega)
          simp only [Nat.zero_mul, Nat.zero_add] at wf0 wf1 wf2 wf3 wf4 wf5
          go_upto_region 13 with (go_at_call 48; ((with_reducible refine (HP.out _).mono ?_); rintro e w' ⟨rfl, hb⟩; obtain ⟨hz, hc, hf⟩ := bcl hb (by first | (simp; rfl) | rfl)))
          refine wp_letter ?_
          intro W2 hW2
          have hbw' := hb
          have B2 : Below wr.heap.size wr W2 := by rw [hW2]; exact bl_alloc hb _
          have z2 : W2.heap.size = w'.heap.size + 1 := by rw [hW2]; simp
          have z3 := hb.size
          have V2 : Blk W2 w'.heap.size 27 (a6 (mixF (wayF (frK xs) g 0) (g k) 0)) := by rw [hW2]; exact Blk.new _ _ _
          generalize w'.heap.size = nb at *
          have HV2 := Lib.hid V2
          have HB2 := Lib.hid B2
          have hbd : ∀ i, i < 6 → (-48 ≤ g k i ∧ g k i ≤ 48) := fun i hi => pO6_bd HPo.out hi
          have hbw : ∀ i, i < 6 → (-48 ≤ wayF (frK xs) g 0 i ∧ wayF (frK xs) g 0 i ≤ 48) := fun i hi => way_bd (fun j hj => HOk.out j (by omega)) (j := 0) (by omega) hi
          have hnx : a6 (mixF (wayF (frK xs) g 0) (g k) 6) = a6 (wayF (frK xs) g (k + 1)) := by
            have e := wayF_succ (frK_le xs) g k
            rw [hFK] at e
            simp [a6, mixF, e]
          have HBd := Lib.hid hbd
          have HBw := Lib.hid hbw
          have HNX := Lib.hid hnx
          have HLt := Lib.hid (fun b h => (HOl.out.lt b h))
          have hOw2 := own_below HOw.out (B2)
          have hOl2 := own_below HOl.out (B2)
          have HOw2 := Lib.hid hOw2
          have HOl2 := Lib.hid hOl2
          have hcg2 : ∀ i, i < 6 → W2.cell? ⟨bv, ov + k * 6 + i, none⟩ = some (.int .i64 (g k i)) := fun i hi => (B2.cell (p := ⟨bv, ov + k * 6 + i, none⟩) zb).trans (HCG.out i hi)
          have HC2 := Lib.hid hcg2
          have HBx := Lib.hid (bl_trans HB.out B2)
          have zbn : bv < nb := by omega
          have zwn : wr.heap.size ≤ nb := z3
          clear hW2 V2 B2 hbd hbw hnx hOw2 hOl2 hcg2 wf0 wf1 wf2 wf3 wf4 wf5 g0 g1 g2 g3 g4 g5 hb hz hc hf d1 HOw HOl HB HCG hbw'
          generalize wayF (frK xs) g 0 = fa at *
          go_wp2
          obtain ⟨wo, rfl⟩ : ∃ x : World, x = wr := ⟨_, rfl⟩
          go_loopw [15] (fun iv wr => ∃ i : Nat, i ≤ 6 ∧ iv = .int .i64 (i : Int) ∧ Hid (But nb nb W2 wr) ∧ Hid (Blk wr nb 27 (a6 (mixF fa (g k) i)))) (fun iv _ => 6 - (intOf iv).toNat)
          case atStart => exact ⟨0, by omega, rfl, But.refl _, HV2.out⟩
          case round =>
            obtain ⟨i, hi, rfl, HBi, HVi⟩ := hrel
            by_cases hi6 : i < 6
            · have hi6' : (i : Int) < 6 := by omega
              have c1 := (HVi.out.cell i).trans (a6_get _ hi6)
              rw [mix_at] at c1
              have c2 := (HBi.out.cell (p := ⟨bv, ov + k * 6 + i, none⟩) (show bv < _ by omega) (show bv ≠ _ by omega) (show bv ≠ _ by omega)).trans (HC2.out i hi6)
              have y1 := HBd.out i hi6
              have y2 := HBw.out i hi6
              have q1 : IntKind.i64.wrap (fa i + g k i) = fa i + g k i := by rw [IntKind.wrap_i64]; omega
              have f1 := HVi.out.frozen i
              have l1 := HVi.out.lt
              have l2 : bv < wr.heap.size := by have := HBi.out.size; omega
              have HST := Lib.hid (a6_set fa (g k) hi6)
              clear y1 y2
              generalize g k i = gki at *
              generalize fa i = fai at *
              go_wp2
              (refine wp_region_bl [0,1,2,3,4,5,6,7,8,9,10,11] [12] (by kernel_rfl) (by kernel_rfl) (by rfl) ?_
               simp only [pickI, pick, List.getElem?_cons_succ, List.getElem?_cons_zero]
               iterate 12 (first
                 | (refine head_val (by rfl) (by first | exact wanted_free rfl | rfl) ?_
                    apply Exists.intro
                    refine ⟨fun X hX => ?_, ?_⟩
                    · (obtain ⟨qz, qc, qf⟩ := bcl hX.out (by first | (simp; rfl) | rfl)
                       go_simp
                       first | done | rfl | exact ⟨rfl, rfl⟩)
                    simp only [Act.put, List.setIfInBounds_toArray, List.set_cons_zero, List.set_cons_succ])
                 | (refine head_pass (by rfl) ?_
                    simp only [Act.put, List.setIfInBounds_toArray, List.set_cons_zero, List.set_cons_succ]))
               refine head_nil ?_
               intro w' hw'
               have hb := hw'.out
               clear hw'
               obtain ⟨hz, hc, hf⟩ := bcl hb (by first | (simp; rfl) | rfl))
              have hb3 := Lib.hid hb
              clear hb
              go_wp2
              go_roundw
              case rel => exact ⟨i + 1, by omega, by go_num, (HBi.out.trans (But.of_below hb3.out)).setX i _, by rw [← HST.out]; exact (HVi.out.below hb3.out l1).set_ i _⟩
              case measure => simp [intOf]; omega
            · obtain rfl : i = 6 := by omega
              have V6 : Blk wr nb 27 (a6 (wayF (frK xs) g (k + 1))) := by rw [← HNX.out]; exact HVi.out
              have d0 := V6.cell 0
              have d1 := V6.cell 1
              have d2 := V6.cell 2
              have d3 := V6.cell 3
              have d4 := V6.cell 4
              have d5 := V6.cell 5
              simp only [a6, List.getElem?_toArray, List.getElem?_cons_zero, List.getElem?_cons_succ] at d0 d1 d2 d3 d4 d5
              have l1 := V6.lt
              have hI := fun w => PInt_c (wayF (frK xs) g (k + 1) 0) (wayF (frK xs) g (k + 1) 1) (wayF (frK xs) g (k + 1) 2) (wayF (frK xs) g (k + 1) 3) (wayF (frK xs) g (k + 1) 4) (wayF (frK xs) g (k + 1) 5) w
              have hpe : pV (wayF (frK xs) g (k + 1) 0) (wayF (frK xs) g (k + 1) 1) (wayF (frK xs) g (k + 1) 2) (wayF (frK xs) g (k + 1) 3) (wayF (frK xs) g (k + 1) 4) (wayF (frK xs) g (k + 1) 5) 48 = pVg (wayF (frK xs) g (k + 1)) 48 := rfl
              rw [hpe] at hI
              have HV6 := Lib.hid V6
              clear hpe V6 HVi
              have hok : okS (frK xs) g k = pVg (wayF (frK xs) g (k + 1)) 48 := by unfold okS; rw [HPo.out]; rfl
              have HBW : Hid (Below wo.heap.size W2 wr) := Lib.hid (HBi.out.below (by omega) zwn zwn)
              cases hq : pVg (wayF (frK xs) g (k + 1)) 48
              · rw [hq] at hI hok
                have HI := Lib.hid hI
                have HNo := Lib.hid hok
                clear hI hok hq
                go_wp2_with (go_at_call 15; ((with_reducible refine (HI.out _).mono ?_); rintro e w' ⟨rfl, hb⟩; obtain ⟨hz, hc, hf⟩ := bcl hb (by first | (simp; rfl) | rfl)))
                refine bodyPost_ret (v := .tuple #[.slice none 0 0, .slice none 0 0, .bool false]) (by simp only [results, Tryd.results8]; go_simp) rfl ⟨bl_trans (HBx.out.trans (HBW.out.mono (by have := HBx.out.size; omega))) hb, Or.inl ⟨⟨k, hlt, HNo.out⟩, rfl⟩⟩
              · rw [hq] at hI hok
                have HI := Lib.hid hI
                have HYes := Lib.hid hok
                clear hI hok hq
                go_upto_region 19 with (go_at_call 15; ((with_reducible refine (HI.out _).mono ?_); rintro e w' ⟨rfl, hb⟩; obtain ⟨hz, hc, hf⟩ := bcl hb (by first | (simp; rfl) | rfl)))
                refine wp_letter ?_
                intro W5 hW5
                have B5 : Below wr.heap.size wr W5 := by rw [hW5]; exact hb
                clear hW5 hb hz hc hf d0 d1 d2 d3 d4 d5
                have hO1 := own_below (HOw2.out.kept (grown_of_but HBi.out) (Or.inr (by show some bw ≠ some nb; intro e; have := Option.some.inj e; omega))) B5
                have hO2 := own_below (own_kept HOl2.out (grown_of_but HBi.out) (fun b h e => by have := (HLt.out b h).2; have := Option.some.inj e; omega)) B5
                have V5 := HV6.out.below B5 l1
                have d0 := V5.cell 0
                have d1 := V5.cell 1
                have d2 := V5.cell 2
                have d3 := V5.cell 3
                have d4 := V5.cell 4
                have d5 := V5.cell 5
                simp only [a6, List.getElem?_toArray, List.getElem?_cons_zero, List.getElem?_cons_succ] at d0 d1 d2 d3 d4 d5
                have l5 := V5.lt
                have B6 : Below w.heap.size w W5 := (HBx.out.trans (HBW.out.mono (by omega))).trans (B5.mono (by have := HBx.out.size; have := HBW.out.size; omega))
                have z6 := B6.size
                have HO1 := Lib.hid hO1
                have HO2 := Lib.hid hO2
                have HB6 := Lib.hid B6
                have hbt : bt7 (btK (frK xs) g k) = [.int .i64 (0 : Int), .int .i64 ((k : Int) + 1), .int .i64 (paU (g k 0) (g k 1) (g k 2) (g k 3) (g k 4) (g k 5) 6 : Int), .int .i64 (paD (g k 0) (g k 1) (g k 2) (g k 3) (g k 4) (g k 5) 6 : Int), .int .i64 0, .int .i64 1, .bool true] := by
                  simp [bt7, btK, hFK]
                have HBt := Lib.hid hbt
                have hk12 : k ≤ 12 := by omega
                have HBi5 : Hid (wo.heap.size ≤ W5.heap.size) := Lib.hid (by have := HBx.out.size; have := HBW.out.size; have := z6; omega)
                clear hO1 hO2 V5 B6 B5 hbt HV6 HOw2 HOl2 HBx HBW HC2 HBi
                go_wp2_with (first | (at_builtin; refine wpList_append_lies _ rfl _ _ 23 rfl w.heap.size 27 iv (.agg #[.int .i64 0, .int .i64 0, .int .i64 0, .int .i64 0, .int .i64 0, .int .i64 0]) 6 48 Tryd.underlying23 hvi hv0 hv1 hv2 rfl (by decide) _ _ _ rfl (HO1.out.alloc _) ⟨W5.heap.size, 0, none⟩ 1 1 (v6 (wayF (frK xs) g (k + 1))) rfl rfl (World.news_of_block (World.alloc_heap_new W5 _)) (fun u hu => by simp [v6] at hu; rcases hu with rfl | rfl | rfl | rfl | rfl | rfl <;> rfl) (by omega) (by unfold maxLen; omega) (by omega) (by simp; omega) _ rfl ?_; intro n1 c1 w1 hown1 hg1 hl1 hlt1; have hO3 := own_kept (HO2.out.alloc _) hg1 HNe.out; have HO3 := Lib.hid hO3; have HO4 := Lib.hid hown1; have HG1 := Lib.hid hg1; have HL1 := Lib.hid hl1; have hz1 := hg1.size; simp only [World.size_alloc] at hz1; clear hO3 hown1 hg1 hl1) | (at_builtin; refine wpList_append_lies _ rfl _ _ 29 rfl w.heap.size 39 ib (.agg #[.int .i64 0, .int .i64 0, .int .i64 0, .int .i64 0, .int .i64 0, .int .i64 0, .bool false]) 7 56 Tryd.underlying29 hbi hb0 hb1 hb2 rfl (by decide) _ _ _ rfl (HO3.out.alloc _) ⟨w1.heap.size, 0, none⟩ 1 1 [.int .i64 (0 : Int), .int .i64 ((k : Int) + 1), .int .i64 (paU (g k 0) (g k 1) (g k 2) (g k 3) (g k 4) (g k 5) 6 : Int), .int .i64 (paD (g k 0) (g k 1) (g k 2) (g k 3) (g k 4) (g k 5) 6 : Int), .int .i64 0, .int .i64 1, .bool true] rfl rfl (World.news_of_block (World.alloc_heap_new w1 _)) (fun u hu => by simp at hu; rcases hu with rfl | rfl | rfl | rfl | rfl | rfl | rfl <;> rfl) (by omega) (by unfold maxLen; omega) (by omega) (by simp; omega) _ rfl ?_; intro n2 c2 w2 hown2 hg2 hl2 hlt2; have HO5 := Lib.hid hown2; have HG2 := Lib.hid hg2; have HL2 := Lib.hid hl2; have hz2 := hg2.size; simp only [World.size_alloc] at hz2; clear hown2 hg2 hl2))
                have hx : u8.ownBlock ≠ some n1 := fun h => by
                  rcases HL1.out with h1 | h1
                  · exact HNe.out n1 h h1
                  · have := (HLt.out n1 h).2
                    have := HBi5.out
                    simp only [World.size_alloc] at h1
                    omega
                go_roundw
                case rel =>
                  refine ⟨k + 1, by omega, by go_num, fun j hj => ?_, ?_, ?_, fun b h e => ?_, ?_⟩
                  · by_cases e : j = k
                    · rw [e]; exact HYes.out
                    · exact HOk.out j (by omega)
                  · rw [rowL_succ]
                    exact own_kept (HO4.out.alloc _) HG2.out (fun b h e => hx (e.trans h.symm))
                  · rw [rowL_succ, HBt.out]
                    exact HO5.out
                  · have h1 : n2 = b := Option.some.inj h
                    have h2 : n1 = b := Option.some.inj e
                    rcases HL2.out with h3 | h3
                    · exact hx (h3.trans (by rw [h1, h2]))
                    · simp only [World.size_alloc] at h3
                      omega
                  · have b1 : Below w.heap.size w w1 := (bl_alloc HB6.out _).grown HG1.out (by simp; omega) (fun b h => by have : bw = b := Option.some.inj h; omega)
                    exact (bl_alloc b1 _).grown HG2.out (by simp; omega) (fun b h => (HLt.out b h).1)
                case measure => simp [intOf]; omega
        · have d1 : decide ((k : Int) < (xs.length : Int)) = true := decide_eq_true (by omega)
          have d2 : decide (0 < x) = false := decide_eq_false h2
          simp only [Nat.zero_mul, Nat.zero_add] at wf0 wf1 wf2 wf3 wf4 wf5
          have zf : b < wr.heap.size := by have := HB.out.size; omega
          go_upto_region 13 with (go_at_call 48; ((with_reducible refine (HP.out _).mono ?_); rintro e w' ⟨rfl, hb⟩; obtain ⟨hz, hc, hf⟩ := bcl hb (by first | (simp; rfl) | rfl)))
          refine wp_letter ?_
          intro W2 hW2
          have hbw' := hb
          have B2 : Below wr.heap.size wr W2 := by rw [hW2]; exact bl_alloc hb _
          have z2 : W2.heap.size = w'.heap.size + 1 := by rw [hW2]; simp
          have z3 := hb.size
          have V2 : Blk W2 w'.heap.size 27 (a6 (mixF (wayF (frK xs) g 0) (g k) 0)) := by rw [hW2]; exact Blk.new _ _ _
          generalize w'.heap.size = nb at *
          have HV2 := Lib.hid V2
          have HB2 := Lib.hid B2
          have hbd : ∀ i, i < 6 → (-48 ≤ g k i ∧ g k i ≤ 48) := fun i hi => pO6_bd HPo.out hi
          have hbw : ∀ i, i < 6 → (-48 ≤ wayF (frK xs) g 0 i ∧ wayF (frK xs) g 0 i ≤ 48) := fun i hi => way_bd (fun j hj => HOk.out j (by omega)) (j := 0) (by omega) hi
          have hnx : a6 (mixF (wayF (frK xs) g 0) (g k) 6) = a6 (wayF (frK xs) g (k + 1)) := by
            have e := wayF_succ (frK_le xs) g k
            rw [hFK] at e
            simp [a6, mixF, e]
          have HBd := Lib.hid hbd
          have HBw := Lib.hid hbw
          have HNX := Lib.hid hnx
          have HLt := Lib.hid (fun b h => (HOl.out.lt b h))
          have hOw2 := own_below HOw.out (B2)
          have hOl2 := own_below HOl.out (B2)
          have HOw2 := Lib.hid hOw2
          have HOl2 := Lib.hid hOl2
          have hcg2 : ∀ i, i < 6 → W2.cell? ⟨bv, ov + k * 6 + i, none⟩ = some (.int .i64 (g k i)) := fun i hi => (B2.cell (p := ⟨bv, ov + k * 6 + i, none⟩) zb).trans (HCG.out i hi)
          have HC2 := Lib.hid hcg2
          have HBx := Lib.hid (bl_trans HB.out B2)
          have zbn : bv < nb := by omega
          have zwn : wr.heap.size ≤ nb := z3
          clear hW2 V2 B2 hbd hbw hnx hOw2 hOl2 hcg2 wf0 wf1 wf2 wf3 wf4 wf5 g0 g1 g2 g3 g4 g5 hb hz hc hf d1 HOw HOl HB HCG hbw'
          generalize wayF (frK xs) g 0 = fa at *
          go_wp2
          obtain ⟨wo, rfl⟩ : ∃ x : World, x = wr := ⟨_, rfl⟩
          go_loopw [15] (fun iv wr => ∃ i : Nat, i ≤ 6 ∧ iv = .int .i64 (i : Int) ∧ Hid (But nb nb W2 wr) ∧ Hid (Blk wr nb 27 (a6 (mixF fa (g k) i)))) (fun iv _ => 6 - (intOf iv).toNat)
          case atStart => exact ⟨0, by omega, rfl, But.refl _, HV2.out⟩
          case round =>
            obtain ⟨i, hi, rfl, HBi, HVi⟩ := hrel
            by_cases hi6 : i < 6
            · have hi6' : (i : Int) < 6 := by omega
              have c1 := (HVi.out.cell i).trans (a6_get _ hi6)
              rw [mix_at] at c1
              have c2 := (HBi.out.cell (p := ⟨bv, ov + k * 6 + i, none⟩) (show bv < _ by omega) (show bv ≠ _ by omega) (show bv ≠ _ by omega)).trans (HC2.out i hi6)
              have y1 := HBd.out i hi6
              have y2 := HBw.out i hi6
              have q1 : IntKind.i64.wrap (fa i + g k i) = fa i + g k i := by rw [IntKind.wrap_i64]; omega
              have f1 := HVi.out.frozen i
              have l1 := HVi.out.lt
              have l2 : bv < wr.heap.size := by have := HBi.out.size; omega
              have HST := Lib.hid (a6_set fa (g k) hi6)
              clear y1 y2
              generalize g k i = gki at *
              generalize fa i = fai at *
              go_wp2
              (refine wp_region_bl [0,1,2,3,4,5,6,7,8,9,10,11] [12] (by kernel_rfl) (by kernel_rfl) (by rfl) ?_
               simp only [pickI, pick, List.getElem?_cons_succ, List.getElem?_cons_zero]
               iterate 12 (first
                 | (refine head_val (by rfl) (by first | exact wanted_free rfl | rfl) ?_
                    apply Exists.intro
                    refine ⟨fun X hX => ?_, ?_⟩
                    · (obtain ⟨qz, qc, qf⟩ := bcl hX.out (by first | (simp; rfl) | rfl)
                       go_simp
                       first | done | rfl | exact ⟨rfl, rfl⟩)
                    simp only [Act.put, List.setIfInBounds_toArray, List.set_cons_zero, List.set_cons_succ])
                 | (refine head_pass (by rfl) ?_
                    simp only [Act.put, List.setIfInBounds_toArray, List.set_cons_zero, List.set_cons_succ]))
               refine head_nil ?_
               intro w' hw'
               have hb := hw'.out
               clear hw'
               obtain ⟨hz, hc, hf⟩ := bcl hb (by first | (simp; rfl) | rfl))
              have hb3 := Lib.hid hb
              clear hb
              go_wp2
              go_roundw
              case rel => exact ⟨i + 1, by omega, by go_num, (HBi.out.trans (But.of_below hb3.out)).setX i _, by rw [← HST.out]; exact (HVi.out.below hb3.out l1).set_ i _⟩
              case measure => simp [intOf]; omega
            · obtain rfl : i = 6 := by omega
              have V6 : Blk wr nb 27 (a6 (wayF (frK xs) g (k + 1))) := by rw [← HNX.out]; exact HVi.out
              have d0 := V6.cell 0
              have d1 := V6.cell 1
              have d2 := V6.cell 2
              have d3 := V6.cell 3
              have d4 := V6.cell 4
              have d5 := V6.cell 5
              simp only [a6, List.getElem?_toArray, List.getElem?_cons_zero, List.getElem?_cons_succ] at d0 d1 d2 d3 d4 d5
              have l1 := V6.lt
              have hI := fun w => PInt_c (wayF (frK xs) g (k + 1) 0) (wayF (frK xs) g (k + 1) 1) (wayF (frK xs) g (k + 1) 2) (wayF (frK xs) g (k + 1) 3) (wayF (frK xs) g (k + 1) 4) (wayF (frK xs) g (k + 1) 5) w
              have hpe : pV (wayF (frK xs) g (k + 1) 0) (wayF (frK xs) g (k + 1) 1) (wayF (frK xs) g (k + 1) 2) (wayF (frK xs) g (k + 1) 3) (wayF (frK xs) g (k + 1) 4) (wayF (frK xs) g (k + 1) 5) 48 = pVg (wayF (frK xs) g (k + 1)) 48 := rfl
              rw [hpe] at hI
              have HV6 := Lib.hid V6
              clear hpe V6 HVi
              have hok : okS (frK xs) g k = pVg (wayF (frK xs) g (k + 1)) 48 := by unfold okS; rw [HPo.out]; rfl
              have HBW : Hid (Below wo.heap.size W2 wr) := Lib.hid (HBi.out.below (by omega) zwn zwn)
              cases hq : pVg (wayF (frK xs) g (k + 1)) 48
              · rw [hq] at hI hok
                have HI := Lib.hid hI
                have HNo := Lib.hid hok
                clear hI hok hq
                go_wp2_with (go_at_call 15; ((with_reducible refine (HI.out _).mono ?_); rintro e w' ⟨rfl, hb⟩; obtain ⟨hz, hc, hf⟩ := bcl hb (by first | (simp; rfl) | rfl)))
                refine bodyPost_ret (v := .tuple #[.slice none 0 0, .slice none 0 0, .bool false]) (by simp only [results, Tryd.results8]; go_simp) rfl ⟨bl_trans (HBx.out.trans (HBW.out.mono (by have := HBx.out.size; omega))) hb, Or.inl ⟨⟨k, hlt, HNo.out⟩, rfl⟩⟩
              · rw [hq] at hI hok
                have HI := Lib.hid hI
                have HYes := Lib.hid hok
                clear hI hok hq
                go_upto_region 19 with (go_at_call 15; ((with_reducible refine (HI.out _).mono ?_); rintro e w' ⟨rfl, hb⟩; obtain ⟨hz, hc, hf⟩ := bcl hb (by first | (simp; rfl) | rfl)))
                refine wp_letter ?_
                intro W5 hW5
                have B5 : Below wr.heap.size wr W5 := by rw [hW5]; exact hb
                clear hW5 hb hz hc hf d0 d1 d2 d3 d4 d5
                have hO1 := own_below (HOw2.out.kept (grown_of_but HBi.out) (Or.inr (by show some bw ≠ some nb; intro e; have := Option.some.inj e; omega))) B5
                have hO2 := own_below (own_kept HOl2.out (grown_of_but HBi.out) (fun b h e => by have := (HLt.out b h).2; have := Option.some.inj e; omega)) B5
                have V5 := HV6.out.below B5 l1
                have d0 := V5.cell 0
                have d1 := V5.cell 1
                have d2 := V5.cell 2
                have d3 := V5.cell 3
                have d4 := V5.cell 4
                have d5 := V5.cell 5
                simp only [a6, List.getElem?_toArray, List.getElem?_cons_zero, List.getElem?_cons_succ] at d0 d1 d2 d3 d4 d5
                have l5 := V5.lt
                have B6 : Below w.heap.size w W5 := (HBx.out.trans (HBW.out.mono (by omega))).trans (B5.mono (by have := HBx.out.size; have := HBW.out.size; omega))
                have z6 := B6.size
                have HO1 := Lib.hid hO1
                have HO2 := Lib.hid hO2
                have HB6 := Lib.hid B6
                have hbt : bt7 (btK (frK xs) g k) = [.int .i64 (0 : Int), .int .i64 ((k : Int) + 1), .int .i64 (paU (g k 0) (g k 1) (g k 2) (g k 3) (g k 4) (g k 5) 6 : Int), .int .i64 (paD (g k 0) (g k 1) (g k 2) (g k 3) (g k 4) (g k 5) 6 : Int), .int .i64 0, .int .i64 1, .bool true] := by
                  simp [bt7, btK, hFK]
                have HBt := Lib.hid hbt
                have hk12 : k ≤ 12 := by omega
                have HBi5 : Hid (wo.heap.size ≤ W5.heap.size) := Lib.hid (by have := HBx.out.size; have := HBW.out.size; have := z6; omega)
                clear hO1 hO2 V5 B6 B5 hbt HV6 HOw2 HOl2 HBx HBW HC2 HBi
                go_wp2_with (first | (at_builtin; refine wpList_append_lies _ rfl _ _ 23 rfl w.heap.size 27 iv (.agg #[.int .i64 0, .int .i64 0, .int .i64 0, .int .i64 0, .int .i64 0, .int .i64 0]) 6 48 Tryd.underlying23 hvi hv0 hv1 hv2 rfl (by decide) _ _ _ rfl (HO1.out.alloc _) ⟨W5.heap.size, 0, none⟩ 1 1 (v6 (wayF (frK xs) g (k + 1))) rfl rfl (World.news_of_block (World.alloc_heap_new W5 _)) (fun u hu => by simp [v6] at hu; rcases hu with rfl | rfl | rfl | rfl | rfl | rfl <;> rfl) (by omega) (by unfold maxLen; omega) (by omega) (by simp; omega) _ rfl ?_; intro n1 c1 w1 hown1 hg1 hl1 hlt1; have hO3 := own_kept (HO2.out.alloc _) hg1 HNe.out; have HO3 := Lib.hid hO3; have HO4 := Lib.hid hown1; have HG1 := Lib.hid hg1; have HL1 := Lib.hid hl1; have hz1 := hg1.size; simp only [World.size_alloc] at hz1; clear hO3 hown1 hg1 hl1) | (at_builtin; refine wpList_append_lies _ rfl _ _ 29 rfl w.heap.size 39 ib (.agg #[.int .i64 0, .int .i64 0, .int .i64 0, .int .i64 0, .int .i64 0, .int .i64 0, .bool false]) 7 56 Tryd.underlying29 hbi hb0 hb1 hb2 rfl (by decide) _ _ _ rfl (HO3.out.alloc _) ⟨w1.heap.size, 0, none⟩ 1 1 [.int .i64 (0 : Int), .int .i64 ((k : Int) + 1), .int .i64 (paU (g k 0) (g k 1) (g k 2) (g k 3) (g k 4) (g k 5) 6 : Int), .int .i64 (paD (g k 0) (g k 1) (g k 2) (g k 3) (g k 4) (g k 5) 6 : Int), .int .i64 0, .int .i64 1, .bool true] rfl rfl (World.news_of_block (World.alloc_heap_new w1 _)) (fun u hu => by simp at hu; rcases hu with rfl | rfl | rfl | rfl | rfl | rfl | rfl <;> rfl) (by omega) (by unfold maxLen; omega) (by omega) (by simp; omega) _ rfl ?_; intro n2 c2 w2 hown2 hg2 hl2 hlt2; have HO5 := Lib.hid hown2; have HG2 := Lib.hid hg2; have HL2 := Lib.hid hl2; have hz2 := hg2.size; simp only [World.size_alloc] at hz2; clear hown2 hg2 hl2))
                have hx : u8.ownBlock ≠ some n1 := fun h => by
                  rcases HL1.out with h1 | h1
                  · exact HNe.out n1 h h1
                  · have := (HLt.out n1 h).2
                    have := HBi5.out
                    simp only [World.size_alloc] at h1
                    omega
                go_roundw
                case rel =>
                  refine ⟨k + 1, by omega, by go_num, fun j hj => ?_, ?_, ?_, fun b h e => ?_, ?_⟩
                  · by_cases e : j = k
                    · rw [e]; exact HYes.out
                    · exact HOk.out j (by omega)
                  · rw [rowL_succ]
                    exact own_kept (HO4.out.alloc _) HG2.out (fun b h e => hx (e.trans h.symm))
                  · rw [rowL_succ, HBt.out]
                    exact HO5.out
                  · have h1 : n2 = b := Option.some.inj h
                    have h2 : n1 = b := Option.some.inj e
                    rcases HL2.out with h3 | h3
                    · exact hx (h3.trans (by rw [h1, h2]))
                    · simp only [World.size_alloc] at h3
                      omega
                  · have b1 : Below w.heap.size w w1 := (bl_alloc HB6.out _).grown HG1.out (by simp; omega) (fun b h => by have : bw = b := Option.some.inj h; omega)
                    exact (bl_alloc b1 _).grown HG2.out (by simp; omega) (fun b h => (HLt.out b h).1)
                case measure => simp [intOf]; omega
        · have d1 : decide ((k : Int) < (xs.length : Int)) = true := decide_eq_true (by omega)
          have d2 : decide (0 < x) = true := decide_eq_true h2
          have zf : b < wr.heap.size := by have := HB.out.size; omega
          have w2k : IntKind.i64.wrap (F : Int) = (F : Int) := by rw [IntKind.wrap_i64]; omega
          have hk0 : ¬ ((k : Int) + 1 = 0) := by omega
          go_upto_region 13 with (go_at_call 48; ((with_reducible refine (HP.out _).mono ?_); rintro e w' ⟨rfl, hb⟩; obtain ⟨hz, hc, hf⟩ := bcl hb (by first | (simp; rfl) | rfl)))
          refine wp_letter ?_
          intro W2 hW2
          have hbw' := hb
          have B2 : Below wr.heap.size wr W2 := by rw [hW2]; exact bl_alloc hb _
          have z2 : W2.heap.size = w'.heap.size + 1 := by rw [hW2]; simp
          have z3 := hb.size
          have V2 : Blk W2 w'.heap.size 27 (a6 (mixF (wayF (frK xs) g F) (g k) 0)) := by rw [hW2]; exact Blk.new _ _ _
          generalize w'.heap.size = nb at *
          have HV2 := Lib.hid V2
          have HB2 := Lib.hid B2
          have hbd : ∀ i, i < 6 → (-48 ≤ g k i ∧ g k i ≤ 48) := fun i hi => pO6_bd HPo.out hi
          have hbw : ∀ i, i < 6 → (-48 ≤ wayF (frK xs) g F i ∧ wayF (frK xs) g F i ≤ 48) := fun i hi => way_bd (fun j hj => HOk.out j (by omega)) (j := F) (by omega) hi
          have hnx : a6 (mixF (wayF (frK xs) g F) (g k) 6) = a6 (wayF (frK xs) g (k + 1)) := by
            have e := wayF_succ (frK_le xs) g k
            rw [hFK] at e
            simp [a6, mixF, e]
          have HBd := Lib.hid hbd
          have HBw := Lib.hid hbw
          have HNX := Lib.hid hnx
          have HLt := Lib.hid (fun b h => (HOl.out.lt b h))
          have hOw2 := own_below HOw.out (B2)
          have hOl2 := own_below HOl.out (B2)
          have HOw2 := Lib.hid hOw2
          have HOl2 := Lib.hid hOl2
          have hcg2 : ∀ i, i < 6 → W2.cell? ⟨bv, ov + k * 6 + i, none⟩ = some (.int .i64 (g k i)) := fun i hi => (B2.cell (p := ⟨bv, ov + k * 6 + i, none⟩) zb).trans (HCG.out i hi)
          have HC2 := Lib.hid hcg2
          have HBx := Lib.hid (bl_trans HB.out B2)
          have zbn : bv < nb := by omega
          have zwn : wr.heap.size ≤ nb := z3
          clear hW2 V2 B2 hbd hbw hnx hOw2 hOl2 hcg2 wf0 wf1 wf2 wf3 wf4 wf5 g0 g1 g2 g3 g4 g5 hb hz hc hf d1 HOw HOl HB HCG hbw'
          generalize wayF (frK xs) g F = fa at *
          go_wp2
          obtain ⟨wo, rfl⟩ : ∃ x : World, x = wr := ⟨_, rfl⟩
          go_loopw [15] (fun iv wr => ∃ i : Nat, i ≤ 6 ∧ iv = .int .i64 (i : Int) ∧ Hid (But nb nb W2 wr) ∧ Hid (Blk wr nb 27 (a6 (mixF fa (g k) i)))) (fun iv _ => 6 - (intOf iv).toNat)
          case atStart => exact ⟨0, by omega, rfl, But.refl _, HV2.out⟩
          case round =>
            obtain ⟨i, hi, rfl, HBi, HVi⟩ := hrel
            by_cases hi6 : i < 6
            · have hi6' : (i : Int) < 6 := by omega
              have c1 := (HVi.out.cell i).trans (a6_get _ hi6)
              rw [mix_at] at c1
              have c2 := (HBi.out.cell (p := ⟨bv, ov + k * 6 + i, none⟩) (show bv < _ by omega) (show bv ≠ _ by omega) (show bv ≠ _ by omega)).trans (HC2.out i hi6)
              have y1 := HBd.out i hi6
              have y2 := HBw.out i hi6
              have q1 : IntKind.i64.wrap (fa i + g k i) = fa i + g k i := by rw [IntKind.wrap_i64]; omega
              have f1 := HVi.out.frozen i
              have l1 := HVi.out.lt
              have l2 : bv < wr.heap.size := by have := HBi.out.size; omega
              have HST := Lib.hid (a6_set fa (g k) hi6)
              clear y1 y2
              generalize g k i = gki at *
              generalize fa i = fai at *
              go_wp2
              (refine wp_region_bl [0,1,2,3,4,5,6,7,8,9,10,11] [12] (by kernel_rfl) (by kernel_rfl) (by rfl) ?_
               simp only [pickI, pick, List.getElem?_cons_succ, List.getElem?_cons_zero]
               iterate 12 (first
                 | (refine head_val (by rfl) (by first | exact wanted_free rfl | rfl) ?_
                    apply Exists.intro
                    refine ⟨fun X hX => ?_, ?_⟩
                    · (obtain ⟨qz, qc, qf⟩ := bcl hX.out (by first | (simp; rfl) | rfl)
                       go_simp
                       first | done | rfl | exact ⟨rfl, rfl⟩)
                    simp only [Act.put, List.setIfInBounds_toArray, List.set_cons_zero, List.set_cons_succ])
                 | (refine head_pass (by rfl) ?_
                    simp only [Act.put, List.setIfInBounds_toArray, List.set_cons_zero, List.set_cons_succ]))
               refine head_nil ?_
               intro w' hw'
               have hb := hw'.out
               clear hw'
               obtain ⟨hz, hc, hf⟩ := bcl hb (by first | (simp; rfl) | rfl))
              have hb3 := Lib.hid hb
              clear hb
              go_wp2
              go_roundw
              case rel => exact ⟨i + 1, by omega, by go_num, (HBi.out.trans (But.of_below hb3.out)).setX i _, by rw [← HST.out]; exact (HVi.out.below hb3.out l1).set_ i _⟩
              case measure => simp [intOf]; omega
            · obtain rfl : i = 6 := by omega
              have V6 : Blk wr nb 27 (a6 (wayF (frK xs) g (k + 1))) := by rw [← HNX.out]; exact HVi.out
              have d0 := V6.cell 0
              have d1 := V6.cell 1
              have d2 := V6.cell 2
              have d3 := V6.cell 3
              have d4 := V6.cell 4
              have d5 := V6.cell 5
              simp only [a6, List.getElem?_toArray, List.getElem?_cons_zero, List.getElem?_cons_succ] at d0 d1 d2 d3 d4 d5
              have l1 := V6.lt
              have hI := fun w => PInt_c (wayF (frK xs) g (k + 1) 0) (wayF (frK xs) g (k + 1) 1) (wayF (frK xs) g (k + 1) 2) (wayF (frK xs) g (k + 1) 3) (wayF (frK xs) g (k + 1) 4) (wayF (frK xs) g (k + 1) 5) w
              have hpe : pV (wayF (frK xs) g (k + 1) 0) (wayF (frK xs) g (k + 1) 1) (wayF (frK xs) g (k + 1) 2) (wayF (frK xs) g (k + 1) 3) (wayF (frK xs) g (k + 1) 4) (wayF (frK xs) g (k + 1) 5) 48 = pVg (wayF (frK xs) g (k + 1)) 48 := rfl
              rw [hpe] at hI
              have HV6 := Lib.hid V6
              clear hpe V6 HVi
              have hok : okS (frK xs) g k = pVg (wayF (frK xs) g (k + 1)) 48 := by unfold okS; rw [HPo.out]; rfl
              have HBW : Hid (Below wo.heap.size W2 wr) := Lib.hid (HBi.out.below (by omega) zwn zwn)
              cases hq : pVg (wayF (frK xs) g (k + 1)) 48
              · rw [hq] at hI hok
                have HI := Lib.hid hI
                have HNo := Lib.hid hok
                clear hI hok hq
                go_wp2_with (go_at_call 15; ((with_reducible refine (HI.out _).mono ?_); rintro e w' ⟨rfl, hb⟩; obtain ⟨hz, hc, hf⟩ := bcl hb (by first | (simp; rfl) | rfl)))
                refine bodyPost_ret (v := .tuple #[.slice none 0 0, .slice none 0 0, .bool false]) (by simp only [results, Tryd.results8]; go_simp) rfl ⟨bl_trans (HBx.out.trans (HBW.out.mono (by have := HBx.out.size; omega))) hb, Or.inl ⟨⟨k, hlt, HNo.out⟩, rfl⟩⟩
              · rw [hq] at hI hok
                have HI := Lib.hid hI
                have HYes := Lib.hid hok
                clear hI hok hq
                go_upto_region 19 with (go_at_call 15; ((with_reducible refine (HI.out _).mono ?_); rintro e w' ⟨rfl, hb⟩; obtain ⟨hz, hc, hf⟩ := bcl hb (by first | (simp; rfl) | rfl)))
                refine wp_letter ?_
                intro W5 hW5
                have B5 : Below wr.heap.size wr W5 := by rw [hW5]; exact hb
                clear hW5 hb hz hc hf d0 d1 d2 d3 d4 d5
                have hO1 := own_below (HOw2.out.kept (grown_of_but HBi.out) (Or.inr (by show some bw ≠ some nb; intro e; have := Option.some.inj e; omega))) B5
                have hO2 := own_below (own_kept HOl2.out (grown_of_but HBi.out) (fun b h e => by have := (HLt.out b h).2; have := Option.some.inj e; omega)) B5
                have V5 := HV6.out.below B5 l1
                have d0 := V5.cell 0
                have d1 := V5.cell 1
                have d2 := V5.cell 2
                have d3 := V5.cell 3
                have d4 := V5.cell 4
                have d5 := V5.cell 5
                simp only [a6, List.getElem?_toArray, List.getElem?_cons_zero, List.getElem?_cons_succ] at d0 d1 d2 d3 d4 d5
                have l5 := V5.lt
                have B6 : Below w.heap.size w W5 := (HBx.out.trans (HBW.out.mono (by omega))).trans (B5.mono (by have := HBx.out.size; have := HBW.out.size; omega))
                have z6 := B6.size
                have HO1 := Lib.hid hO1
                have HO2 := Lib.hid hO2
                have HB6 := Lib.hid B6
                have hbt : bt7 (btK (frK xs) g k) = [.int .i64 (F : Int), .int .i64 ((k : Int) + 1), .int .i64 (paU (g k 0) (g k 1) (g k 2) (g k 3) (g k 4) (g k 5) 6 : Int), .int .i64 (paD (g k 0) (g k 1) (g k 2) (g k 3) (g k 4) (g k 5) 6 : Int), .int .i64 0, .int .i64 1, .bool true] := by
                  simp [bt7, btK, hFK]
                have HBt := Lib.hid hbt
                have hk12 : k ≤ 12 := by omega
                have HBi5 : Hid (wo.heap.size ≤ W5.heap.size) := Lib.hid (by have := HBx.out.size; have := HBW.out.size; have := z6; omega)
                clear hO1 hO2 V5 B6 B5 hbt HV6 HOw2 HOl2 HBx HBW HC2 HBi
                go_wp2_with (first | (at_builtin; refine wpList_append_lies _ rfl _ _ 23 rfl w.heap.size 27 iv (.agg #[.int .i64 0, .int .i64 0, .int .i64 0, .int .i64 0, .int .i64 0, .int .i64 0]) 6 48 Tryd.underlying23 hvi hv0 hv1 hv2 rfl (by decide) _ _ _ rfl (HO1.out.alloc _) ⟨W5.heap.size, 0, none⟩ 1 1 (v6 (wayF (frK xs) g (k + 1))) rfl rfl (World.news_of_block (World.alloc_heap_new W5 _)) (fun u hu => by simp [v6] at hu; rcases hu with rfl | rfl | rfl | rfl | rfl | rfl <;> rfl) (by omega) (by unfold maxLen; omega) (by omega) (by simp; omega) _ rfl ?_; intro n1 c1 w1 hown1 hg1 hl1 hlt1; have hO3 := own_kept (HO2.out.alloc _) hg1 HNe.out; have HO3 := Lib.hid hO3; have HO4 := Lib.hid hown1; have HG1 := Lib.hid hg1; have HL1 := Lib.hid hl1; have hz1 := hg1.size; simp only [World.size_alloc] at hz1; clear hO3 hown1 hg1 hl1) | (at_builtin; refine wpList_append_lies _ rfl _ _ 29 rfl w.heap.size 39 ib (.agg #[.int .i64 0, .int .i64 0, .int .i64 0, .int .i64 0, .int .i64 0, .int .i64 0, .bool false]) 7 56 Tryd.underlying29 hbi hb0 hb1 hb2 rfl (by decide) _ _ _ rfl (HO3.out.alloc _) ⟨w1.heap.size, 0, none⟩ 1 1 [.int .i64 (F : Int), .int .i64 ((k : Int) + 1), .int .i64 (paU (g k 0) (g k 1) (g k 2) (g k 3) (g k 4) (g k 5) 6 : Int), .int .i64 (paD (g k 0) (g k 1) (g k 2) (g k 3) (g k 4) (g k 5) 6 : Int), .int .i64 0, .int .i64 1, .bool true] rfl rfl (World.news_of_block (World.alloc_heap_new w1 _)) (fun u hu => by simp at hu; rcases hu with rfl | rfl | rfl | rfl | rfl | rfl | rfl <;> rfl) (by omega) (by unfold maxLen; omega) (by omega) (by simp; omega) _ rfl ?_; intro n2 c2 w2 hown2 hg2 hl2 hlt2; have HO5 := Lib.hid hown2; have HG2 := Lib.hid hg2; have HL2 := Lib.hid hl2; have hz2 := hg2.size; simp only [World.size_alloc] at hz2; clear hown2 hg2 hl2))
                have hx : u8.ownBlock ≠ some n1 := fun h => by
                  rcases HL1.out with h1 | h1
                  · exact HNe.out n1 h h1
                  · have := (HLt.out n1 h).2
                    have := HBi5.out
                    simp only [World.size_alloc] at h1
                    omega
                go_roundw
                case rel =>
                  refine ⟨k + 1, by omega, by go_num, fun j hj => ?_, ?_, ?_, fun b h e => ?_, ?_⟩
                  · by_cases e : j = k
                    · rw [e]; exact HYes.out
                    · exact HOk.out j (by omega)
                  · rw [rowL_succ]
                    exact own_kept (HO4.out.alloc _) HG2.out (fun b h e => hx (e.trans h.symm))
                  · rw [rowL_succ, HBt.out]
                    exact HO5.out
                  · have h1 : n2 = b := Option.some.inj h
                    have h2 : n1 = b := Option.some.inj e
                    rcases HL2.out with h3 | h3
                    · exact hx (h3.trans (by rw [h1, h2]))
                    · simp only [World.size_alloc] at h3
                      omega
                  · have b1 : Below w.heap.size w w1 := (bl_alloc HB6.out _).grown HG1.out (by simp; omega) (fun b h => by have : bw = b := Option.some.inj h; omega)
                    exact (bl_alloc b1 _).grown HG2.out (by simp; omega) (fun b h => (HLt.out b h).1)
                case measure => simp [intOf]; omega
    · obtain rfl : k = L := by omega
      obtain ⟨A1, c1, e1, r1⟩ := lst_of_own HOl.out
      obtain ⟨A2, c2, e2, r2⟩ := vecs_of_own HOw.out
      have HR1 := Lib.hid r1
      have HR2 := Lib.hid r2
      clear r1 r2
      subst e1
      obtain ⟨rfl, rfl⟩ : some ⟨bw, 0, none⟩ = A2 ∧ cw = c2 := by simpa using e2
      go_wp2
      refine bodyPost_ret (v := .tuple #[.slice A1 k c1, .slice (some ⟨bw, 0, none⟩) (k + 1) cw, .bool true]) (by simp only [results, Tryd.results8]; go_simp) rfl ⟨HB.out, Or.inr ⟨HOk.out, A1, c1, _, _, rfl, HR1.out, HR2.out⟩⟩
end Go.Proofs.YtehifkdfbiebfaaDoor
