/- Bench: Item: the steps on which an item rests. -/
import Derived.Test.YtkgklmmkkhbimaaBenchM
namespace Go.Proofs.Ytkgklmmkkhbimaa
open Go Go.RowKit Go.Shelf
attribute [local go_sem] Oper.semAt_some

/-- Has step i come among the first k of the way? -/
def onK (l : List Bt) (x : Int) (k : Nat) (i : Nat) : Bool := (List.range k).any fun j => stF l (itL l x j) == (i : Int)
theorem onW_eq (l : List Bt) (x : Int) (i : Nat) : onW l x i = onK l x (wayK l x) i := rfl
theorem onK_succ (l : List Bt) (x : Int) (k i : Nat) : onK l x (k + 1) i = (onK l x k i || stF l (itL l x k) == (i : Int)) := by
  simp [onK, List.range_succ]
def onA (L : Nat) (l : List Bt) (x : Int) (k : Nat) : Array Value := ((List.range L).map fun (i : Nat) => Value.bool (onK l x k i)).toArray
theorem onA_zero (L : Nat) (l : List Bt) (x : Int) : onA L l x 0 = Array.replicate L (.bool false) := by
  apply Array.ext <;> simp [onA, onK]
theorem onA_get (L : Nat) (l : List Bt) (x : Int) (k : Nat) {i : Nat} (h : i < L) : (onA L l x k)[i]? = some (.bool (onK l x k i)) := by
  simp [onA, h]
theorem onA_set (L : Nat) (l : List Bt) (x : Int) (k : Nat) (h0 : 0 ≤ stF l (itL l x k)) : (onA L l x k).setIfInBounds (stF l (itL l x k)).toNat (.bool true) = onA L l x (k + 1) := by
  apply Array.ext
  · simp [onA]
  · intro i h1 h2
    have hi : i < L := by simpa [onA] using h2
    rw [Array.getElem_setIfInBounds (by simpa [onA] using hi)]
    simp only [onA, List.getElem_toArray, List.getElem_map, List.getElem_range, onK_succ]
    split
    · rename_i e
      have e' : stF l (itL l x k) = (i : Int) := by omega
      rw [e']
      simp
    · rename_i e
      have e' : (stF l (itL l x k) == (i : Int)) = false := by
        rw [beq_eq_false_iff_ne]
        omega
      rw [e', Bool.or_false]

theorem Try.infoBool : (Try.prog.info? 4).map (fun i => (i.zero, i.size, i.bytes)) = some (some (.bool false), 1, 1) := by kernel_rfl
theorem make_bools (N : Nat) (h : N ≤ 1000000) (W : World) : (Instr.makeSlice 28 (.int .i64 (N : Int)) (.int .i64 (N : Int))).run Try.prog W = .ok (.slice (some ⟨W.heap.size, 0, none⟩) N N) (W.alloc (.cells (Array.replicate N (.bool false)) 4)) := by
  obtain ⟨i, hi, hz0, hz1, hz2⟩ := info_parts Try.infoBool
  have := run_make (P := Try.prog) (w := W) 28 4 i (.bool false) Try.underlying28 hi hz0 .i64 .i64 (N : Int) (N : Int) (by omega) (by omega) (by rw [hz2]; omega) (by omega)
  rw [this, hz1]
  simp only [Int.toNat_natCast, Nat.mul_one]
  rw [show (Value.bool false).cells = #[.bool false] from rfl, made_one]

set_option maxHeartbeats 400000 in
theorem item1_c (i L B Bn : Nat) (b : Bool) (w : World) (h1 : w.cell? ⟨B, 0, none⟩ = some (.slice (some ⟨Bn, 0, none⟩) L L)) (h2 : w.cell? ⟨Bn, i, none⟩ = some (.bool b)) (hi : i < L) (_hL : L ≤ 1000) :
    Calls Try.prog 51 #[.int .i64 i, .pointer (some ⟨B, 0, none⟩)] w (RetS (.bool b) w) := by
  go_enter Try.func51, Try.ntmps51
  go_wp2
  go_ret
  exact ⟨rfl, rfl⟩
set_option maxHeartbeats 400000 in
theorem susp1_c (i L B Bn : Nat) (b : Bool) (w : World) (h1 : w.cell? ⟨B, 0, none⟩ = some (.slice (some ⟨Bn, 0, none⟩) L L)) (h2 : w.cell? ⟨Bn, i, none⟩ = some (.bool b)) (hi : i < L) (_hL : L ≤ 1000) :
    Calls Try.prog 52 #[.int .i64 i, .pointer (some ⟨B, 0, none⟩)] w (RetS (.bool (!b)) w) := by
  go_enter Try.func52, Try.ntmps52
  go_wp2
  go_ret
  exact ⟨rfl, rfl⟩

theorem grown_set (w : World) (g i : Nat) (u : Value) : w.grownBy (w.setCell ⟨g, i, none⟩ u) (some g) :=
  ⟨rfl, rfl, rfl, by simp [World.setCell], fun k _ hk => Below.heap_setCell _ _ _ _ (fun e => hk (by rw [e]))⟩

theorem ret_of_same {P : Program} {f : FuncId} {args : Array Value} {w : World} {v : Value} (h : Calls P f args w (RetS v w)) : Calls P f args w (Ret v w) := h.mono fun _ _ ⟨he, hw⟩ => ⟨he, by rw [← hw]; exact bl_refl _⟩

/-- Whatever is cells lies as it lay. -/
def CellsKept (w w' : World) : Prop := ∀ (k : Nat) (cs : Array Value) (t : TypeId) (f : Nat × Nat), w.heap[k]? = some (Obj.cells cs t f) → w'.heap[k]? = some (Obj.cells cs t f)
theorem cell_keptC {w w' : World} {a : Addr} {v : Value} (h : w.cell? a = some v) (hc : CellsKept w w') : w'.cell? a = some v := by
  obtain ⟨o, ho, hk⟩ := cells_of_cell h
  cases o with
  | cells cs t f => exact (World.cell?_of_block ((hc _ _ _ _ ho).trans ho.symm)).trans h
  | _ => simp [Obj.isCells] at hk
theorem IntsR.kept {w w' : World} {B : Nat} {A : Option Addr} {xs : List Int} (h : IntsR w B A xs) (hc : CellsKept w w') : IntsR w' B A xs := fun h0 => by
  obtain ⟨b, off, hA, hB, hcell⟩ := h h0
  exact ⟨b, off, hA, hB, fun i x hx => cell_keptC (hcell i x hx) hc⟩

def itB (n : Int) (l : List Bt) (x : Int) : Bool := vld n l && decide (0 ≤ x ∧ x < n)
/-- What Item leaves. -/
def ItemP (n : Int) (l : List Bt) (x : Int) (w : World) (e : Ending) (w' : World) : Prop :=
  Below w.heap.size w w' ∧ ((itB n l x = false ∧ e = .returned (.tuple #[.slice none 0 0, .int .i64 1])) ∨
    (itB n l x = true ∧ ∃ A cap, e = .returned (.tuple #[.slice A (selF (onW l x) l.length).length cap, .int .i64 0]) ∧ IntsR w' w'.heap.size A (selF (onW l x) l.length)))

set_option maxRecDepth 100000 in
set_option maxHeartbeats 4000000 in
theorem Item_c (n : Int) (l : List Bt) (x : Int) (A : Option Addr) (cap : Nat) (w : World) (hl : Lst w w.heap.size A l) (hlen : l.length ≤ 9223372036854775807) :
    Calls Try.prog 23 #[.int .i64 n, .slice A l.length cap, .int .i64 x] w (ItemP n l x w) := by
  have hmf : ∀ (fn : Fn) (first cap : Array Value) (w : World), (Instr.makeFunc fn first cap).run Try.prog w = .ok (.func fn first cap) w := fun _ _ _ _ => rfl
  have HN := Lib.hid (newPlan_c n l A cap w hl hlen)
  have HL := Lib.hid hl
  clear hl
  generalize hLL : l.length = L at *
  have HLL := Lib.hid hLL
  clear hLL
  refine calls_of_marks Try.func23 rfl ?_
  simp only [Try.ntmps23, List.size_toArray, List.length_cons, List.length_nil, Nat.reduceAdd, Nat.reduceSub, Array.replicate_succ, Array.replicate_zero, List.push_toArray, List.append_toArray, List.nil_append, List.cons_append]
  go_wp2_with fail
  ((with_reducible refine (HN.out).mono ?_); rintro e w1 ⟨hb1, ⟨hv, rfl⟩ | ⟨hv, rfl, hs1⟩⟩)
  · have hI : itB n l x = false := by simp [itB, hv]
    have HI := Lib.hid hI
    clear hI hv
    go_wp2
    refine leaves_marks (B := w.heap.size) [] _ trivial (by simp) (fun w' hb _ => ⟨.tuple #[.slice none 0 0, .int .i64 1], by simp only [results, Try.results23]; go_simp, ?_, Or.inl ⟨HI.out, rfl⟩⟩)
    refine Below.trans ?_ hb
    (repeat (first | (with_reducible exact bl_refl _) | (with_reducible refine bl_drew ?_) | (with_reducible refine bl_alloc ?_ _) | (with_reducible refine bl_set' ?_ ?_; · (first | omega | (simp; done) | (simp; omega))) | (with_reducible refine bl_last (by assumption) ?_) | (with_reducible refine bl_drewN ?_ _)))
  · by_cases hx : 0 ≤ x ∧ x < n
    · have hI : itB n l x = true := by
        unfold itB
        rw [hv, decide_eq_true hx]
        rfl
      have hvl := vld_len hv
      have hL39 : L ≤ 39 := by have := HLL.out; omega
      obtain ⟨N, rfl⟩ : ∃ N : Nat, n = N := ⟨n.toNat, by omega⟩
      have hmk := make_bools L (by omega)
      rw [← onA_zero L l x] at hmk
      obtain ⟨hx0, hxn⟩ := hx
      have HI := Lib.hid hI
      have HV := Lib.hid hv
      have HS := Lib.hid hs1
      have HVL := Lib.hid hvl
      clear hI hv hs1 hvl
      have hz1 := hb1.size
      have hz2 := HS.out.lt
      go_wp2_with (go_at_call 48; ((with_reducible refine (way_c _ _ _ _).mono ?_); rintro e w' ⟨rfl, rfl⟩))
      have hlW : ∀ o1 o2 o3 o4 o5, Lst (((((w1.alloc o1).alloc o2).alloc o3).alloc o4).alloc o5) w.heap.size A l := fun o1 o2 o3 o4 o5 => HL.out.below (by (repeat (first | (with_reducible exact bl_refl _) | (with_reducible refine bl_drew ?_) | (with_reducible refine bl_alloc ?_ _) | (with_reducible refine bl_set' ?_ ?_; · (first | omega | (simp; done) | (simp; omega))) | (with_reducible refine bl_last (by assumption) ?_) | (with_reducible refine bl_drewN ?_ _))))
      refine wp_range rfl (enters_of Try.func64 (by kernel_rfl) rfl)
        (way1_c HV.out hx0 hxn A cap N (w1.heap.size + 1 + 1 + 1 + 1) (w1.heap.size + 1 + 1 + 1) (w.heap.size + 2) w.heap.size (w1.heap.size + 1) rfl _ (hlW _ _ _ _ _) (by omega) (by omega) (by simp; omega)
          (by rw [HLL.out]; exact (Blk.new' _ _ _ _ (by simp)).alloc _) (((((HS.out.alloc _).alloc _).alloc _).alloc _).alloc _) (by omega) (by omega) (by omega) (by omega))
        4 (onA L l x) #[] False (fun _ => True) trivial 3 (Blk.new' _ _ _ _ (by simp)) (by omega) ((((Blk.new' _ _ _ _ (by simp)).alloc _).alloc _).alloc _) rfl ?hround ?hdone ?hstop
      case hround =>
        intro ll k W hk _
        obtain ⟨q1, q2⟩ := way_spec HV.out hx0 hxn
        obtain ⟨t1, t2⟩ := q2 k hk
        have hst := all_set HV.out t1 t2
        have hslt := stF_lt l (itL l x k)
        have hset := onA_set L l x k hst
        have hsl : stF l (itL l x k) < L := by have := HLL.out; omega
        have HSET := Lib.hid hset
        clear q1 q2 t1 t2 hslt hset
        have hget := onA_get L l x k (i := (stF l (itL l x k)).toNat) (by omega)
        have HGET := Lib.hid hget
        clear hget
        generalize stF l (itL l x k) = st at *
        gi_wp2
        refine ⟨trivial, fun W2 hB2 hr2 => ?_⟩
        have c1 : W2.cell? ⟨w1.heap.size + 1 + 1, 0, none⟩ = some (.slice (some ⟨w1.heap.size + 1, 0, none⟩) L L) := by
          rw [hB2.cell (p := ⟨w1.heap.size + 1 + 1, 0, none⟩) (by first | (simp; done) | (simp; omega)) (by simp) (by simp)]
          exact (((Blk.new' _ _ _ _ (by simp)).alloc _).alloc _).cell 0
        have c2 := (hr2.cell st.toNat).trans HGET.out
        have f2 := hr2.frozen st.toNat
        gi_wp2
        refine ⟨grown_set _ _ _ _, ?_, trivial⟩
        rw [← HSET.out]
        exact hr2.set_ _ _
      case hdone =>
        intro W hBW hsz hr _ hD
        simp only [World.size_alloc] at hsz hD
        have c80 : W.cell? ⟨w1.heap.size, 0, none⟩ = some (.slice A L cap) := by
          rw [hBW.cell (p := ⟨w1.heap.size, 0, none⟩) (by first | (simp; done) | (simp; omega)) (by simp; omega) (by simp)]
          exact (((((Blk.new w1 _ _).alloc _).alloc _).alloc _).alloc _).cell 0
        have c81 : W.cell? ⟨w1.heap.size, 1, none⟩ = some (.slice (some ⟨w.heap.size + 2, 0, none⟩) N N) := by
          rw [hBW.cell (p := ⟨w1.heap.size, 1, none⟩) (by first | (simp; done) | (simp; omega)) (by simp; omega) (by simp)]
          exact (((((Blk.new w1 _ _).alloc _).alloc _).alloc _).alloc _).cell 1
        have c1 : W.cell? ⟨w1.heap.size + 1 + 1, 0, none⟩ = some (.slice (some ⟨w1.heap.size + 1, 0, none⟩) L L) := by
          rw [hBW.cell (p := ⟨w1.heap.size + 1 + 1, 0, none⟩) (by first | (simp; done) | (simp; omega)) (by simp) (by simp)]
          exact (((Blk.new' _ _ _ _ (by simp)).alloc _).alloc _).cell 0
        have hlt1 : w1.heap.size + 1 + 1 < W.heap.size := by
          have := hBW.size
          simp at this
          omega
        have hG : ∀ (i : Nat) (W3 : World), i < L → Below W.heap.size W W3 → Calls Try.prog 51 #[.int .i64 i, .pointer (some ⟨w1.heap.size + 1 + 1, 0, none⟩)] W3 (Ret (.bool (onW l x i)) W3) := fun i W3 hi h3 =>
          ret_of_same (item1_c i L _ (w1.heap.size + 1) (onW l x i) W3 ((h3.cell (p := ⟨w1.heap.size + 1 + 1, 0, none⟩) hlt1).trans c1) ((h3.cell (p := ⟨w1.heap.size + 1, i, none⟩) (by show w1.heap.size + 1 < _; omega)).trans ((hr.cell i).trans (onA_get L l x _ hi))) hi (by omega))
        have HM := Lib.hid (marked_item L (by omega) A cap (.slice (some ⟨w.heap.size + 2, 0, none⟩) N N) (onW l x) ⟨w1.heap.size + 1 + 1, 0, none⟩ W hG)
        have HB := Lib.hid hBW
        have HD := Lib.hid hD
        have HR := Lib.hid hr
        clear hG hBW hD hr c1
        go_wp2_with fail
        ((with_reducible refine (HM.out).mono ?_); rintro e W4 ⟨hb4, A4, cap4, rfl, hi4⟩)
        have HI4 := Lib.hid hi4
        clear hi4
        go_wp2
        have hbW4 : Below w.heap.size w W4 := Below.trans (HB.out.below (by simp; omega) (by omega) (by omega) |> fun h => Below.trans (by (repeat (first | (with_reducible exact bl_refl _) | (with_reducible refine bl_drew ?_) | (with_reducible refine bl_alloc ?_ _) | (with_reducible refine bl_set' ?_ ?_; · (first | omega | (simp; done) | (simp; omega))) | (with_reducible refine bl_last (by assumption) ?_) | (with_reducible refine bl_drewN ?_ _)))) h) (hb4.mono (by have := HB.out.size; simp at this; omega))
        refine leaves_marks (B := w.heap.size) [_] _ ⟨(hb4.block _ (by omega)).trans HD.out, by simp, trivial⟩ (by simp; omega) (fun w' hb hc => ⟨.tuple #[.slice A4 _ cap4, .int .i64 0], by simp only [results, Try.results23]; go_simp; rfl, hbW4.trans hb, Or.inr ⟨HI.out, A4, cap4, by rw [HLL.out], ?_⟩⟩)
        rw [HLL.out]
        exact (HI4.out.kept hc).more hb.size
      case hstop =>
        intro W _ _ _ hx _
        exact hx.elim
    · have hI : itB n l x = false := by
        unfold itB
        rw [decide_eq_false hx, Bool.and_false]
      have HI := Lib.hid hI
      have HV := Lib.hid hv
      have HS := Lib.hid hs1
      clear hI hv hs1
      have hx' : x < 0 ∨ (0 ≤ x ∧ n ≤ x) := by omega
      clear hx
      rcases hx' with hx | ⟨hx, hx2⟩
      all_goals
        go_wp2
        refine leaves_marks (B := w.heap.size) [] _ trivial (by simp) (fun w' hb _ => ⟨.tuple #[.slice none 0 0, .int .i64 1], by simp only [results, Try.results23]; go_simp, ?_, Or.inl ⟨HI.out, rfl⟩⟩)
        refine Below.trans ?_ hb
        (repeat (first | (with_reducible exact bl_refl _) | (with_reducible refine bl_drew ?_) | (with_reducible refine bl_alloc ?_ _) | (with_reducible refine bl_set' ?_ ?_; · (first | omega | (simp; done) | (simp; omega))) | (with_reducible refine bl_last (by assumption) ?_) | (with_reducible refine bl_drewN ?_ _)))
end Go.Proofs.Ytkgklmmkkhbimaa
