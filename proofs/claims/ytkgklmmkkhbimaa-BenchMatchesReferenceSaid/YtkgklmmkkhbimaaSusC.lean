/- Item once more: what it returns lies in new memory. -/
import Derived.Test.YtkgklmmkkhbimaaBenchI
namespace Go.Proofs.Ytkgklmmkkhbimaa
open Go Go.RowKit Go.Shelf
attribute [local go_sem] Oper.semAt_some

/-- The integers xs lie in a block from B0 on, below B. -/
def IntsF (w : World) (B0 B : Nat) (A : Option Addr) (xs : List Int) : Prop :=
  0 < xs.length → ∃ b off, A = some ⟨b, off, none⟩ ∧ B0 ≤ b ∧ b < B ∧ ∀ i x, xs[i]? = some x → w.cell? ⟨b, off + i, none⟩ = some (.int .i64 x)
theorem IntsF.more {w : World} {B0 B B' : Nat} {A : Option Addr} {xs : List Int} (h : IntsF w B0 B A xs) (hB : B ≤ B') : IntsF w B0 B' A xs := fun h0 => by
  obtain ⟨b, off, hA, h0, hb, hc⟩ := h h0
  exact ⟨b, off, hA, h0, by omega, hc⟩
theorem IntsF.less {w : World} {B0 B1 B : Nat} {A : Option Addr} {xs : List Int} (h : IntsF w B0 B A xs) (hB : B1 ≤ B0) : IntsF w B1 B A xs := fun h0 => by
  obtain ⟨b, off, hA, h0, hb, hc⟩ := h h0
  exact ⟨b, off, hA, by omega, hb, hc⟩
theorem IntsF.kept {w w' : World} {B0 B : Nat} {A : Option Addr} {xs : List Int} (h : IntsF w B0 B A xs) (hc : CellsKept w w') : IntsF w' B0 B A xs := fun h0 => by
  obtain ⟨b, off, hA, h0, hb, hx⟩ := h h0
  exact ⟨b, off, hA, h0, hb, fun i x hi => cell_keptC (hx i x hi) hc⟩
theorem IntsF.plain {w : World} {B0 B : Nat} {A : Option Addr} {xs : List Int} (h : IntsF w B0 B A xs) : IntsR w B A xs := fun h0 => by
  obtain ⟨b, off, hA, h0, hb, hx⟩ := h h0
  exact ⟨b, off, hA, hb, hx⟩
theorem ints_of_ownF {w : World} {base n : Nat} {e : TypeId} {v : Value} {xs : List Int} (h : w.ownsRow base e 1 v n (xs.map (Value.int .i64))) : ∃ A cap, v = .slice A xs.length cap ∧ IntsF w base w.heap.size A xs := by
  have hlen : xs.length = n := by have := h.1; simpa using this
  rcases h.2 with ⟨rfl, h0⟩ | ⟨g, cap, cur, rfl, hb, hh, hc⟩
  · have : xs = [] := by
      cases xs with
      | nil => rfl
      | cons a ys => simp at hlen; omega
    subst this
    exact ⟨none, 0, rfl, fun h1 => absurd h1 (by simp)⟩
  · refine ⟨_, cap, by rw [hlen], fun _ => ⟨g, 0, rfl, hb, ?_, fun i x hx => ?_⟩⟩
    · exact (Array.getElem?_eq_some_iff.1 hh).1
    · have hl : i < xs.length := (List.getElem?_eq_some_iff.1 hx).1
      have := World.ownsRow.cellAt h i (by omega)
      rw [Nat.zero_add, this, List.getElem?_map, hx]
      rfl
def MarkF (L : Nat) (is : Nat → Bool) (w : World) (e : Ending) (w' : World) : Prop :=
  Below w.heap.size w w' ∧ ∃ A cap, e = .returned (.slice A (selF is L).length cap) ∧ IntsF w' w.heap.size w'.heap.size A (selF is L)
/-- What Item leaves. -/
def ItemQ (n : Int) (l : List Bt) (x : Int) (w : World) (e : Ending) (w' : World) : Prop :=
  Below w.heap.size w w' ∧ ((itB n l x = false ∧ e = .returned (.tuple #[.slice none 0 0, .int .i64 1])) ∨
    (itB n l x = true ∧ ∃ A cap, e = .returned (.tuple #[.slice A (selF (onW l x) l.length).length cap, .int .i64 0]) ∧ IntsF w' w.heap.size w'.heap.size A (selF (onW l x) l.length)))

set_option maxRecDepth 100000 in
set_option maxHeartbeats 2000000 in
theorem marked_itemF (L : Nat) (hL : L ≤ 1000) (A : Option Addr) (cap : Nat) (v2 : Value) (is : Nat → Bool) (a : Addr) (w : World)
    (hG : ∀ (i : Nat) (W : World), i < L → Below w.heap.size w W → Calls Try.prog 51 #[.int .i64 i, .pointer (some a)] W (Ret (.bool (is i)) W)) :
    Calls Try.prog 46 #[.agg #[.slice A L cap, v2], .func (.func 51) #[] #[.pointer (some a)]] w (MarkF L is w) := by
  obtain ⟨i0, hi, hz0, hz1, hz2⟩ := info_parts Try.infoInt
  have HG := Lib.hid hG
  clear hG
  go_enter Try.func46, Try.ntmps46
  go_wp2
  go_loopw [5, 10] (fun v i wr => ∃ k : Nat, k ≤ L ∧ i = .int .i64 k ∧ Hid (wr.ownsRow w.heap.size 3 1 v (selF is k).length ((selF is k).map (Value.int .i64))) ∧ Below w.heap.size w wr ∧ w.heap.size < wr.heap.size) (fun _ i _ => L - (intOf i).toNat)
  case atStart =>
    refine ⟨0, Nat.zero_le _, rfl, World.ownsRow_nil _ _ _ _, ?_, by simp⟩
    (repeat (first | (with_reducible exact bl_refl _) | (with_reducible refine bl_drew ?_) | (with_reducible refine bl_alloc ?_ _) | (with_reducible refine bl_set' ?_ ?_; · (first | omega | (simp; done) | (simp; omega))) | (with_reducible refine bl_last (by assumption) ?_) | (with_reducible refine bl_drewN ?_ _)))
  case round =>
    obtain ⟨k, hk, rfl, HO, hbw, hzw⟩ := hrel
    by_cases hlt : k < L
    · have hC := HG.out k wr hlt hbw
      cases hs : is k
      · rw [hs] at hC
        have e := sel_no hs
        have HC := Lib.hid hC
        have HE := Lib.hid e
        clear hC e hs
        go_wp2_with (go_at_call 51; ((with_reducible refine (HC.out).mono ?_); rintro e w' ⟨rfl, hb⟩; obtain ⟨hz, hc, hf⟩ := bcl hb (by first | (simp; rfl) | rfl)))
        go_roundw
        case rel => exact ⟨k + 1, hlt, by go_num, by rw [HE.out]; exact own_below HO.out hb, bl_trans hbw hb, by omega⟩
        case measure => simp [intOf]; omega
      · rw [hs] at hC
        have e := sel_yes hs
        have hlen := sel_len is k
        have HC := Lib.hid hC
        have HE := Lib.hid e
        clear hC e hs
        go_wp2_with (first | (go_at_call 51; ((with_reducible refine (HC.out).mono ?_); rintro e w' ⟨rfl, hb⟩; obtain ⟨hz, hc, hf⟩ := bcl hb (by first | (simp; rfl) | rfl))) | (at_builtin; refine wpList_append_own _ rfl _ _ 26 rfl w.heap.size 3 i0 (.int .i64 0) 1 8 Try.underlying26 hi hz0 hz1 hz2 rfl (by decide) _ _ _ rfl ((own_below HO.out hb).alloc _) ⟨w'.heap.size, 0, none⟩ 1 1 [.int .i64 (k : Int)] rfl rfl (cell_one_new _ _ _) (fun u hu => by simp at hu; subst hu; rfl) (by unfold maxLen; omega) (by omega) (by simp; omega) ?_; intro v' w1 hown' hgrow _))
        go_roundw
        case rel =>
          refine ⟨k + 1, hlt, by go_num, ?_, ?_, ?_⟩
          · rw [HE.out, List.length_append, List.map_append]
            exact hown'
          · have h1 : Below w.heap.size w w' := bl_trans hbw hb
            refine (bl_alloc h1 _).grown hgrow ?_ ?_
            · simp; omega
            · intro g hg
              have := (HO.out.lt g hg).1
              omega
          · have h1 := hgrow.size
            simp at h1
            omega
        case measure => simp [intOf]; omega
    · have hkL : k = L := by omega
      subst hkL
      obtain ⟨A', cap', rfl, hR⟩ := ints_of_ownF HO.out
      have HR := Lib.hid hR
      clear hR
      go_wp2
      go_ret
      exact ⟨hbw, A', cap', rfl, HR.out⟩

set_option maxRecDepth 100000 in
set_option maxHeartbeats 4000000 in
theorem ItemF_c (n : Int) (l : List Bt) (x : Int) (A : Option Addr) (cap : Nat) (w : World) (hl : Lst w w.heap.size A l) (hlen : l.length ≤ 9223372036854775807) :
    Calls Try.prog 23 #[.int .i64 n, .slice A l.length cap, .int .i64 x] w (ItemQ n l x w) := by
  have hmf : ∀ (fn : Fn) (first cap : Array Value) (w : World), (Instr.makeFunc fn first cap).run Try.prog w = .ok (.func fn first cap) w := fun _ _ _ _ => rfl
  have HN := Lib.hid (newPlan_c n l A cap w hl hlen)
  have HL := Lib.hid hl
  clear hl
  generalize hLL : l.length = L at *
  have HLL := Lib.hid hLL
  clear hLL
  refine calls_of_marks Try.func23 rfl ?_
  simp only [Try.ntmps23, List.size_toArray, List.length_cons, List.length_nil, Nat.reduceAdd, Nat.reduceSub, Array.replicate_succ, Array.replicate_zero, List.push_toArray, List.append_toArray, List.nil_append, List.cons_append]
  go_wp2_with fail
  ((with_reducible refine (HN.out).mono ?_); rintro e w1 ⟨hb1, ⟨hv, rfl⟩ | ⟨hv, rfl, hs1⟩⟩)
  · have hI : itB n l x = false := by simp [itB, hv]
    have HI := Lib.hid hI
    clear hI hv
    go_wp2
    refine leaves_marks (B := w.heap.size) [] _ trivial (by simp) (fun w' hb _ => ⟨.tuple #[.slice none 0 0, .int .i64 1], by simp only [results, Try.results23]; go_simp, ?_, Or.inl ⟨HI.out, rfl⟩⟩)
    refine Below.trans ?_ hb
    (repeat (first | (with_reducible exact bl_refl _) | (with_reducible refine bl_drew ?_) | (with_reducible refine bl_alloc ?_ _) | (with_reducible refine bl_set' ?_ ?_; · (first | omega | (simp; done) | (simp; omega))) | (with_reducible refine bl_last (by assumption) ?_) | (with_reducible refine bl_drewN ?_ _)))
  · by_cases hx : 0 ≤ x ∧ x < n
    · have hI : itB n l x = true := by
        unfold itB
        rw [hv, decide_eq_true hx]
        rfl
      have hvl := vld_len hv
      have hL39 : L ≤ 39 := by have := HLL.out; omega
      obtain ⟨N, rfl⟩ : ∃ N : Nat, n = N := ⟨n.toNat, by omega⟩
      have hmk := make_bools L (by omega)
      rw [← onA_zero L l x] at hmk
      obtain ⟨hx0, hxn⟩ := hx
      have HI := Lib.hid hI
      have HV := Lib.hid hv
      have HS := Lib.hid hs1
      have HVL := Lib.hid hvl
      clear hI hv hs1 hvl
      have hz1 := hb1.size
      have hz2 := HS.out.lt
      go_wp2_with (go_at_call 48; ((with_reducible refine (way_c _ _ _ _).mono ?_); rintro e w' ⟨rfl, rfl⟩))
      have hlW : ∀ o1 o2 o3 o4 o5, Lst (((((w1.alloc o1).alloc o2).alloc o3).alloc o4).alloc o5) w.heap.size A l := fun o1 o2 o3 o4 o5 => HL.out.below (by (repeat (first | (with_reducible exact bl_refl _) | (with_reducible refine bl_drew ?_) | (with_reducible refine bl_alloc ?_ _) | (with_reducible refine bl_set' ?_ ?_; · (first | omega | (simp; done) | (simp; omega))) | (with_reducible refine bl_last (by assumption) ?_) | (with_reducible refine bl_drewN ?_ _))))
      refine wp_range rfl (enters_of Try.func64 (by kernel_rfl) rfl)
        (way1_c HV.out hx0 hxn A cap N (w1.heap.size + 1 + 1 + 1 + 1) (w1.heap.size + 1 + 1 + 1) (w.heap.size + 2) w.heap.size (w1.heap.size + 1) rfl _ (hlW _ _ _ _ _) (by omega) (by omega) (by simp; omega)
          (by rw [HLL.out]; exact (Blk.new' _ _ _ _ (by simp)).alloc _) (((((HS.out.alloc _).alloc _).alloc _).alloc _).alloc _) (by omega) (by omega) (by omega) (by omega))
        4 (onA L l x) #[] False (fun _ => True) trivial 3 (Blk.new' _ _ _ _ (by simp)) (by omega) ((((Blk.new' _ _ _ _ (by simp)).alloc _).alloc _).alloc _) rfl ?hround ?hdone ?hstop
      case hround =>
        intro ll k W hk _
        obtain ⟨q1, q2⟩ := way_spec HV.out hx0 hxn
        obtain ⟨t1, t2⟩ := q2 k hk
        have hst := all_set HV.out t1 t2
        have hslt := stF_lt l (itL l x k)
        have hset := onA_set L l x k hst
        have hsl : stF l (itL l x k) < L := by have := HLL.out; omega
        have HSET := Lib.hid hset
        clear q1 q2 t1 t2 hslt hset
        have hget := onA_get L l x k (i := (stF l (itL l x k)).toNat) (by omega)
        have HGET := Lib.hid hget
        clear hget
        generalize stF l (itL l x k) = st at *
        gi_wp2
        refine ⟨trivial, fun W2 hB2 hr2 => ?_⟩
        have c1 : W2.cell? ⟨w1.heap.size + 1 + 1, 0, none⟩ = some (.slice (some ⟨w1.heap.size + 1, 0, none⟩) L L) := by
          rw [hB2.cell (p := ⟨w1.heap.size + 1 + 1, 0, none⟩) (by first | (simp; done) | (simp; omega)) (by simp) (by simp)]
          exact (((Blk.new' _ _ _ _ (by simp)).alloc _).alloc _).cell 0
        have c2 := (hr2.cell st.toNat).trans HGET.out
        have f2 := hr2.frozen st.toNat
        gi_wp2
        refine ⟨grown_set _ _ _ _, ?_, trivial⟩
        rw [← HSET.out]
        exact hr2.set_ _ _
      case hdone =>
        intro W hBW hsz hr _ hD
        simp only [World.size_alloc] at hsz hD
        have c80 : W.cell? ⟨w1.heap.size, 0, none⟩ = some (.slice A L cap) := by
          rw [hBW.cell (p := ⟨w1.heap.size, 0, none⟩) (by first | (simp; done) | (simp; omega)) (by simp; omega) (by simp)]
          exact (((((Blk.new w1 _ _).alloc _).alloc _).alloc _).alloc _).cell 0
        have c81 : W.cell? ⟨w1.heap.size, 1, none⟩ = some (.slice (some ⟨w.heap.size + 2, 0, none⟩) N N) := by
          rw [hBW.cell (p := ⟨w1.heap.size, 1, none⟩) (by first | (simp; done) | (simp; omega)) (by simp; omega) (by simp)]
          exact (((((Blk.new w1 _ _).alloc _).alloc _).alloc _).alloc _).cell 1
        have c1 : W.cell? ⟨w1.heap.size + 1 + 1, 0, none⟩ = some (.slice (some ⟨w1.heap.size + 1, 0, none⟩) L L) := by
          rw [hBW.cell (p := ⟨w1.heap.size + 1 + 1, 0, none⟩) (by first | (simp; done) | (simp; omega)) (by simp) (by simp)]
          exact (((Blk.new' _ _ _ _ (by simp)).alloc _).alloc _).cell 0
        have hlt1 : w1.heap.size + 1 + 1 < W.heap.size := by
          have := hBW.size
          simp at this
          omega
        have hG : ∀ (i : Nat) (W3 : World), i < L → Below W.heap.size W W3 → Calls Try.prog 51 #[.int .i64 i, .pointer (some ⟨w1.heap.size + 1 + 1, 0, none⟩)] W3 (Ret (.bool (onW l x i)) W3) := fun i W3 hi h3 =>
          ret_of_same (item1_c i L _ (w1.heap.size + 1) (onW l x i) W3 ((h3.cell (p := ⟨w1.heap.size + 1 + 1, 0, none⟩) hlt1).trans c1) ((h3.cell (p := ⟨w1.heap.size + 1, i, none⟩) (by show w1.heap.size + 1 < _; omega)).trans ((hr.cell i).trans (onA_get L l x _ hi))) hi (by omega))
        have HM := Lib.hid (marked_itemF L (by omega) A cap (.slice (some ⟨w.heap.size + 2, 0, none⟩) N N) (onW l x) ⟨w1.heap.size + 1 + 1, 0, none⟩ W hG)
        have HB := Lib.hid hBW
        have HD := Lib.hid hD
        have HR := Lib.hid hr
        clear hG hBW hD hr c1
        go_wp2_with fail
        ((with_reducible refine (HM.out).mono ?_); rintro e W4 ⟨hb4, A4, cap4, rfl, hi4⟩)
        have HI4 := Lib.hid hi4
        clear hi4
        go_wp2
        have hbW4 : Below w.heap.size w W4 := Below.trans (HB.out.below (by simp; omega) (by omega) (by omega) |> fun h => Below.trans (by (repeat (first | (with_reducible exact bl_refl _) | (with_reducible refine bl_drew ?_) | (with_reducible refine bl_alloc ?_ _) | (with_reducible refine bl_set' ?_ ?_; · (first | omega | (simp; done) | (simp; omega))) | (with_reducible refine bl_last (by assumption) ?_) | (with_reducible refine bl_drewN ?_ _)))) h) (hb4.mono (by have := HB.out.size; simp at this; omega))
        refine leaves_marks (B := w.heap.size) [_] _ ⟨(hb4.block _ (by omega)).trans HD.out, by simp, trivial⟩ (by simp; omega) (fun w' hb hc => ⟨.tuple #[.slice A4 _ cap4, .int .i64 0], by simp only [results, Try.results23]; go_simp; rfl, hbW4.trans hb, Or.inr ⟨HI.out, A4, cap4, by rw [HLL.out], ?_⟩⟩)
        rw [HLL.out]
        exact ((HI4.out.kept hc).more hb.size).less (by have := HB.out.size; simp at this; omega)
      case hstop =>
        intro W _ _ _ hx _
        exact hx.elim
    · have hI : itB n l x = false := by
        unfold itB
        rw [decide_eq_false hx, Bool.and_false]
      have HI := Lib.hid hI
      have HV := Lib.hid hv
      have HS := Lib.hid hs1
      clear hI hv hs1
      have hx' : x < 0 ∨ (0 ≤ x ∧ n ≤ x) := by omega
      clear hx
      rcases hx' with hx | ⟨hx, hx2⟩
      all_goals
        go_wp2
        refine leaves_marks (B := w.heap.size) [] _ trivial (by simp) (fun w' hb _ => ⟨.tuple #[.slice none 0 0, .int .i64 1], by simp only [results, Try.results23]; go_simp, ?_, Or.inl ⟨HI.out, rfl⟩⟩)
        refine Below.trans ?_ hb
        (repeat (first | (with_reducible exact bl_refl _) | (with_reducible refine bl_drew ?_) | (with_reducible refine bl_alloc ?_ _) | (with_reducible refine bl_set' ?_ ?_; · (first | omega | (simp; done) | (simp; omega))) | (with_reducible refine bl_last (by assumption) ?_) | (with_reducible refine bl_drewN ?_ _)))
end Go.Proofs.Ytkgklmmkkhbimaa
