/- Bench: Repair. -/
import Derived.Test.YtkgklmmkkhbimaaBenchJ
namespace Go.Proofs.Ytkgklmmkkhbimaa
open Go.RowKit

def badF (ws : List Int) (j : Nat) : Bool := ws.any fun x => x == (j : Int)
theorem badF_snoc (ws : List Int) (x : Int) (j : Nat) : badF (ws ++ [x]) j = (badF ws j || x == (j : Int)) := by
  simp [badF]
def badA (L : Nat) (ws : List Int) : Array Value := ((List.range L).map fun (i : Nat) => Value.bool (badF ws i)).toArray
theorem badA_nil (L : Nat) : badA L [] = Array.replicate L (.bool false) := by
  apply Array.ext <;> simp [badA, badF]
theorem badA_get (L : Nat) (ws : List Int) {i : Nat} (h : i < L) : (badA L ws)[i]? = some (.bool (badF ws i)) := by
  simp [badA, h]
theorem badA_set (L : Nat) (ws : List Int) {x : Int} (h0 : 0 ≤ x) : (badA L ws).setIfInBounds x.toNat (.bool true) = badA L (ws ++ [x]) := by
  apply Array.ext
  · simp [badA]
  · intro i h1 h2
    have hi : i < L := by simpa [badA] using h2
    rw [Array.getElem_setIfInBounds (by simpa [badA] using hi)]
    simp only [badA, List.getElem_toArray, List.getElem_map, List.getElem_range, badF_snoc]
    split
    · rename_i e
      have e' : (x == (i : Int)) = true := by simp; omega
      rw [e', Bool.or_true]
    · rename_i e
      have e' : (x == (i : Int)) = false := by
        rw [beq_eq_false_iff_ne]
        omega
      rw [e', Bool.or_false]
/-- All indices lie in the list. -/
def okW (L : Nat) (ws : List Int) : Bool := ws.all fun x => decide (0 ≤ x ∧ x < L)
theorem okW_false {L : Nat} {ws : List Int} {k : Nat} {x : Int} (hx : ws[k]? = some x) (h : x < 0 ∨ (L : Int) ≤ x) : okW L ws = false := by
  cases ho : okW L ws with
  | false => rfl
  | true =>
    unfold okW at ho
    have := List.all_eq_true.1 ho x (List.mem_of_getElem? hx)
    simp at this
    omega
theorem take_snocI {l : List Int} {k : Nat} {b : Int} (h : l[k]? = some b) : l.take (k + 1) = l.take k ++ [b] := by
  rw [List.take_add_one, h]
  rfl
theorem okW_step {L : Nat} {ws : List Int} {k : Nat} {x : Int} (hx : ws[k]? = some x) (h : okW L (ws.take k) = true) (h0 : 0 ≤ x) (h1 : x < L) : okW L (ws.take (k + 1)) = true := by
  rw [take_snocI hx]
  unfold okW at h ⊢
  rw [List.all_append, h]
  simp [h0, h1]

def repS (l : List Bt) (ws : List Int) (i : Nat) : Bool := hitB l (l.getD i default).to (badF ws)
/-- What Repair leaves. -/
def RepP (n : Int) (l : List Bt) (ws : List Int) (w : World) (e : Ending) (w' : World) : Prop :=
  Below w.heap.size w w' ∧ (((vld n l && okW l.length ws) = false ∧ e = .returned (.tuple #[.slice none 0 0, .int .i64 1])) ∨
    ((vld n l && okW l.length ws) = true ∧ ∃ A cap, e = .returned (.tuple #[.slice A (selF (repS l ws) l.length).length cap, .int .i64 0]) ∧ IntsR w' w'.heap.size A (selF (repS l ws) l.length)))

set_option maxRecDepth 100000 in
set_option maxHeartbeats 4000000 in
theorem Repair_c (n : Int) (l : List Bt) (ws : List Int) (A Aw : Option Addr) (cap capw : Nat) (w : World) (hl : Lst w w.heap.size A l) (hw : IntsR w w.heap.size Aw ws) (hlen : l.length ≤ 9223372036854775807) (hlw : ws.length ≤ 9223372036854775807) :
    Calls Try.prog 20 #[.int .i64 n, .slice A l.length cap, .slice Aw ws.length capw] w (RepP n l ws w) := by
  have hmf : ∀ (fn : Fn) (first cap : Array Value) (w : World), (Instr.makeFunc fn first cap).run Try.prog w = .ok (.func fn first cap) w := fun _ _ _ _ => rfl
  have HN := Lib.hid (fun o => newPlan_c n l A cap (w.alloc o) ((hl.below ((Below.refl _ _).alloc (Nat.le_refl _) o)).more (by simp)) hlen)
  have HL := Lib.hid hl
  have HW := Lib.hid hw
  clear hl hw
  generalize hLL : l.length = L at *
  generalize hMM : ws.length = M at *
  have HLL := Lib.hid hLL
  have HMM := Lib.hid hMM
  clear hLL hMM
  go_enter Try.func20, Try.ntmps20
  go_wp2_with fail
  ((with_reducible refine (HN.out _).mono ?_); rintro e w1 ⟨hb1, ⟨hv, rfl⟩ | ⟨hv, rfl, hs1⟩⟩)
  · have HV := Lib.hid hv
    clear hv
    go_wp2
    refine bodyPost_ret (v := .tuple #[.slice none 0 0, .int .i64 1]) (by simp only [results, Try.results20]; go_simp) rfl ⟨?_, Or.inl ⟨by rw [HV.out]; rfl, rfl⟩⟩
    (repeat (first | (with_reducible exact bl_refl _) | (with_reducible refine bl_drew ?_) | (with_reducible refine bl_alloc ?_ _) | (with_reducible refine bl_set' ?_ ?_; · (first | omega | (simp; done) | (simp; omega))) | (with_reducible refine bl_last (by assumption) ?_) | (with_reducible refine bl_drewN ?_ _)))
  · have hvl := vld_len hv
    have hL39 : L ≤ 39 := by have := HLL.out; omega
    obtain ⟨N, rfl⟩ : ∃ N : Nat, n = N := ⟨n.toNat, by omega⟩
    have hmk := make_bools L (by omega)
    rw [← badA_nil L] at hmk
    have HV := Lib.hid hv
    have HS := Lib.hid hs1
    have HVL := Lib.hid hvl
    clear hv hs1 hvl
    have hz1 := hb1.size
    have hz2 := HS.out.lt
    have hbw1 : Below w.heap.size w w1 := ((Below.refl w.heap.size w).alloc (Nat.le_refl _) _).trans (hb1.mono (by simp))
    have c40 : w1.cell? ⟨w.heap.size, 0, none⟩ = some (.slice A L cap) := by
      rw [hb1.cell (p := ⟨w.heap.size, 0, none⟩) (by simp)]
      exact (Blk.new w _ _).cell 0
    clear hb1
    simp only [World.size_alloc] at hz1 hz2 HS
    go_wp2
    go_loopw [26] (fun i wr => ∃ k : Nat, k ≤ M ∧ i = .int .i64 k ∧ Hid (okW L (ws.take k) = true) ∧ Below w.heap.size w wr ∧ w1.heap.size + 3 ≤ wr.heap.size ∧ Hid (Blk wr (w1.heap.size + 1) 4 (badA L (ws.take k))) ∧
      Hid (wr.cell? ⟨w.heap.size, 0, none⟩ = some (.slice A L cap)) ∧ Hid (Blk wr w1.heap.size 65 #[.slice A L cap, .slice (some ⟨w.heap.size + 1 + 2, 0, none⟩) N N]) ∧ Hid (Blk wr (w1.heap.size + 1 + 1) 28 #[.slice (some ⟨w1.heap.size + 1, 0, none⟩) L L]) ∧
      Hid (Blk wr (w.heap.size + 1 + 2) 3 (stA N l))) (fun i _ => M - (intOf i).toNat)
    case atStart =>
      refine ⟨0, Nat.zero_le _, rfl, rfl, ?_, by simp, ?_, ?_, ?_, ?_, ?_⟩
      · exact ((hbw1.alloc hbw1.size _).alloc (by simp; omega) _).alloc (by simp; omega) _
      · exact (Blk.new' _ _ _ _ (by simp)).alloc _
      · show _ = _
        rw [World.cell?_alloc_lt _ _ _ (by simp; omega), World.cell?_alloc_lt _ _ _ (by simp; omega), World.cell?_alloc_lt _ _ _ (by show w.heap.size < _; omega)]
        exact c40
      · exact ((Blk.new w1 _ _).alloc _).alloc _
      · exact Blk.new' _ _ _ _ (by simp)
      · have : Blk w1 (w.heap.size + 1 + 2) 3 (stA N l) := HS.out
        exact ((this.alloc _).alloc _).alloc _
    case round =>
      obtain ⟨k, hk, rfl, HK, hbw, hzw, B1, C4, B8, B10, BS⟩ := hrel
      have c4 := C4.out
      have c8 := B10.out.cell 0
      simp only [List.getElem?_toArray, List.getElem?_cons_zero] at c8
      clear c40
      by_cases hlt : k < M
      · obtain ⟨x, hx⟩ : ∃ x, ws[k]? = some x := ⟨ws[k]'(by have := HMM.out; omega), by simp⟩
        obtain ⟨bl, o, rfl, hbl, hcl⟩ := HW.out (by have := HMM.out; omega)
        have cx := (hbw.cell (p := ⟨bl, o + k, none⟩) hbl).trans (hcl k x hx)
        have hbl' : bl < wr.heap.size := by have := hbw.size; omega
        have HX := Lib.hid hx
        clear hx hcl
        by_cases hin : x < 0 ∨ (0 ≤ x ∧ (L : Int) ≤ x)
        · have hno : okW L ws = false := okW_false HX.out (by omega)
          have HNO := Lib.hid hno
          clear hno
          rcases hin with h1 | ⟨h1, h2⟩
          all_goals
            go_wp2
            refine bodyPost_ret (v := .tuple #[.slice none 0 0, .int .i64 1]) (by simp only [results, Try.results20]; go_simp) rfl ⟨?_, Or.inl ⟨by rw [HLL.out, HNO.out, Bool.and_false], rfl⟩⟩
            (repeat (first | (with_reducible exact bl_refl _) | (with_reducible refine bl_drew ?_) | (with_reducible refine bl_alloc ?_ _) | (with_reducible refine bl_set' ?_ ?_; · (first | omega | (simp; done) | (simp; omega))) | (with_reducible refine bl_last (by assumption) ?_) | (with_reducible refine bl_drewN ?_ _)))
        · have h1 : 0 ≤ x := by omega
          have h2 : x < L := by omega
          have cb := (B1.out.cell x.toNat).trans (badA_get L (ws.take k) (by omega))
          have fb := B1.out.frozen x.toNat
          go_wp2
          go_roundw
          case rel =>
            exact ⟨k + 1, hlt, by go_num, okW_step HX.out HK.out h1 h2, hbw.setCell (p := ⟨w1.heap.size + 1, x.toNat, none⟩) (by show _ ≤ w1.heap.size + 1; omega) _, by simp only [World.setCell, Array.size_modify]; omega,
              (B1.out.set_ _ _).trans (by rw [badA_set L _ h1, take_snocI HX.out]), (World.cell?_setCell_other _ _ _ _ (by intro e; have := congrArg Addr.block e; simp at this; omega)).trans C4.out,
              B8.out.far (by show _ ≠ w1.heap.size + 1; omega) _, B10.out.far (by show _ ≠ w1.heap.size + 1; omega) _, BS.out.far (by show _ ≠ w1.heap.size + 1; omega) _⟩
          case measure => simp [intOf]; omega
      · have hkM : k = M := by omega
        subst hkM
        have hfin : ws.take k = ws := by rw [← HMM.out, List.take_length]
        rw [hfin] at B1 HK
        have hG : ∀ (i : Nat) (W : World), i < L → Below wr.heap.size wr W → Calls Try.prog 47 #[.int .i64 i, .pointer (some ⟨w1.heap.size, 0, none⟩), .pointer (some ⟨w.heap.size, 0, none⟩), .pointer (some ⟨w1.heap.size + 1 + 1, 0, none⟩)] W (Ret (.bool (repS l ws i)) W) := fun i W hi h3 =>
          rep1_c HV.out i (by rw [HLL.out]; exact hi) A cap N _ _ _ (w1.heap.size + 1) (w.heap.size + 1 + 2) w.heap.size rfl (badF ws) W ((HL.out.below hbw).below (h3.mono hbw.size)) (Nat.le_trans hbw.size h3.size)
            ((h3.cell (p := ⟨w1.heap.size, 0, none⟩) (by show w1.heap.size < _; omega)).trans (by rw [HLL.out]; exact B8.out.cell 0)) ((h3.cell (p := ⟨w1.heap.size, 1, none⟩) (by show w1.heap.size < _; omega)).trans (B8.out.cell 1)) (by have := h3.size; omega)
            ((h3.cell (p := ⟨w.heap.size, 0, none⟩) (by show w.heap.size < _; omega)).trans (by rw [HLL.out]; exact C4.out)) (by have := h3.size; omega)
            ((h3.cell (p := ⟨w1.heap.size + 1 + 1, 0, none⟩) (by show w1.heap.size + 1 + 1 < _; omega)).trans (by rw [HLL.out]; exact B10.out.cell 0)) (by have := h3.size; omega)
            (fun j hj => (h3.cell (p := ⟨w1.heap.size + 1, j, none⟩) (by show w1.heap.size + 1 < _; omega)).trans ((B1.out.cell j).trans (badA_get L ws (by rw [← HLL.out]; exact hj)))) (by have := h3.size; omega) (BS.out.below h3 BS.out.lt)
        have HM := Lib.hid (marked_rep L (by omega) A cap (.slice (some ⟨w.heap.size + 1 + 2, 0, none⟩) N N) (repS l ws) _ _ _ wr hG)
        have c80 := B8.out.cell 0
        have c81 := B8.out.cell 1
        simp only [List.getElem?_toArray, List.getElem?_cons_zero, List.getElem?_cons_succ] at c80 c81
        clear hfin hG
        go_wp2_with fail
        ((with_reducible refine (HM.out).mono ?_); rintro e W4 ⟨hb4, A4, cap4, rfl, hi4⟩)
        have HI4 := Lib.hid hi4
        clear hi4
        go_wp2
        refine bodyPost_ret (v := .tuple #[.slice A4 (selF (repS l ws) L).length cap4, .int .i64 0]) (by simp only [results, Try.results20]; go_simp) rfl ⟨bl_trans hbw hb4, Or.inr ⟨by rw [HV.out, HLL.out, HK.out]; rfl, A4, cap4, by rw [HLL.out], ?_⟩⟩
        rw [HLL.out]
        exact HI4.out
end Go.Proofs.Ytkgklmmkkhbimaa
