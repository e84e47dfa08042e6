/- Bench: Repair: the steps that rest on a wrong one. -/
import Derived.Test.YtkgklmmkkhbimaaBenchI
namespace Go.Proofs.Ytkgklmmkkhbimaa
open Go Go.RowKit Go.Shelf
attribute [local go_sem] Oper.semAt_some

/-- Has one of the first k steps of the way been bad? -/
def hitK (l : List Bt) (x : Int) (bad : Nat → Bool) (k : Nat) : Bool := (List.range k).any fun j => bad (stF l (itL l x j)).toNat
def hitB (l : List Bt) (x : Int) (bad : Nat → Bool) : Bool := hitK l x bad (wayK l x)
theorem hitK_succ (l : List Bt) (x : Int) (bad : Nat → Bool) (k : Nat) : hitK l x bad (k + 1) = (hitK l x bad k || bad (stF l (itL l x k)).toNat) := by
  simp [hitK, List.range_succ]
theorem hit_of {l : List Bt} {x : Int} {bad : Nat → Bool} {k : Nat} (hk : k < wayK l x) (h : bad (stF l (itL l x k)).toNat = true) : hitB l x bad = true := by
  unfold hitB hitK
  exact List.any_eq_true.2 ⟨k, by simp [hk], h⟩

set_option maxRecDepth 100000 in
set_option maxHeartbeats 4000000 in
theorem rep1_c {n : Int} {l : List Bt} (hv : vld n l = true) (i : Nat) (hi : i < l.length) (A : Option Addr) (cap N Bp Bl Bb Bd Bs B0 : Nat) (hN : (N : Int) = n) (bad : Nat → Bool) (w : World) (hl : Lst w B0 A l) (hB0 : B0 ≤ w.heap.size)
    (hp0 : w.cell? ⟨Bp, 0, none⟩ = some (.slice A l.length cap)) (hp1 : w.cell? ⟨Bp, 1, none⟩ = some (.slice (some ⟨Bs, 0, none⟩) N N)) (hpl : Bp < w.heap.size) (hll : w.cell? ⟨Bl, 0, none⟩ = some (.slice A l.length cap)) (hll2 : Bl < w.heap.size)
    (hbb : w.cell? ⟨Bb, 0, none⟩ = some (.slice (some ⟨Bd, 0, none⟩) l.length l.length)) (hbl : Bb < w.heap.size) (hbd : ∀ j, j < l.length → w.cell? ⟨Bd, j, none⟩ = some (.bool (bad j))) (hbd2 : Bd < w.heap.size) (hs : Blk w Bs 3 (stA N l)) :
    Calls Try.prog 47 #[.int .i64 i, .pointer (some ⟨Bp, 0, none⟩), .pointer (some ⟨Bl, 0, none⟩), .pointer (some ⟨Bb, 0, none⟩)] w (Ret (.bool (hitB l (l.getD i default).to bad)) w) := by
  obtain ⟨b, hb⟩ : ∃ b, l[i]? = some b := ⟨l[i], by simp [hi]⟩
  have hbD : l.getD i default = b := by rw [List.getD_eq_getElem?_getD, hb]; rfl
  rw [hbD]
  have hok := ok_parts (vld_at hv hb)
  have hlen := vld_len hv
  obtain ⟨bl, off, rfl, hbl1, hcl⟩ := hl (by omega)
  have hto := (hcl i b hb).2.1
  have hx0 : 0 ≤ b.to := by omega
  have hxn : b.to < n := by omega
  have HV := Lib.hid hv
  have HL : Hid (Lst w B0 (some ⟨bl, off, none⟩) l) := hl
  have HS := Lib.hid hs
  have HBD := Lib.hid hbd
  have HBB := Lib.hid hbb
  clear hbD hb hok hl hcl hv hs hbd hbb
  generalize hLL : l.length = L at *
  have HLL := Lib.hid hLL
  have hL39 : L ≤ 39 := by omega
  have HN := Lib.hid hN
  clear hLL hlen hN
  generalize b.to = x at *
  refine calls_of_marks Try.func47 rfl ?_
  simp only [Try.ntmps47, List.size_toArray, List.length_cons, List.length_nil, Nat.reduceAdd, Nat.reduceSub, Array.replicate_succ, Array.replicate_zero, List.push_toArray, List.append_toArray, List.nil_append, List.cons_append]
  go_wp2
  (refine wp_region_bl [0,1,2,3,4,5] [6] (by kernel_rfl) (by kernel_rfl) (by rfl) ?_
   simp only [pickI, pick, List.getElem?_cons_succ, List.getElem?_cons_zero]
   iterate 6 (first
     | (refine head_val (by rfl) (by rfl) ?_
        apply Exists.intro
        refine ⟨fun X hX => ?_, ?_⟩
        · (obtain ⟨qz, qc, qf⟩ := bcl hX.out (by first | (simp; rfl) | rfl)
           go_simp
           first | done | rfl | exact ⟨rfl, rfl⟩)
        simp only [Act.put, List.setIfInBounds_toArray, List.set_cons_zero, List.set_cons_succ])
     | (refine head_pass (by rfl) ?_
        simp only [Act.put, List.setIfInBounds_toArray, List.set_cons_zero, List.set_cons_succ]))
   refine head_nil ?_
   intro w' hw'
   have hb := hw'.out
   clear hw'
   obtain ⟨hz, hc, hf⟩ := bcl hb (by first | (simp; rfl) | rfl))
  have hz0 : w.heap.size + 1 ≤ w'.heap.size := hz
  go_wp2_with (go_at_call 48; ((with_reducible refine (way_c _ _ _ _).mono ?_); rintro e w' ⟨rfl, rfl⟩))
  have hW : ∀ o1 o2, Below w.heap.size w ((w'.alloc o1).alloc o2) := fun o1 o2 => by (repeat (first | (with_reducible exact bl_refl _) | (with_reducible refine bl_drew ?_) | (with_reducible refine bl_alloc ?_ _) | (with_reducible refine bl_set' ?_ ?_; · (first | omega | (simp; done) | (simp; omega))) | (with_reducible refine bl_last (by assumption) ?_) | (with_reducible refine bl_drewN ?_ _)))
  have hbs := HS.out.lt
  have hrow0 : Blk w' w.heap.size 4 #[.bool false] := (Blk.new w _ _).below hb (by simp)
  refine wp_range rfl (enters_of Try.func64 (by kernel_rfl) rfl)
    (way1_c HV.out hx0 hxn (some ⟨bl, off, none⟩) cap N (w'.heap.size + 1) w'.heap.size Bs w.heap.size w.heap.size HN.out _ ((HL.out.more hB0).below (hW _ _)) (by omega) (by omega) (by simp; omega)
      (by rw [HLL.out]; exact (Blk.new' _ _ _ _ (by simp)).alloc _) (HS.out.below (hW _ _) hbs) (by omega) (by omega) (by omega) (by omega))
    4 (fun _ => #[.bool false]) #[.bool true] (hitB l x bad = true) (fun k => hitK l x bad k = false) rfl 3 (Blk.new' _ _ _ _ (by simp)) (by omega) ((hrow0.alloc _).alloc _) rfl ?hround ?hdone ?hstop
  case hround =>
    intro ll k W hk hpk
    obtain ⟨q1, q2⟩ := way_spec HV.out hx0 hxn
    obtain ⟨t1, t2⟩ := q2 k hk
    have hst := all_set HV.out t1 t2
    have hslt := stF_lt l (itL l x k)
    have hsl : stF l (itL l x k) < L := by have := HLL.out; omega
    have hnext := hitK_succ l x bad k
    have hhit := hit_of (l := l) (x := x) (bad := bad) hk
    rw [hpk, Bool.false_or] at hnext
    have HNX := Lib.hid hnext
    have HHIT := Lib.hid hhit
    clear q1 q2 t1 t2 hslt hnext hhit hpk
    generalize stF l (itL l x k) = st at *
    gi_wp2
    refine ⟨trivial, fun W2 hB2 hr2 => ?_⟩
    have c1 : W2.cell? ⟨Bb, 0, none⟩ = some (.slice (some ⟨Bd, 0, none⟩) L L) := by
      rw [hB2.cell (p := ⟨Bb, 0, none⟩) (by simp; omega) (by simp; omega) (by simp; omega), (hW _ _).cell (p := ⟨Bb, 0, none⟩) hbl]
      exact HBB.out
    have c2 : W2.cell? ⟨Bd, st.toNat, none⟩ = some (.bool (bad st.toNat)) := by
      rw [hB2.cell (p := ⟨Bd, st.toNat, none⟩) (by simp; omega) (by simp; omega) (by simp; omega), (hW _ _).cell (p := ⟨Bd, st.toNat, none⟩) hbd2]
      exact HBD.out st.toNat (by omega)
    have c3 := hr2.cell 0
    have f3 := hr2.frozen 0
    simp only [List.getElem?_toArray, List.getElem?_cons_zero] at c3
    have HR2 := Lib.hid hr2
    clear hr2
    cases hbad : bad st.toNat
    · rw [hbad] at c2
      have HBAD := Lib.hid hbad
      clear hbad
      gi_wp2
      exact ⟨World.grownBy.refl _ _, HR2.out, HNX.out.trans HBAD.out⟩
    · rw [hbad] at c2
      have HBAD := Lib.hid hbad
      clear hbad
      gi_wp2
      exact ⟨grown_set _ _ _ _, HR2.out.set_ 0 _, HHIT.out HBAD.out⟩
  case hdone =>
    intro W hBW hsz hr hpk hD
    simp only [World.size_alloc] at hsz hD
    have hV : hitB l x bad = false := hpk
    have c3 := hr.cell 0
    have f3 := hr.frozen 0
    simp only [List.getElem?_toArray, List.getElem?_cons_zero] at c3
    have HV2 := Lib.hid hV
    have HR := Lib.hid hr
    have HD := Lib.hid hD
    clear hpk hV hr hD
    go_wp2
    simp only [World.size_alloc]
    refine leaves_marks (B := w.heap.size) [_] _ ⟨(Below.heap_setCell _ _ _ _ (by show _ ≠ w.heap.size; omega)).trans HD.out, by simp, trivial⟩ (by simp; omega) (fun w3 hb3 hc3 => ⟨.bool (hitB l x bad), ?_, ?_⟩)
    · have hh := hc3 _ _ _ _ (HR.out.set_ 0 (.bool false))
      have c4 : w3.cell? ⟨w.heap.size, 0, none⟩ = some (.bool false) := Blk.cell hh 0
      rw [HV2.out]
      simp only [results, Try.results47]
      go_simp
    · refine ⟨rfl, Below.trans ?_ hb3⟩
      exact (Below.trans (hW _ _) (hBW.below (by simp; omega) (by omega) (Nat.le_refl _))).setCell (p := ⟨w.heap.size, 0, none⟩) (Nat.le_refl _) _
  case hstop =>
    intro W hBW hsz hr hx hD
    simp only [World.size_alloc] at hsz hD
    have HV2 := Lib.hid hx
    have HR := Lib.hid hr
    have HD := Lib.hid hD
    clear hx hr hD
    go_wp2
    simp only [World.size_alloc]
    refine leaves_marks (B := w.heap.size) [_] _ ⟨HD.out, by simp, trivial⟩ (by simp; omega) (fun w3 hb3 hc3 => ⟨.bool (hitB l x bad), ?_, ?_⟩)
    · have hh := hc3 _ _ _ _ HR.out
      have c4 : w3.cell? ⟨w.heap.size, 0, none⟩ = some (.bool true) := Blk.cell hh 0
      rw [HV2.out]
      simp only [results, Try.results47]
      go_simp
    · refine ⟨rfl, Below.trans ?_ hb3⟩
      exact Below.trans (hW _ _) (hBW.below (by simp; omega) (by omega) (Nat.le_refl _))
end Go.Proofs.Ytkgklmmkkhbimaa
