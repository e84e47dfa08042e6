/- Readings: settle. Readings: settle, the walk. -/
import Derived.Test.YtehifkdfbiebfaaDoorK23
import Derived.Test.YtehifkdfbiebfaaDoorK24
import Derived.Shelf.RegionOpen
import Derived.Test.YtehifkdfbiebfaaDoorK25
import Derived.WalkMore
namespace Go.Proofs.YtehifkdfbiebfaaDoor
open Go Go.RowKit

def tabV (s : TS) (i : Nat) : Value := if i < 40 then .bool (s.kn i) else if i < 80 then .int .i64 (s.fa (i - 40)) else .int .i64 (s.by' (i - 80))
def tabA (s : TS) : Array Value := ((List.range 120).map (tabV s)).toArray
theorem tabV_kn (s : TS) {i : Nat} (h : i < 40) : tabV s i = .bool (s.kn i) := by unfold tabV; rw [if_pos h]
theorem tabV_fa (s : TS) {i : Nat} (h : ¬ i < 40) (h2 : i < 80) : tabV s i = .int .i64 (s.fa (i - 40)) := by unfold tabV; rw [if_neg h, if_pos h2]
theorem tabV_by (s : TS) {i : Nat} (h : ¬ i < 40) (h2 : ¬ i < 80) : tabV s i = .int .i64 (s.by' (i - 80)) := by unfold tabV; rw [if_neg h, if_neg h2]
theorem tab_get (s : TS) {i : Nat} (h : i < 120) : (tabA s)[i]? = some (tabV s i) := by
  unfold tabA
  rw [List.getElem?_toArray, List.getElem?_map, List.getElem?_range h]; rfl
theorem tab_kn (s : TS) {i : Nat} (h : i < 40) : (tabA s)[i]? = some (.bool (s.kn i)) := by rw [tab_get s (by omega)]; unfold tabV; rw [if_pos h]
theorem tab_fa (s : TS) {i : Nat} (h : i < 40) : (tabA s)[40 + i]? = some (.int .i64 (s.fa i)) := by
  rw [tab_get s (by omega)]; unfold tabV; rw [if_neg (by omega), if_pos (by omega), show 40 + i - 40 = i by omega]
theorem tab_by (s : TS) {i : Nat} (h : i < 40) : (tabA s)[80 + i]? = some (.int .i64 (s.by' i)) := by
  rw [tab_get s (by omega)]; unfold tabV; rw [if_neg (by omega), if_neg (by omega), show 80 + i - 80 = i by omega]
theorem tab_size (s : TS) : (tabA s).size = 120 := by simp [tabA]
theorem tab_put (s : TS) (R : Nat) (e : Ed) (h : e.to < 40) : (((tabA s).setIfInBounds e.to (.bool true)).setIfInBounds (40 + e.to) (.int .i64 (s.fa e.fr + e.mo))).setIfInBounds (80 + e.to) (.int .i64 e.st) = tabA (s.put R e) := by
  apply Array.ext
  · simp [tabA]
  · intro i h1 h2
    have hi : i < 120 := by simpa [tabA] using h2
    rw [Array.getElem_setIfInBounds (by simpa [tabA] using hi), Array.getElem_setIfInBounds (by simpa [tabA] using hi), Array.getElem_setIfInBounds (by simpa [tabA] using hi)]
    simp only [tabA, List.getElem_toArray, List.getElem_map, List.getElem_range]
    by_cases h40 : i < 40
    · rw [if_neg (by omega), if_neg (by omega), tabV_kn s h40, tabV_kn _ h40]
      show _ = Value.bool (updF s.kn e.to true i)
      unfold updF
      by_cases hh : e.to = i
      · rw [if_pos hh, if_pos hh.symm]
      · rw [if_neg hh, if_neg (fun q => hh q.symm)]
    · by_cases h80 : i < 80
      · rw [if_neg (by omega), tabV_fa s h40 h80, tabV_fa _ h40 h80]
        show _ = Value.int .i64 (updF s.fa e.to (s.fa e.fr + e.mo) (i - 40))
        unfold updF
        by_cases hh : 40 + e.to = i
        · rw [if_pos hh, if_pos (by omega)]
        · rw [if_neg hh, if_neg (by omega), if_neg (by omega)]
      · rw [tabV_by s h40 h80, tabV_by _ h40 h80]
        show _ = Value.int .i64 (updF s.by' e.to e.st (i - 80))
        unfold updF
        by_cases hh : 80 + e.to = i
        · rw [if_pos hh, if_pos (by omega)]
        · rw [if_neg hh, if_neg (by omega), if_neg (by omega), if_neg (by omega)]
theorem tab_la (s : TS) (x : Int) : tabA { s with la := x } = tabA s := rfl

def FaBd (s : TS) (c : Int) : Prop := ∀ v, -c ≤ s.fa v ∧ s.fa v ≤ c
theorem relax_bd {s : TS} {c : Int} (h : FaBd s c) (R : Nat) (e : Ed) (h1 : -100000000000000 ≤ e.mo) (h2 : e.mo ≤ 100000000000000) : FaBd (s.relax R e) (c + 100000000000000) := fun v => by
  have hv := h v
  have hf := h e.fr
  unfold TS.relax
  split
  · show -_ ≤ updF s.fa e.to (s.fa e.fr + e.mo) v ∧ updF s.fa e.to (s.fa e.fr + e.mo) v ≤ _
    unfold updF; split <;> omega
  · omega
theorem rnd_bd {n : Nat} {l : List Rd} (hl : RdOk n l) {s : TS} {c : Int} (h : FaBd s c) (R : Nat) : ∀ j, j ≤ 2 * l.length → FaBd (rndK l R s j) (c + j * 100000000000000)
  | 0, _ => fun v => by have := h v; show -_ ≤ s.fa v ∧ s.fa v ≤ _; omega
  | j + 1, hj => by
    have ih := rnd_bd hl h R j (by omega)
    obtain ⟨_, _, _, b1, b2⟩ := ed_ok hl (j := j) (by omega)
    have := relax_bd ih R (edAt l j) b1 b2
    rw [show c + ((j + 1 : Nat) : Int) * 100000000000000 = c + (j : Int) * 100000000000000 + 100000000000000 by push_cast; omega]
    exact this
theorem sR_bd {n : Nat} {l : List Rd} (hl : RdOk n l) (kn : Nat → Bool) : ∀ r, FaBd (sR l (ts0 kn) r) (r * 40000000000000000)
  | 0 => fun v => by show -_ ≤ (0 : Int) ∧ (0 : Int) ≤ _; simp
  | r + 1 => fun v => by
    have h := rnd_bd hl (sR_bd hl kn r) (r + 1) (2 * l.length) (Nat.le_refl _) v
    have h200 := hl.2.1
    show -_ ≤ (rndK l (r + 1) (sR l (ts0 kn) r) (2 * l.length)).fa v ∧ (rndK l (r + 1) (sR l (ts0 kn) r) (2 * l.length)).fa v ≤ _
    push_cast at h ⊢
    omega
theorem rnd_la {n : Nat} {l : List Rd} (hl : RdOk n l) (R : Nat) (s : TS) : ∀ j, j ≤ 2 * l.length → -1 ≤ (rndK l R s j).la ∧ (rndK l R s j).la < n
  | 0, _ => by show (-1 : Int) ≤ -1 ∧ (-1 : Int) < n; omega
  | j + 1, hj => by
    have ih := rnd_la hl R s j (by omega)
    obtain ⟨_, b, _⟩ := ed_ok hl (j := j) (by omega)
    show -1 ≤ ((rndK l R s j).relax R (edAt l j)).la ∧ ((rndK l R s j).relax R (edAt l j)).la < n
    unfold TS.relax
    split
    · show -1 ≤ ((edAt l j).to : Int) ∧ ((edAt l j).to : Int) < n; omega
    · exact ih
theorem rsteps_c (A : Option Addr) (L cap : Nat) (w : World) : Calls Tryd.prog 130 #[.slice A L cap] w fun e w' => e = .returned (.func (.func 151) #[] #[.pointer (some ⟨w.heap.size, 0, none⟩)]) ∧ w.alloc (.cells #[.slice A L cap] 33) = w' := by
  have hmf : ∀ (fn : Fn) (first cap : Array Value) (w : World), (Instr.makeFunc fn first cap).run Tryd.prog w = .ok (.func fn first cap) w := fun _ _ _ _ => rfl
  go_enter Tryd.func130, Tryd.ntmps130
  go_wp2
  go_ret
  exact ⟨rfl, rfl⟩
end Go.Proofs.YtehifkdfbiebfaaDoor
namespace Go.Proofs.YtehifkdfbiebfaaDoor
open Go Go.RowKit Go.Shelf
attribute [local go_sem] Oper.semAt_some

def SetP (n : Nat) (l : List Rd) (kn : Nat → Bool) (B : Nat) (w : World) (e : Ending) (w' : World) : Prop :=
  But B B w w' ∧ ∃ m, Done n l kn m ∧ e = .returned (.int .i64 (sR l (ts0 kn) (m + 1)).la) ∧ Blk w' B 128 (tabA (sR l (ts0 kn) (m + 1)))
theorem relax_no {s : TS} {e : Ed} {R : Nat} (h : s.go e = false) : s.relax R e = s := by unfold TS.relax; rw [h]; rfl
theorem relax_yes {s : TS} {e : Ed} {R : Nat} (h : s.go e = true) : s.relax R e = s.put R e := by unfold TS.relax; rw [h]; rfl
theorem But.back {x z : Nat} {a b c : World} (h : But x x a b) (k : But x z b c) (hz : a.heap.size ≤ z) : But x x a c :=
  ⟨k.os.trans h.os, k.tape.trans h.tape, k.output.trans h.output, Nat.le_trans h.size k.size, fun g hg h1 _ => (k.block g (by have := h.size; omega) h1 (by omega)).trans (h.block g hg h1 h1)⟩
theorem But.past {x y C : Nat} {a b c : World} (h : But x y a b) (k : Below C b c) (hC : a.heap.size ≤ C) : But x y a c :=
  ⟨k.os.trans h.os, k.tape.trans h.tape, k.output.trans h.output, Nat.le_trans h.size k.size, fun g hg h1 h2 => (k.block g (by omega)).trans (h.block g hg h1 h2)⟩
theorem exit_letter {K : Act → World → Prop} {Q : Exit → Act → World → Prop} {e : Exit} {a : Act} {w : World} (h : ∀ W, W = w → Exit.then K Q e a W) : Exit.then K Q e a w := h w rfl
set_option maxRecDepth 100000 in
set_option maxHeartbeats 8000000 in
theorem settle_c {n : Nat} {l : List Rd} (hl : RdOk n l) (kn : Nat → Bool) (A : Option Addr) (cap B : Nat) (w : World) (hr : Rds w B A l) (hB : Blk w B 128 (tabA (ts0 kn))) :
    Calls Tryd.prog 110 #[.pointer (some ⟨B, 0, none⟩), .int .i64 (n : Int), .slice A l.length cap] w (SetP n l kn B w) := by
  have HL := Lib.hid hl
  have HR := Lib.hid hr
  have HB := Lib.hid hB
  have HS := Lib.hid (fun W => rsteps_c A l.length cap W)
  have HI := Lib.hid (fun Bx x y => steps1_c hl A cap Bx x y)
  have hBw := hB.lt
  have hn40 := hl.1.2
  have hn1 := hl.1.1
  have h200 := hl.2.1
  clear hl hr hB
  refine calls_of_marks Tryd.func110 rfl ?_
  simp only [Tryd.ntmps110, List.size_toArray, List.length_cons, List.length_nil, Nat.reduceAdd, Nat.reduceSub, Array.replicate_succ, Array.replicate_zero, List.push_toArray, List.append_toArray, List.nil_append, List.cons_append]
  go_wp2
  go_step3
  go_wp2
  go_step3
  refine exit_letter ?_
  intro w1 hw1
  have hb1 : Below w.heap.size w w1 := by rw [hw1]; (repeat (first | (with_reducible exact bl_refl _) | (with_reducible refine bl_drew ?_) | (with_reducible refine bl_alloc ?_ _) | (with_reducible refine bl_set' ?_ ?_; · (first | omega | (simp; done) | (simp; omega))) | (with_reducible refine bl_last (by assumption) ?_) | (with_reducible refine bl_drewN ?_ _)))
  have hs1 : w1.heap.size = w.heap.size + 2 := by rw [hw1]; simp
  have T1 : Blk w1 w.heap.size 213 #[.pointer (some ⟨B, 0, none⟩)] := by
    rw [hw1]
    exact (Blk.new _ _ _).alloc _
  have L1 : Blk w1 (w.heap.size + 1) 3 #[.int .i64 (-1)] := by
    rw [hw1]
    exact blkAt _ _ _ _ (by simp)
  have B1 : Blk w1 B 128 (tabA (ts0 kn)) := by rw [hw1]; exact (HB.out.alloc _).alloc _
  clear hw1
  have HB1 := Lib.hid B1
  have HL1 := Lib.hid L1
  have HT1 := Lib.hid T1
  have Hb1 := Lib.hid hb1
  clear B1 L1 T1 hb1
  go_wp2
  refine wp_loop_over [8,12,13,14,15,78,79,80,81,82,83,84] (fun f D wr => ∃ (r : Nat) (x : Int) (Ds : List Nat), r ≤ n + 1 ∧ f 8 = .int .i64 (r : Int) ∧ D = marks Ds ∧ Hid (Marked wr Ds) ∧ Hid (∀ d ∈ Ds, w1.heap.size ≤ d ∧ d < wr.heap.size) ∧ Hid (But B (w.heap.size + 1) w1 wr) ∧ Hid (Blk wr B 128 (tabA (sR l (ts0 kn) r))) ∧ Hid (Blk wr (w.heap.size + 1) 3 #[.int .i64 x])) (fun f => n + 2 - (intOf (f 8)).toNat) ?_ ?_
  · exact ⟨0, -1, [], Nat.zero_le _, rfl, rfl, trivial, fun _ h => absurd h (by simp), But.refl _, HB1.out, HL1.out⟩
  rintro f D wr ⟨r, x, Ds, hrn, h8, rfl, HMk, HDs, HBut, HTb, HLa⟩
  simp only [overlay, List.foldl_cons, List.foldl_nil, List.setIfInBounds_toArray, List.set_cons_zero, List.set_cons_succ]
  rw [h8]
  clear h8
  have hzr : w1.heap.size ≤ wr.heap.size := HBut.out.size
  have c7 := HLa.out.cell 0
  have f7 := HLa.out.frozen 0
  have l7 := HLa.out.lt
  simp only [List.getElem?_toArray, List.getElem?_cons_zero] at c7
  go_wp2_with (go_at_call 130; ((with_reducible refine (HS.out _).mono ?_); rintro e w' ⟨rfl, rfl⟩))
  refine wp_letter ?_
  intro wX hwX
  have zX : wX.heap.size = wr.heap.size + 1 := by rw [hwX]; simp
  have TbX : Blk wX B 128 (tabA (sR l (ts0 kn) r)) := by rw [hwX]; exact (HTb.out.far (by show B ≠ w.heap.size + 1; omega) _).alloc _
  have LaX : Blk wX (w.heap.size + 1) 3 #[.int .i64 (-1)] := by rw [hwX]; exact (HLa.out.set_ 0 _).alloc _
  have BxX : Blk wX wr.heap.size 33 #[.slice A l.length cap] := by rw [hwX]; exact blkAt _ _ _ _ (by simp)
  have BuX : But B (w.heap.size + 1) w1 wX := by rw [hwX]; exact (HBut.out.setY 0 _).alloc _
  have MkX : Marked wX Ds := HMk.out.same fun d hd => by
    have h1 := HDs.out d hd
    rw [hwX]
    exact (Below.heap_alloc _ _ _ (by simp only [World.setCell, Array.size_modify]; exact h1.2)).trans (Below.heap_setCell _ _ _ _ (by show d ≠ w.heap.size + 1; omega))
  have TpX : Blk wX w.heap.size 213 #[.pointer (some ⟨B, 0, none⟩)] := HT1.out.but BuX (by omega) (by omega)
  have RdX : Rds wX B A l := ((HR.out.below (Hb1.out.mono (by omega)))).but (by omega) (Nat.le_refl _) (by omega) BuX
  have HTbX := Lib.hid TbX
  have HLaX := Lib.hid LaX
  have HBxX := Lib.hid BxX
  have HBuX := Lib.hid BuX
  have HMkX := Lib.hid MkX
  have HTpX := Lib.hid TpX
  have HRdX := Lib.hid RdX
  clear hwX TbX LaX BxX BuX MkX TpX RdX c7 f7 l7
  refine wp_rangeX rfl (enters_of Tryd.func151 (by kernel_rfl) rfl) (HI.out wr.heap.size B (w.heap.size + 1)) (fun _ => rfl) (by omega) (by omega)
    (fun k W => But B (w.heap.size + 1) wX W ∧ Blk W B 128 (tabA (rndK l (r + 1) (sR l (ts0 kn) r) k)) ∧ Blk W (w.heap.size + 1) 3 #[.int .i64 (rndK l (r + 1) (sR l (ts0 kn) r) k).la]) ?hgrow ?hput ?hSL ?h0 ?hround ?hdone
  case hgrow =>
    rintro k W W' ⟨h1, h2, h3⟩ hb
    exact ⟨h1.trans (But.of_below hb), h2.below hb h2.lt, h3.below hb h3.lt⟩
  case hput =>
    rintro k W o ⟨h1, h2, h3⟩ hlt
    exact ⟨h1.put (by omega) _, h2.same (World.putObj_heap_other (by omega)), h3.same (World.putObj_heap_other (by omega))⟩
  case hSL =>
    rintro k W ⟨h1, h2, h3⟩
    have hs := h1.size
    exact ⟨HBxX.out.but h1 (by omega) (by omega), (HRdX.out.but (by omega) (Nat.le_refl _) (by omega) h1).more (by omega)⟩
  case h0 => exact ⟨But.refl _, HTbX.out, HLaX.out⟩
  case hround =>
    intro lp k W hk hWz
    obtain ⟨b1, b2, b3, b4, b5⟩ := ed_ok HL.out hk
    have hbd := rnd_bd HL.out (sR_bd HL.out kn r) (r + 1) k (by omega)
    have hnx : rndK l (r + 1) (sR l (ts0 kn) r) (k + 1) = (rndK l (r + 1) (sR l (ts0 kn) r) k).relax (r + 1) (edAt l k) := rfl
    have HNX := Lib.hid hnx
    clear hnx
    generalize rndK l (r + 1) (sR l (ts0 kn) r) k = s at *
    generalize edAt l k = e at *
    obtain ⟨es, ef, et, em⟩ := e
    simp only [Ed.val] at *
    have hff := hbd ef
    have hft := hbd et
    have hf40 : ef < 40 := by omega
    have ht40 : et < 40 := by omega
    have hi1 : (ef : Int) < 40 := by omega
    have hi2 : (et : Int) < 40 := by omega
    have hwr : IntKind.i64.wrap (s.fa ef + em) = s.fa ef + em := by rw [IntKind.wrap_i64]; omega
    clear hff hft hbd
    gi_wp2
    refine ⟨by (repeat (first | (with_reducible exact bl_refl _) | (with_reducible refine bl_drew ?_) | (with_reducible refine bl_alloc ?_ _) | (with_reducible refine bl_set' ?_ ?_; · (first | omega | (simp; done) | (simp; omega))) | (with_reducible refine bl_last (by assumption) ?_) | (with_reducible refine bl_drewN ?_ _))), ?_⟩
    rintro o W2 hW2 ⟨hBt, hTb, hLa⟩ hz2
    have E2 : Blk W2 W.heap.size 137 #[.int .i64 (ef : Int), .int .i64 (et : Int), .int .i64 em] := by
      rw [hW2]
      exact Blk.same (Blk.new W _ _) (World.putObj_heap_other (by omega))
    have z2 : W2.heap.size = W.heap.size + 1 := by rw [hW2]; simp
    have T2 := HTpX.out.but hBt (by omega) (by omega)
    clear hW2
    have ct := T2.cell 0
    have c1 := E2.cell 0
    have c2 := E2.cell 1
    have c3 := E2.cell 2
    have k1 := (hTb.cell ef).trans (tab_kn s hf40)
    have k2 := (hTb.cell et).trans (tab_kn s ht40)
    have k3 := (hTb.cell (40 + ef)).trans (tab_fa s hf40)
    have k4 := (hTb.cell (40 + et)).trans (tab_fa s ht40)
    have k5 := (hTb.cell (80 + et)).trans (tab_by s ht40)
    have v1 := hTb.lt
    have v2 := T2.lt
    have v3 := E2.lt
    simp only [List.getElem?_toArray, List.getElem?_cons_zero, List.getElem?_cons_succ] at ct c1 c2 c3
    have HTb2 := Lib.hid hTb
    have HBt := Lib.hid hBt
    have HLa2 := Lib.hid hLa
    have HE2 := Lib.hid E2
    have HT2 := Lib.hid T2
    clear hTb hLa E2 T2 hBt
    gi_wp2
    (refine wpIn_region_bl [0,1,2,3,4,5,6,7,8,9] [10] (by kernel_rfl) (by kernel_rfl) (by kernel_rfl) (by rintro ⟨_, _, h⟩; exact h) (by rfl) ?_
     simp only [pickI, pick, List.getElem?_cons_succ, List.getElem?_cons_zero]
     iterate 10 (first
       | (refine head_val (by rfl) (by first | exact wanted_free rfl | rfl) ?_
          apply Exists.intro
          refine ⟨fun X hX => ?_, ?_⟩
          · (obtain ⟨qz, qc, qf⟩ := bcl hX.out (by first | (simp; rfl) | rfl)
             go_simp
             first | done | rfl | exact ⟨rfl, rfl⟩)
          simp only [Act.put, List.setIfInBounds_toArray, List.set_cons_zero, List.set_cons_succ])
       | (refine head_pass (by rfl) ?_
          simp only [Act.put, List.setIfInBounds_toArray, List.set_cons_zero, List.set_cons_succ]))
     refine head_nil ?_
     intro w' hw'
     have hb := hw'.out
     clear hw'
     obtain ⟨hz, hc, hf⟩ := bcl hb (by first | (simp; rfl) | rfl))
    go_wp2
    have hb3 := hb
    have hz3 := hz
    obtain ⟨hz, hc, hf⟩ := bcl hb (by first | (simp; rfl) | rfl)
    clear hb
    gi_wp2
    have hw : (s.kn ef = false ∧ s.go ⟨es, ef, et, em⟩ = false) ∨ (s.kn ef = true ∧ s.kn et = true ∧ decide (s.fa ef + em < s.fa et) = false ∧ s.go ⟨es, ef, et, em⟩ = false) ∨
        (s.kn ef = true ∧ s.kn et = true ∧ decide (s.fa ef + em < s.fa et) = true ∧ s.go ⟨es, ef, et, em⟩ = true) ∨ (s.kn ef = true ∧ s.kn et = false ∧ s.go ⟨es, ef, et, em⟩ = true) := by
      unfold TS.go
      simp only
      cases s.kn ef <;> cases s.kn et <;> cases decide (s.fa ef + em < s.fa et) <;> simp
    rcases hw with ⟨h1, hg⟩ | ⟨h1, h2, h3, hg⟩ | ⟨h1, h2, h3, hg⟩ | ⟨h1, h2, hg⟩
    all_goals
      rw [h1] at k1
      try rw [h2] at k2
    · skip
      (refine wpIn_region_bl [0,1,2,3,4,5,6,7,8,9,10,11,12,13,14,15,16,17,18,19,20,21,22,23,24,25,26,27] [] (by kernel_rfl) (by kernel_rfl) (by kernel_rfl) (by rintro ⟨_, _, h⟩; exact h) (by rfl) ?_
       simp only [pickI, pick, List.getElem?_cons_succ, List.getElem?_cons_zero]
       iterate 28 (first
         | (refine head_val (by rfl) (by first | exact wanted_free rfl | rfl) ?_
            apply Exists.intro
            refine ⟨fun X hX => ?_, ?_⟩
            · (obtain ⟨qz, qc, qf⟩ := bcl hX.out (by first | (simp; rfl) | rfl)
               go_simp
               first | done | rfl | exact ⟨rfl, rfl⟩)
            simp only [Act.put, List.setIfInBounds_toArray, List.set_cons_zero, List.set_cons_succ])
         | (refine head_pass (by rfl) ?_
            simp only [Act.put, List.setIfInBounds_toArray, List.set_cons_zero, List.set_cons_succ]))
       refine head_nil ?_
       intro w' hw'
       have hb := hw'.out
       clear hw'
       obtain ⟨hz, hc, hf⟩ := bcl hb (by first | (simp; rfl) | rfl))
      go_wp2
      gi_wp2
      have hz4 := hb.size
      refine ⟨⟨HBt.out.trans (But.of_below (bl_trans hb3 hb)), ?_, ?_⟩, by omega, fun g hg _ _ => (bl_trans hb3 hb).block g hg⟩
      · rw [HNX.out, relax_no hg]
        exact HTb2.out.below (bl_trans hb3 hb) v1
      · rw [HNX.out, relax_no hg]
        exact HLa2.out.below (bl_trans hb3 hb) HLa2.out.lt
    · skip
      (refine wpIn_region_bl [0,1,2,3,4,5,6,7,8,9,10,11,12,13,14,15,16,17,18,19,20,21,22,23,24,25,26,27] [] (by kernel_rfl) (by kernel_rfl) (by kernel_rfl) (by rintro ⟨_, _, h⟩; exact h) (by rfl) ?_
       simp only [pickI, pick, List.getElem?_cons_succ, List.getElem?_cons_zero]
       iterate 28 (first
         | (refine head_val (by rfl) (by first | exact wanted_free rfl | rfl) ?_
            apply Exists.intro
            refine ⟨fun X hX => ?_, ?_⟩
            · (obtain ⟨qz, qc, qf⟩ := bcl hX.out (by first | (simp; rfl) | rfl)
               go_simp
               first | done | rfl | exact ⟨rfl, rfl⟩)
            simp only [Act.put, List.setIfInBounds_toArray, List.set_cons_zero, List.set_cons_succ])
         | (refine head_pass (by rfl) ?_
            simp only [Act.put, List.setIfInBounds_toArray, List.set_cons_zero, List.set_cons_succ]))
       refine head_nil ?_
       intro w' hw'
       have hb := hw'.out
       clear hw'
       obtain ⟨hz, hc, hf⟩ := bcl hb (by first | (simp; rfl) | rfl))
      go_wp2
      gi_wp2
      have hz4 := hb.size
      refine ⟨⟨HBt.out.trans (But.of_below (bl_trans hb3 hb)), ?_, ?_⟩, by omega, fun g hg _ _ => (bl_trans hb3 hb).block g hg⟩
      · rw [HNX.out, relax_no hg]
        exact HTb2.out.below (bl_trans hb3 hb) v1
      · rw [HNX.out, relax_no hg]
        exact HLa2.out.below (bl_trans hb3 hb) HLa2.out.lt
    · skip
      (refine wpIn_region_bl [0,1,2,3,4,5,6,7,8,9,10,11,12,13,14,15,16,17,18,19,20,21,22,23,24,25,26,27] [] (by kernel_rfl) (by kernel_rfl) (by kernel_rfl) (by rintro ⟨_, _, h⟩; exact h) (by rfl) ?_
       simp only [pickI, pick, List.getElem?_cons_succ, List.getElem?_cons_zero]
       iterate 28 (first
         | (refine head_val (by rfl) (by first | exact wanted_free rfl | rfl) ?_
            apply Exists.intro
            refine ⟨fun X hX => ?_, ?_⟩
            · (obtain ⟨qz, qc, qf⟩ := bcl hX.out (by first | (simp; rfl) | rfl)
               go_simp
               first | done | rfl | exact ⟨rfl, rfl⟩)
            simp only [Act.put, List.setIfInBounds_toArray, List.set_cons_zero, List.set_cons_succ])
         | (refine head_pass (by rfl) ?_
            simp only [Act.put, List.setIfInBounds_toArray, List.set_cons_zero, List.set_cons_succ]))
       refine head_nil ?_
       intro w' hw'
       have hb := hw'.out
       clear hw'
       obtain ⟨hz, hc, hf⟩ := bcl hb (by first | (simp; rfl) | rfl))
      go_wp2
      have hb4 := bl_trans hb3 hb
      have z4 := hb4.size
      have HTb4 := Lib.hid (HTb2.out.below hb4 v1)
      have HLa4 := Lib.hid (HLa2.out.below hb4 HLa2.out.lt)
      have HE4 := Lib.hid (HE2.out.below hb4 v3)
      have HT4 := Lib.hid (HT2.out.below hb4 v2)
      gi_wp2
      have q1 := HTb2.out.frozen et
      have q2 := HTb2.out.frozen (40 + et)
      have q3 := HTb2.out.frozen (80 + et)
      have HSS : ∀ (X : World) (i : Nat) (u : Value), (X.cell? ⟨w.heap.size, 0, none⟩ = some (.pointer (some ⟨B, 0, none⟩)) ∧ X.cell? ⟨W.heap.size, 1, none⟩ = some (.int .i64 (et : Int))) →
          ((X.setCell ⟨B, i, none⟩ u).drew.cell? ⟨w.heap.size, 0, none⟩ = some (.pointer (some ⟨B, 0, none⟩)) ∧ (X.setCell ⟨B, i, none⟩ u).drew.cell? ⟨W.heap.size, 1, none⟩ = some (.int .i64 (et : Int))) := fun X i u h => by
        have h1 : (X.setCell ⟨B, i, none⟩ u).cell? ⟨w.heap.size, 0, none⟩ = X.cell? ⟨w.heap.size, 0, none⟩ := World.cell?_setCell_other _ _ _ _ (fun e => by have := congrArg Addr.block e; simp at this; omega)
        have h2 : (X.setCell ⟨B, i, none⟩ u).cell? ⟨W.heap.size, 1, none⟩ = X.cell? ⟨W.heap.size, 1, none⟩ := World.cell?_setCell_other _ _ _ _ (fun e => by have := congrArg Addr.block e; simp at this; omega)
        exact ⟨h1.trans h.1, h2.trans h.2⟩
      refine wpIn_region_ht (fun X => X.cell? ⟨w.heap.size, 0, none⟩ = some (.pointer (some ⟨B, 0, none⟩)) ∧ X.cell? ⟨W.heap.size, 1, none⟩ = some (.int .i64 (et : Int))) [0,1,2,3,4,5,6,7,8,9,10,11,12,13,15,16,19,20] [14,17,18,21,22] (by kernel_rfl) (by kernel_rfl) (by kernel_rfl) (by kernel_rfl) (by rintro ⟨_, _, h⟩; exact h) (by rfl) (by rfl) (by intro _ _ _ _ _ h; exact h) ⟨HT4.out.cell 0, HE4.out.cell 1⟩ ?_
      simp only [pickI, List.getElem?_cons_succ, List.getElem?_cons_zero]
      iterate 18 (refine hs_val (by rfl) ?_
                  apply Exists.intro
                  refine ⟨fun X hX => ?_, ?_⟩
                  · (obtain ⟨q1, q2⟩ := hX
                     go_simp
                     first | done | rfl | exact ⟨rfl, rfl⟩)
                  simp only [Act.put, List.setIfInBounds_toArray, List.set_cons_zero, List.set_cons_succ])
      refine hs_nil ?_
      refine ts_op (by rfl) ?_
      intro K hK
      unfold Oper.wp
      go_simp
      refine hK.out _ _ (HSS _ _ _ ⟨HT4.out.cell 0, HE4.out.cell 1⟩) ?_
      clear hK
      refine ts_op (by rfl) ?_
      intro K hK
      unfold Oper.wp
      go_simp
      refine hK.out _ _ (HSS _ _ _ ⟨HT4.out.cell 0, HE4.out.cell 1⟩) ?_
      clear hK
      refine ts_op (by rfl) ?_
      intro K hK
      unfold Oper.wp
      go_simp
      refine hK.out _ _ (HSS _ _ _ (HSS _ _ _ ⟨HT4.out.cell 0, HE4.out.cell 1⟩)) ?_
      clear hK
      refine ts_op (by rfl) ?_
      intro K hK
      unfold Oper.wp
      go_simp
      refine hK.out _ _ (HSS _ _ _ (HSS _ _ _ ⟨HT4.out.cell 0, HE4.out.cell 1⟩)) ?_
      clear hK
      refine ts_op (by rfl) ?_
      intro K hK
      unfold Oper.wp
      go_simp
      refine hK.out _ _ (HSS _ _ _ (HSS _ _ _ (HSS _ _ _ ⟨HT4.out.cell 0, HE4.out.cell 1⟩))) ?_
      clear hK
      refine ts_nil ?_
      refine exit_letter ?_
      intro W5 hW5
      have B5 : But B (w.heap.size + 1) w' W5 := by rw [hW5]; exact ((((But.refl _).setX _ _).setX _ _).setX _ _).drew
      have T5 : Blk W5 B 128 (tabA (s.put (r + 1) ⟨es, ef, et, em⟩)) := by
        rw [hW5, ← tab_put s (r + 1) ⟨es, ef, et, em⟩ ht40]
        exact ((((HTb4.out.set_ et _).set_ (40 + et) _).set_ (80 + et) _).drew)
      have L5 : Blk W5 (w.heap.size + 1) 3 #[.int .i64 s.la] := by
        rw [hW5]
        exact ((((HLa4.out.far (by show w.heap.size + 1 ≠ B; omega) _).far (by show w.heap.size + 1 ≠ B; omega) _).far (by show w.heap.size + 1 ≠ B; omega) _).drew)
      have E5 := HE4.out.but B5 (by omega) (by omega)
      have R5 : But B (w.heap.size + 1) wX W5 := (HBt.out.trans (But.of_below hb4)).trans B5
      have z5 := B5.size
      clear hW5
      have c1 := E5.cell 1
      have f1 := L5.frozen 0
      have c2 := L5.cell 0
      have l1 := E5.lt
      have l2 := L5.lt
      simp only [List.getElem?_toArray, List.getElem?_cons_zero, List.getElem?_cons_succ] at c1 c2
      gi_wp2
      refine ⟨⟨R5.setY 0 _, ?_, ?_⟩, by simp only [World.setCell, Array.size_modify]; omega, fun g hg g1 g2 => ?_⟩
      · rw [HNX.out, relax_yes hg]
        exact T5.far (by show B ≠ w.heap.size + 1; omega) _
      · rw [HNX.out, relax_yes hg]
        exact L5.set_ 0 _
      · exact (Below.heap_setCell _ _ _ _ g2).trans ((B5.block g (by omega) g1 g2).trans (hb4.block g hg))
    · skip
      (refine wpIn_region_bl [0,1,2,3,4,5,6,7,8,9,10,11,12,13,14,15,16,17,18,19,20,21,22,23,24,25,26,27] [] (by kernel_rfl) (by kernel_rfl) (by kernel_rfl) (by rintro ⟨_, _, h⟩; exact h) (by rfl) ?_
       simp only [pickI, pick, List.getElem?_cons_succ, List.getElem?_cons_zero]
       iterate 28 (first
         | (refine head_val (by rfl) (by first | exact wanted_free rfl | rfl) ?_
            apply Exists.intro
            refine ⟨fun X hX => ?_, ?_⟩
            · (obtain ⟨qz, qc, qf⟩ := bcl hX.out (by first | (simp; rfl) | rfl)
               go_simp
               first | done | rfl | exact ⟨rfl, rfl⟩)
            simp only [Act.put, List.setIfInBounds_toArray, List.set_cons_zero, List.set_cons_succ])
         | (refine head_pass (by rfl) ?_
            simp only [Act.put, List.setIfInBounds_toArray, List.set_cons_zero, List.set_cons_succ]))
       refine head_nil ?_
       intro w' hw'
       have hb := hw'.out
       clear hw'
       obtain ⟨hz, hc, hf⟩ := bcl hb (by first | (simp; rfl) | rfl))
      go_wp2
      have hb4 := bl_trans hb3 hb
      have z4 := hb4.size
      have HTb4 := Lib.hid (HTb2.out.below hb4 v1)
      have HLa4 := Lib.hid (HLa2.out.below hb4 HLa2.out.lt)
      have HE4 := Lib.hid (HE2.out.below hb4 v3)
      have HT4 := Lib.hid (HT2.out.below hb4 v2)
      gi_wp2
      have q1 := HTb2.out.frozen et
      have q2 := HTb2.out.frozen (40 + et)
      have q3 := HTb2.out.frozen (80 + et)
      have HSS : ∀ (X : World) (i : Nat) (u : Value), (X.cell? ⟨w.heap.size, 0, none⟩ = some (.pointer (some ⟨B, 0, none⟩)) ∧ X.cell? ⟨W.heap.size, 1, none⟩ = some (.int .i64 (et : Int))) →
          ((X.setCell ⟨B, i, none⟩ u).drew.cell? ⟨w.heap.size, 0, none⟩ = some (.pointer (some ⟨B, 0, none⟩)) ∧ (X.setCell ⟨B, i, none⟩ u).drew.cell? ⟨W.heap.size, 1, none⟩ = some (.int .i64 (et : Int))) := fun X i u h => by
        have h1 : (X.setCell ⟨B, i, none⟩ u).cell? ⟨w.heap.size, 0, none⟩ = X.cell? ⟨w.heap.size, 0, none⟩ := World.cell?_setCell_other _ _ _ _ (fun e => by have := congrArg Addr.block e; simp at this; omega)
        have h2 : (X.setCell ⟨B, i, none⟩ u).cell? ⟨W.heap.size, 1, none⟩ = X.cell? ⟨W.heap.size, 1, none⟩ := World.cell?_setCell_other _ _ _ _ (fun e => by have := congrArg Addr.block e; simp at this; omega)
        exact ⟨h1.trans h.1, h2.trans h.2⟩
      refine wpIn_region_ht (fun X => X.cell? ⟨w.heap.size, 0, none⟩ = some (.pointer (some ⟨B, 0, none⟩)) ∧ X.cell? ⟨W.heap.size, 1, none⟩ = some (.int .i64 (et : Int))) [0,1,2,3,4,5,6,7,8,9,10,11,12,13,15,16,19,20] [14,17,18,21,22] (by kernel_rfl) (by kernel_rfl) (by kernel_rfl) (by kernel_rfl) (by rintro ⟨_, _, h⟩; exact h) (by rfl) (by rfl) (by intro _ _ _ _ _ h; exact h) ⟨HT4.out.cell 0, HE4.out.cell 1⟩ ?_
      simp only [pickI, List.getElem?_cons_succ, List.getElem?_cons_zero]
      iterate 18 (refine hs_val (by rfl) ?_
                  apply Exists.intro
                  refine ⟨fun X hX => ?_, ?_⟩
                  · (obtain ⟨q1, q2⟩ := hX
                     go_simp
                     first | done | rfl | exact ⟨rfl, rfl⟩)
                  simp only [Act.put, List.setIfInBounds_toArray, List.set_cons_zero, List.set_cons_succ])
      refine hs_nil ?_
      refine ts_op (by rfl) ?_
      intro K hK
      unfold Oper.wp
      go_simp
      refine hK.out _ _ (HSS _ _ _ ⟨HT4.out.cell 0, HE4.out.cell 1⟩) ?_
      clear hK
      refine ts_op (by rfl) ?_
      intro K hK
      unfold Oper.wp
      go_simp
      refine hK.out _ _ (HSS _ _ _ ⟨HT4.out.cell 0, HE4.out.cell 1⟩) ?_
      clear hK
      refine ts_op (by rfl) ?_
      intro K hK
      unfold Oper.wp
      go_simp
      refine hK.out _ _ (HSS _ _ _ (HSS _ _ _ ⟨HT4.out.cell 0, HE4.out.cell 1⟩)) ?_
      clear hK
      refine ts_op (by rfl) ?_
      intro K hK
      unfold Oper.wp
      go_simp
      refine hK.out _ _ (HSS _ _ _ (HSS _ _ _ ⟨HT4.out.cell 0, HE4.out.cell 1⟩)) ?_
      clear hK
      refine ts_op (by rfl) ?_
      intro K hK
      unfold Oper.wp
      go_simp
      refine hK.out _ _ (HSS _ _ _ (HSS _ _ _ (HSS _ _ _ ⟨HT4.out.cell 0, HE4.out.cell 1⟩))) ?_
      clear hK
      refine ts_nil ?_
      refine exit_letter ?_
      intro W5 hW5
      have B5 : But B (w.heap.size + 1) w' W5 := by rw [hW5]; exact ((((But.refl _).setX _ _).setX _ _).setX _ _).drew
      have T5 : Blk W5 B 128 (tabA (s.put (r + 1) ⟨es, ef, et, em⟩)) := by
        rw [hW5, ← tab_put s (r + 1) ⟨es, ef, et, em⟩ ht40]
        exact ((((HTb4.out.set_ et _).set_ (40 + et) _).set_ (80 + et) _).drew)
      have L5 : Blk W5 (w.heap.size + 1) 3 #[.int .i64 s.la] := by
        rw [hW5]
        exact ((((HLa4.out.far (by show w.heap.size + 1 ≠ B; omega) _).far (by show w.heap.size + 1 ≠ B; omega) _).far (by show w.heap.size + 1 ≠ B; omega) _).drew)
      have E5 := HE4.out.but B5 (by omega) (by omega)
      have R5 : But B (w.heap.size + 1) wX W5 := (HBt.out.trans (But.of_below hb4)).trans B5
      have z5 := B5.size
      clear hW5
      have c1 := E5.cell 1
      have f1 := L5.frozen 0
      have c2 := L5.cell 0
      have l1 := E5.lt
      have l2 := L5.lt
      simp only [List.getElem?_toArray, List.getElem?_cons_zero, List.getElem?_cons_succ] at c1 c2
      gi_wp2
      refine ⟨⟨R5.setY 0 _, ?_, ?_⟩, by simp only [World.setCell, Array.size_modify]; omega, fun g hg g1 g2 => ?_⟩
      · rw [HNX.out, relax_yes hg]
        exact T5.far (by show B ≠ w.heap.size + 1; omega) _
      · rw [HNX.out, relax_yes hg]
        exact L5.set_ 0 _
      · exact (Below.heap_setCell _ _ _ _ g2).trans ((B5.block g (by omega) g1 g2).trans (hb4.block g hg))
  case hdone =>
    rintro W ⟨hBt, hTb, hLa⟩ hz hD
    have hla := rnd_la HL.out (r + 1) (sR l (ts0 kn) r) (2 * l.length) (Nat.le_refl _)
    have hTb' : Blk W B 128 (tabA (sR l (ts0 kn) (r + 1))) := hTb
    have hLa' : Blk W (w.heap.size + 1) 3 #[.int .i64 (sR l (ts0 kn) (r + 1)).la] := hLa
    have hla' : -1 ≤ (sR l (ts0 kn) (r + 1)).la ∧ (sR l (ts0 kn) (r + 1)).la < n := hla
    have hMW : Marked W (wX.heap.size :: Ds) := ⟨hD, fun d hd => by have := (HDs.out d hd).2; omega, HMkX.out.same fun d hd => hBt.block d (by have := (HDs.out d hd).2; omega) (by have := (HDs.out d hd).1; omega) (by have := (HDs.out d hd).1; omega)⟩
    have hDW : ∀ d ∈ wX.heap.size :: Ds, w1.heap.size ≤ d ∧ d < W.heap.size := fun d hd => by
      have hs := hBt.size
      rcases List.mem_cons.1 hd with rfl | hd
      · omega
      · have := HDs.out d hd
        omega
    have hBW := HBuX.out.trans hBt
    have c7 := hLa'.cell 0
    have l7 := hLa'.lt
    simp only [List.getElem?_toArray, List.getElem?_cons_zero] at c7
    have hfin : (sR l (ts0 kn) (r + 1)).la < 0 ∨ r = n + 1 → ∀ w', Below w1.heap.size W w' → SetP n l kn B w (.returned (.int .i64 (sR l (ts0 kn) (r + 1)).la)) w' := fun hd w' hb =>
      ⟨((But.of_below (Hb1.out)).back hBW (by omega)).past hb (by omega), r, ⟨hrn, hd⟩, rfl, hTb'.below hb (by omega)⟩
    have HF := Lib.hid hfin
    have HTW := Lib.hid hTb'
    have HLW := Lib.hid hLa'
    have HMW := Lib.hid hMW
    have HDW := Lib.hid hDW
    have HBW := Lib.hid hBW
    have HZ := Lib.hid zX
    clear hTb hLa hla hTb' hLa' hMW hDW hBW hBt hD hfin zX
    generalize (sR l (ts0 kn) (r + 1)).la = la at *
    by_cases h1 : la < 0
    · have d1 : decide (la < 0) = true := decide_eq_true h1
      go_wp2
      refine leaves_marks (B := w1.heap.size) _ _ HMW.out (fun d hd => (HDW.out d hd).1) (fun w' hb _ => ⟨.int .i64 la, by simp only [results, Tryd.results110]; go_simp, HF.out (Or.inl h1) w' hb⟩)
    · have d1 : decide (la < 0) = false := decide_eq_false h1
      have w1' : IntKind.i64.wrap ((r : Int) + 1) = ((r + 1 : Nat) : Int) := by rw [IntKind.wrap_i64]; omega
      by_cases h2 : r = n + 1
      · have d2 : decide ((n : Int) < (r : Int)) = true := decide_eq_true (by omega)
        have HF2 := Lib.hid (HF.out (Or.inr h2))
        go_wp2
        refine leaves_marks (B := w1.heap.size) _ _ HMW.out (fun d hd => (HDW.out d hd).1) (fun w' hb _ => ⟨.int .i64 la, by simp only [results, Tryd.results110]; go_simp, HF2.out w' hb⟩)
      · have d2 : decide ((n : Int) < (r : Int)) = false := decide_eq_false (by omega)
        go_wp2
        refine ⟨⟨r + 1, by omega, by omega, la, wX.heap.size :: Ds, rfl, HMW, ?_, HTW, HLW⟩, ?_⟩
        · rw [← hs1]
          exact HDW
        · show n + 2 - (intOf (Value.int IntKind.i64 ((r : Int) + 1))).toNat < n + 2 - (intOf (Value.int IntKind.i64 (r : Int))).toNat
          simp [intOf]
          omega
end Go.Proofs.YtehifkdfbiebfaaDoor
