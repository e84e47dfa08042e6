/- Readings: the distances from an item. -/
import Derived.Test.YtehifkdfbiebfaaDoorK26
import Derived.Test.YtehifkdfbiebfaaDoorK00
import Derived.Deep.Cut
namespace Go.Proofs.YtehifkdfbiebfaaDoor
open Go Go.RowKit Go.Shelf

theorem tab_zero : tabA (ts0 fun _ => false) = ((List.replicate 40 (Value.bool false)) ++ (List.replicate 80 (Value.int .i64 0))).toArray := by kernel_rfl
theorem tab_known (kn : Nat → Bool) {i : Nat} (h : i < 40) : (tabA (ts0 kn)).setIfInBounds i (.bool true) = tabA (ts0 (updF kn i true)) := by
  apply Array.ext
  · simp [tabA]
  · intro j h1 h2
    have hj : j < 120 := by simpa [tabA] using h2
    rw [Array.getElem_setIfInBounds (by simpa [tabA] using hj)]
    simp only [tabA, List.getElem_toArray, List.getElem_map, List.getElem_range]
    by_cases h40 : j < 40
    · rw [tabV_kn _ h40, tabV_kn _ h40]
      show _ = Value.bool (updF kn i true j)
      unfold updF
      by_cases hh : i = j
      · rw [if_pos hh, if_pos hh.symm]
      · rw [if_neg hh, if_neg (fun q => hh q.symm)]; rfl
    · rw [if_neg (by omega)]
      by_cases h80 : j < 80
      · rw [tabV_fa _ h40 h80, tabV_fa _ h40 h80]; rfl
      · rw [tabV_by _ h40 h80, tabV_by _ h40 h80]; rfl
theorem tab_one (s : TS) : (tabA s).all (·.oneCell') = true := by
  rw [Array.all_eq_true_iff_forall_mem]
  intro v hv
  obtain ⟨i, hi, rfl⟩ := Array.mem_iff_getElem.1 hv
  simp only [tabA, List.getElem_toArray, List.getElem_map, List.getElem_range]
  unfold tabV
  split
  · rfl
  · split <;> rfl
def FromP (n : Nat) (l : List Rd) (i : Nat) (w : World) (e : Ending) (w' : World) : Prop :=
  Below w.heap.size w w' ∧ ∃ m, Done n l (updF (fun _ => false) i true) m ∧ e = .returned (.agg (tabA (sR l (ts0 (updF (fun _ => false) i true)) (m + 1))))
set_option maxRecDepth 100000 in
set_option maxHeartbeats 8000000 in
theorem from_c {n : Nat} {l : List Rd} (hl : RdOk n l) (A : Option Addr) (cap i : Nat) (hi : i < n) (w : World) (hr : Rds w w.heap.size A l) :
    Calls Tryd.prog 57 #[.int .i64 (n : Int), .slice A l.length cap, .int .i64 (i : Int)] w (FromP n l i w) := by
  have HL := Lib.hid hl
  have HR := Lib.hid hr
  have hn40 := hl.1.2
  have hi40 : i < 40 := by omega
  have hi1 : (i : Int) < 40 := by omega
  clear hl hr
  go_enter Tryd.func57, Tryd.ntmps57
  go_upto_region 2 with fail
  refine wp_letter ?_
  intro W2 hW2
  have hz : Tryd.zeroCells128 = tabA (ts0 fun _ => false) := by kernel_rfl
  rw [hz] at hW2
  have b2 : Below w.heap.size w W2 := by rw [hW2]; (repeat (first | (with_reducible exact bl_refl _) | (with_reducible refine bl_drew ?_) | (with_reducible refine bl_alloc ?_ _) | (with_reducible refine bl_set' ?_ ?_; · (first | omega | (simp; done) | (simp; omega))) | (with_reducible refine bl_last (by assumption) ?_) | (with_reducible refine bl_drewN ?_ _)))
  have T1 : Blk W2 w.heap.size 128 (tabA (ts0 fun _ => false)) := by rw [hW2]; exact (Blk.new _ _ _).alloc _
  have T2 : Blk W2 (w.heap.size + 1) 128 (tabA (ts0 fun _ => false)) := by rw [hW2]; exact blkAt _ _ _ _ (by simp)
  have z2 : W2.heap.size = w.heap.size + 2 := by rw [hW2]; simp
  clear hW2 hz
  have c1 := (T2.cell i).trans (tab_kn _ hi40)
  have f1 := T2.frozen i
  have l1 := T2.lt
  go_wp2_with fail
  refine calls_letter ?_
  intro W3 hW3
  have T3 : Blk W3 (w.heap.size + 1) 128 (tabA (ts0 (updF (fun _ => false) i true))) := by rw [hW3, ← tab_known _ hi40]; exact T2.set_ i _
  have T4 : Blk W3 w.heap.size 128 (tabA (ts0 fun _ => false)) := by rw [hW3]; exact T1.far (by show w.heap.size ≠ w.heap.size + 1; omega) _
  have b3 : Below w.heap.size w W3 := by
    rw [hW3]
    exact bl_set' (by show w.heap.size ≤ w.heap.size + 1; omega) b2
  clear hW3 T1 T2 b2 z2 c1 f1 l1
  refine (settle_c HL.out _ A cap (w.heap.size + 1) W3 ((HR.out.below b3).more (by omega)) T3).mono ?_
  rintro e W4 ⟨hbt, m, hm, rfl, T5⟩
  have T6 := T4.but hbt (by omega) (by omega)
  have l4 := hbt.size
  have l3 := T3.lt
  generalize hS : sR l (ts0 (updF (fun _ => false) i true)) (m + 1) = s at *
  have hi7 : ∀ s : TS, (Tryd.prog.info? 128).map (·.size) = some (tabA s).size := fun s => by rw [tab_size]; kernel_rfl
  have hL1 := loadAt_whole (P := Tryd.prog) (ty := 128) T5 Tryd.underlying128 rfl (hi7 s)
  have hS1 := storeCells_whole (P := Tryd.prog) (cs := tabA s) T6 (by rw [tab_size, tab_size]) (tab_one s)
  have T7 := setRow_blk (cs := tabA s) T6
  have l5 : w.heap.size + 1 < W4.heap.size := T5.lt
  have hb7 : Below w.heap.size w (W4.setRow w.heap.size (tabA s)) := by
    have h1 : Below w.heap.size w W4 := b3.trans (hbt.below (by omega) (by omega) (by omega))
    exact below_setRow h1 (Nat.le_refl _) _
  have HB7 := Lib.hid hb7
  have HL1 := Lib.hid hL1
  have HS1 := Lib.hid hS1
  have HT7 := Lib.hid T7
  have HI7 := Lib.hid (hi7 s)
  clear T5 T6 T7 hb7 hbt b3 T4 T3 hL1 hS1 hi7
  simp only
  go_wp2_with fail
  refine wp_load_whole rfl rfl HL1.out ?_
  have hS2 := HS1.out
  go_wp2_with fail
  refine bodyPost_ret (v := .agg (tabA s)) (results_whole rfl rfl HT7.out Tryd.underlying128 rfl HI7.out) rfl ⟨HB7.out, m, hm, ?_⟩
  rw [hS]
end Go.Proofs.YtehifkdfbiebfaaDoor
