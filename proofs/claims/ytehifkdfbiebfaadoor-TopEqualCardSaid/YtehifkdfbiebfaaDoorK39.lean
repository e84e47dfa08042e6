/- TopEqual: the determinant of one row, or of the same row twice. -/
import Derived.Test.YtehifkdfbiebfaaDoorK38
namespace Go.Proofs.YtehifkdfbiebfaaDoor
open Go Go.RowKit

@[go_sem] theorem store_func (P : Program) (w : World) (a : Addr) (m : Mode) (fn : Fn) (first captured : Array Value) : (store a (.func fn first captured) m).run P w = stored P w a (.func fn first captured) m := run_store P w a _ m rfl
theorem Tryd.infoBoolS : (Tryd.prog.info? 4).map (fun i => (i.zero, i.size, i.bytes)) = some (some (.bool false), 1, 1) := by kernel_rfl
theorem make_boolsS (N : Nat) (h : N ≤ 1000000) (W : World) : (Instr.makeSlice 124 (.int .i64 (N : Int)) (.int .i64 (N : Int))).run Tryd.prog W = .ok (.slice (some ⟨W.heap.size, 0, none⟩) N N) (W.alloc (.cells (Array.replicate N (.bool false)) 4)) := by
  obtain ⟨i, hi, hz0, hz1, hz2⟩ := info_parts Tryd.infoBoolS
  have := run_make (P := Tryd.prog) (w := W) 124 4 i (.bool false) Tryd.underlying124 hi hz0 .i64 .i64 (N : Int) (N : Int) (by omega) (by omega) (by rw [hz2]; omega) (by omega)
  rw [this, hz1]
  simp only [Int.toNat_natCast, Nat.mul_one]
  rw [show (Value.bool false).cells = #[.bool false] from rfl, made_oneN]
set_option maxRecDepth 100000 in
set_option maxHeartbeats 8000000 in
theorem minor_g (m : Nat) (hm : m ≤ 2) (val : Int) (col : Nat → Nat) (r : Nat → Int) (b o c ib ic jb jc : Nat) (w : World)
    (HX : ∀ (pi pj pu pr pe ub : Nat) (W : World), ExpF ub W m pi pj pr col r → Blk W pu 124 #[.slice (some ⟨ub, 0, none⟩) m m] → Blk W ub 4 (Array.replicate m (.bool false)) → Blk W pe (177) #[.func (.func 164) #[] (expA pi pj pu pr pe)] → (ub ≠ pi ∧ ub ≠ pj ∧ ub ≠ pr ∧ ub ≠ pu ∧ ub ≠ pe) → Calls Tryd.prog 164 #[.int .i64 0, .pointer (some ⟨pi, 0, none⟩), .pointer (some ⟨pj, 0, none⟩), .pointer (some ⟨pu, 0, none⟩), .pointer (some ⟨pr, 0, none⟩), .pointer (some ⟨pe, 0, none⟩)] W (Ret (.int .i64 val) W))
    (hi : ib < w.heap.size) (hic : ∀ k, k < m → w.cell? ⟨ib, k, none⟩ = some (.int .i64 0)) (hj : jb < w.heap.size) (hjc : ∀ k, k < m → w.cell? ⟨jb, k, none⟩ = some (.int .i64 (col k : Int))) (hb : b < w.heap.size) (hr : ∀ i, i < 6 → w.cell? ⟨b, o + i, none⟩ = some (.int .i64 (r i))) :
    Calls Tryd.prog 162 #[.slice (some ⟨b, o, none⟩) 1 c, .slice (some ⟨ib, 0, none⟩) m ic, .slice (some ⟨jb, 0, none⟩) m jc] w (Ret (.int .i64 val) w) := by
  have hmk := make_boolsS m (by omega)
  have HA := Lib.hid (And.intro HX (And.intro hi (And.intro hic (And.intro hj (And.intro hjc (And.intro hb hr))))))
  clear HX hi hic hj hjc hb hr hm
  go_enter Tryd.func162, Tryd.ntmps162
  go_upto_region 1 with fail
  refine wp_letter ?_
  intro W1 hW1
  have b1 : Below w.heap.size w W1 := by rw [hW1]; exact bl_alloc (bl_alloc (bl_alloc (bl_refl _) _) _) _
  have R1 : Blk W1 w.heap.size 23 #[.slice (some ⟨b, o, none⟩) 1 c] := by rw [hW1]; exact ((Blk.new _ _ _).alloc _).alloc _
  have I1 : Blk W1 (w.heap.size + 1) 22 #[.slice (some ⟨ib, 0, none⟩) m ic] := by rw [hW1]; exact (blkAt _ _ _ _ (by simp)).alloc _
  have J1 : Blk W1 (w.heap.size + 2) 22 #[.slice (some ⟨jb, 0, none⟩) m jc] := by rw [hW1]; exact blkAt _ _ _ _ (by simp)
  have hs1 : W1.heap.size = w.heap.size + 3 := by rw [hW1]; simp
  clear hW1
  have j1 := J1.cell 0
  have zj1 := J1.lt
  simp only [List.getElem?_toArray, List.getElem?_cons_zero] at j1
  have HB1 := Lib.hid b1
  have HR1 := Lib.hid R1
  have HI1 := Lib.hid I1
  have HJ1 := Lib.hid J1
  clear b1 R1 I1 J1
  go_upto_region 4 with fail
  refine wp_letter ?_
  intro W4 hW4
  have b4 : Below W1.heap.size W1 W4 := by rw [hW4]; exact bl_alloc (bl_alloc (bl_alloc (bl_refl _) _) _) _
  have V4 : Blk W4 (w.heap.size + 3) 4 (Array.replicate m (.bool false)) := by rw [hW4]; exact ((blkAt _ _ _ _ hs1.symm).alloc _).alloc _
  have U4 : Blk W4 (w.heap.size + 3 + 1) 124 #[.slice (some ⟨w.heap.size + 3, 0, none⟩) m m] := by rw [hW4]; exact (blkAt _ _ _ _ (by simp; omega)).alloc _
  have E4 : Blk W4 (w.heap.size + 3 + 1 + 1) (177) #[.func (.func 164) #[] (expA (w.heap.size + 1) (w.heap.size + 1 + 1) (w.heap.size + 3 + 1) w.heap.size (w.heap.size + 3 + 1 + 1))] := by rw [hW4]; exact blkAt _ _ _ _ (by simp; omega)
  have B4 := bl_trans HB1.out b4
  have hsz := b4.size
  obtain ⟨HX, hi, hic, hj, hjc, hb, hr⟩ := HA.out
  have hF : ExpF (w.heap.size + 3) W4 m (w.heap.size + 1) (w.heap.size + 1 + 1) w.heap.size col r :=
    ⟨⟨ib, ic, HI1.out.below b4 HI1.out.lt, by omega, by omega, fun k hk => (B4.cell (p := ⟨ib, k, none⟩) hi).trans (hic k hk)⟩, ⟨jb, jc, HJ1.out.below b4 HJ1.out.lt, by omega, by omega, fun k hk => (B4.cell (p := ⟨jb, k, none⟩) hj).trans (hjc k hk)⟩, ⟨b, o, c, HR1.out.below b4 HR1.out.lt, by omega, by omega, fun i hi => (B4.cell (p := ⟨b, o + i, none⟩) hb).trans (hr i hi)⟩, by omega, by omega, by omega⟩
  have HC := Lib.hid (HX _ _ _ _ _ _ W4 hF U4 V4 E4 (by omega))
  have HB4 := Lib.hid B4
  have e4 := E4.cell 0
  have ze4 := E4.lt
  simp only [List.getElem?_toArray, List.getElem?_cons_zero] at e4
  clear hW4 b4 V4 U4 E4 B4 HX hi hic hj hjc hb hr hF j1 zj1 hmk HB1 HR1 HI1 HJ1
  go_wp2_with fail
  (with_reducible refine HC.out.mono ?_)
  rintro e W5 ⟨rfl, hb5⟩
  have HB5 := Lib.hid (bl_trans HB4.out hb5)
  clear hb5 e4 ze4
  simp only
  go_wp2
  go_ret
  exact ⟨rfl, HB5.out⟩
theorem minor1_c (col : Nat → Nat) (r : Nat → Int) (hc : col 0 < 6) (hx : r (col 0) ≠ 0) (hb : -400 ≤ r (col 0) ∧ r (col 0) ≤ 400) (b o c ib ic jb jc : Nat) (w : World)
    (hi : ib < w.heap.size) (hic : ∀ k, k < 1 → w.cell? ⟨ib, k, none⟩ = some (.int .i64 0)) (hj : jb < w.heap.size) (hjc : ∀ k, k < 1 → w.cell? ⟨jb, k, none⟩ = some (.int .i64 (col k : Int))) (hb' : b < w.heap.size) (hr : ∀ i, i < 6 → w.cell? ⟨b, o + i, none⟩ = some (.int .i64 (r i))) :
    Calls Tryd.prog 162 #[.slice (some ⟨b, o, none⟩) 1 c, .slice (some ⟨ib, 0, none⟩) 1 ic, .slice (some ⟨jb, 0, none⟩) 1 jc] w (Ret (.int .i64 (r (col 0))) w) :=
  minor_g 1 (by omega) _ col r b o c ib ic jb jc w (fun pi pj pu pr pe ub W hE hU hV hW hne => exp1_c pi pj pu pr pe ub 1 col r hc hx hb W hE.toE hU hV hW hne) hi hic hj hjc hb' hr
theorem minor2_c (col : Nat → Nat) (r : Nat → Int) (hc0 : col 0 < 6) (hc1 : col 1 < 6) (hx : r (col 0) ≠ 0) (hb0 : -400 ≤ r (col 0) ∧ r (col 0) ≤ 400) (hb1 : -400 ≤ r (col 1) ∧ r (col 1) ≤ 400) (b o c ib ic jb jc : Nat) (w : World)
    (hi : ib < w.heap.size) (hic : ∀ k, k < 2 → w.cell? ⟨ib, k, none⟩ = some (.int .i64 0)) (hj : jb < w.heap.size) (hjc : ∀ k, k < 2 → w.cell? ⟨jb, k, none⟩ = some (.int .i64 (col k : Int))) (hb' : b < w.heap.size) (hr : ∀ i, i < 6 → w.cell? ⟨b, o + i, none⟩ = some (.int .i64 (r i))) :
    Calls Tryd.prog 162 #[.slice (some ⟨b, o, none⟩) 1 c, .slice (some ⟨ib, 0, none⟩) 2 ic, .slice (some ⟨jb, 0, none⟩) 2 jc] w (Ret (.int .i64 0) w) :=
  minor_g 2 (by omega) _ col r b o c ib ic jb jc w (fun pi pj pu pr pe ub W hE hU hV hW hne => exp2_c pi pj pu pr pe ub 2 col r hc0 hc1 hx hb0 hb1 W hE hU hV hW hne) hi hic hj hjc hb' hr
end Go.Proofs.YtehifkdfbiebfaaDoor
