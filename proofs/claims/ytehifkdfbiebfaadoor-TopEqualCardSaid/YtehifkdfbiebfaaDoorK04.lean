/- Sizes: Valid, exponents, Of. What the rows' listed tables give; the start at which they lie as the program's text lays them. -/
import Derived.Test.YtehifkdfbiebfaaDoorK01
import Derived.Test.YtehifkdfbiebfaaDoorK02
import Derived.Test.YtehifkdfbiebfaaDoorK03
import Derived.Deep.Cut
import Derived.Test.YtehifkdfbiebfaaDoorRows
import Derived.ProofKit
import Derived.LaidMore
import Derived.OpenShut
import Derived.ChangeOld
import Derived.Lib.SmallJoins
import Derived.Lib.LaidTab
import Derived.Stop.Joined
import Derived.Stop.LaidErr
import Derived.SizedLaws
import Derived.ChangeMaps5
namespace Go.Proofs.YtehifkdfbiebfaaDoor
open Go Go.RowKit

def szV (a b : Int) : Bool := decide (-100000000000000 ≤ a) && (decide (a ≤ b) && decide (b ≤ 100000000000000))
set_option maxHeartbeats 2000000 in
theorem SzVal_c (a b : Int) (w : World) : Calls Tryd.prog 58 #[.agg #[.int .i64 a, .int .i64 b]] w (Ret (.bool (szV a b)) w) := by
  unfold szV
  by_cases h1 : -100000000000000 ≤ a
  · by_cases h2 : a ≤ b
    · by_cases h3 : b ≤ 100000000000000
      · simp only [h1, h2, h3, decide_true, Bool.and_self]
        go_enter Tryd.func58, Tryd.ntmps58
        go_wp2
        go_ret
        exact ⟨rfl, by (repeat (first | (with_reducible exact bl_refl _) | (with_reducible refine bl_drew ?_) | (with_reducible refine bl_alloc ?_ _) | (with_reducible refine bl_set' ?_ ?_; · (first | omega | (simp; done) | (simp; omega))) | (with_reducible refine bl_last (by assumption) ?_) | (with_reducible refine bl_drewN ?_ _)))⟩
      · simp only [h1, h2, h3, decide_true, decide_false, Bool.and_false]
        go_enter Tryd.func58, Tryd.ntmps58
        go_wp2
        go_ret
        exact ⟨rfl, by (repeat (first | (with_reducible exact bl_refl _) | (with_reducible refine bl_drew ?_) | (with_reducible refine bl_alloc ?_ _) | (with_reducible refine bl_set' ?_ ?_; · (first | omega | (simp; done) | (simp; omega))) | (with_reducible refine bl_last (by assumption) ?_) | (with_reducible refine bl_drewN ?_ _)))⟩
    · simp only [h1, h2, decide_true, decide_false, Bool.false_and, Bool.and_false]
      go_enter Tryd.func58, Tryd.ntmps58
      go_wp2
      go_ret
      exact ⟨rfl, by (repeat (first | (with_reducible exact bl_refl _) | (with_reducible refine bl_drew ?_) | (with_reducible refine bl_alloc ?_ _) | (with_reducible refine bl_set' ?_ ?_; · (first | omega | (simp; done) | (simp; omega))) | (with_reducible refine bl_last (by assumption) ?_) | (with_reducible refine bl_drewN ?_ _)))⟩
  · simp only [h1, decide_false, Bool.false_and]
    go_enter Tryd.func58, Tryd.ntmps58
    go_wp2
    go_ret
    exact ⟨rfl, by (repeat (first | (with_reducible exact bl_refl _) | (with_reducible refine bl_drew ?_) | (with_reducible refine bl_alloc ?_ _) | (with_reducible refine bl_set' ?_ ?_; · (first | omega | (simp; done) | (simp; omega))) | (with_reducible refine bl_last (by assumption) ?_) | (with_reducible refine bl_drewN ?_ _)))⟩
def lgL : Nat → Int
  | 0 => 1000000000 | 1 => 1584962500 | 2 => 2321928094 | 3 => 2807354922 | 4 => 3459431618 | 5 => 3700439718 | _ => 0
def lgH : Nat → Int
  | 0 => 1000000000 | 1 => 1584962501 | 2 => 2321928095 | 3 => 2807354923 | 4 => 3459431619 | 5 => 3700439719 | _ => 0
/-- The logarithms lie as the program's text lays them. -/
def LG (w : World) : Prop := 2 < w.heap.size ∧ ∀ i, i < 6 → w.cell? ⟨2, 2 * i, none⟩ = some (.int .i64 (lgL i)) ∧ w.cell? ⟨2, 2 * i + 1, none⟩ = some (.int .i64 (lgH i))
theorem LG.up {w w' : World} (h : LG w) (hb : Below w.heap.size w w') : LG w' :=
  ⟨Nat.lt_of_lt_of_le h.1 hb.size, fun i hi => ⟨(hb.cell (p := ⟨2, 2 * i, none⟩) h.1).trans (h.2 i hi).1, (hb.cell (p := ⟨2, 2 * i + 1, none⟩) h.1).trans (h.2 i hi).2⟩⟩
def ex6 (a b c d e f : Int) : Nat → Int
  | 0 => a | 1 => b | 2 => c | 3 => d | 4 => e | 5 => f | _ => 0
def szL (g : Nat → Int) : Nat → Int
  | 0 => 0
  | k + 1 => szL g k + g k * (if g k < 0 then lgH k else lgL k)
def szH (g : Nat → Int) : Nat → Int
  | 0 => 0
  | k + 1 => szH g k + g k * (if g k < 0 then lgL k else lgH k)
theorem lt6' {i : Nat} (h : i < 6) : i = 0 ∨ i = 1 ∨ i = 2 ∨ i = 3 ∨ i = 4 ∨ i = 5 := by omega
theorem lg_bd (k : Nat) : 0 ≤ lgL k ∧ lgL k ≤ lgH k ∧ lgH k ≤ 4000000000 := by
  unfold lgL lgH
  split <;> simp
def B6 (g : Nat → Int) : Prop := ∀ k, k < 6 → -100000000 ≤ g k ∧ g k ≤ 100000000
theorem pr_bd {x y : Int} (h1 : -100000000 ≤ x) (h2 : x ≤ 100000000) (h3 : 0 ≤ y) (h4 : y ≤ 4000000000) : -400000000000000000 ≤ x * y ∧ x * y ≤ 400000000000000000 := by
  have a := Int.mul_le_mul_of_nonneg_right h2 h3
  have b := Int.mul_le_mul_of_nonneg_right h1 h3
  omega
theorem sz_bd {g : Nat → Int} (h : B6 g) : ∀ k, k ≤ 6 → (-(k * 400000000000000000) ≤ szL g k ∧ szL g k ≤ k * 400000000000000000) ∧ (-(k * 400000000000000000) ≤ szH g k ∧ szH g k ≤ k * 400000000000000000)
  | 0, _ => by simp [szL, szH]
  | k + 1, hk => by
    have ih := sz_bd h k (by omega)
    obtain ⟨h1, h2⟩ := h k (by omega)
    obtain ⟨l1, l2, l3⟩ := lg_bd k
    have a := pr_bd (x := g k) (y := lgL k) h1 h2 l1 (by omega)
    have b := pr_bd (x := g k) (y := lgH k) h1 h2 (by omega) l3
    have e : (((k + 1 : Nat) : Int)) * 400000000000000000 = (k : Int) * 400000000000000000 + 400000000000000000 := by push_cast; omega
    rw [e]
    unfold szL szH
    split <;> omega
set_option maxRecDepth 100000 in
set_option maxHeartbeats 4000000 in
theorem exponents_c (a b c d e f : Int) (w : World) (hg : LG w) (hB : B6 (ex6 a b c d e f)) : Calls Tryd.prog 93 #[.agg #[.int .i64 a, .int .i64 b, .int .i64 c, .int .i64 d, .int .i64 e, .int .i64 f]] w
    (Ret (.agg #[.int .i64 (szL (ex6 a b c d e f) 6), .int .i64 (szH (ex6 a b c d e f) 6)]) w) := by
  have HBd := Lib.hid hB
  have HLG := Lib.hid hg
  clear hB hg
  go_enter Tryd.func93, Tryd.ntmps93
  go_upto_region 2 with fail
  refine wp_letter ?_
  intro W1 hW1
  have B1 : Below w.heap.size w W1 := by rw [hW1]; (repeat (first | (with_reducible exact bl_refl _) | (with_reducible refine bl_drew ?_) | (with_reducible refine bl_alloc ?_ _) | (with_reducible refine bl_set' ?_ ?_; · (first | omega | (simp; done) | (simp; omega))) | (with_reducible refine bl_last (by assumption) ?_) | (with_reducible refine bl_drewN ?_ _)))
  have E1 : Blk W1 w.heap.size 26 #[.int .i64 a, .int .i64 b, .int .i64 c, .int .i64 d, .int .i64 e, .int .i64 f] := by rw [hW1]; exact ((Blk.new _ _ _).alloc _).alloc _
  have R1 : Blk W1 (w.heap.size + 1) 35 #[.int .i64 0, .int .i64 0] := by rw [hW1]; exact (blkAt _ _ _ _ (by simp)).alloc _
  have S1 : Blk W1 (w.heap.size + 1 + 1) 35 #[.int .i64 0, .int .i64 0] := by rw [hW1]; exact blkAt _ _ _ _ (by simp)
  have HLG1 := Lib.hid (HLG.out.up B1)
  have HE1 := Lib.hid E1
  have HR1 := Lib.hid R1
  have HS1 := Lib.hid S1
  have HB1 := Lib.hid B1
  clear hW1 B1 E1 R1 S1
  have g0 := (HLG1.out.2 0 (by omega)).1
  have g1 := (HLG1.out.2 0 (by omega)).2
  have g2 := (HLG1.out.2 1 (by omega)).1
  have g3 := (HLG1.out.2 1 (by omega)).2
  have g4 := (HLG1.out.2 2 (by omega)).1
  have g5 := (HLG1.out.2 2 (by omega)).2
  have g6 := (HLG1.out.2 3 (by omega)).1
  have g7 := (HLG1.out.2 3 (by omega)).2
  have g8 := (HLG1.out.2 4 (by omega)).1
  have g9 := (HLG1.out.2 4 (by omega)).2
  have g10 := (HLG1.out.2 5 (by omega)).1
  have g11 := (HLG1.out.2 5 (by omega)).2
  simp only [lgL, lgH, Nat.reduceMul, Nat.reduceAdd] at g0 g1 g2 g3 g4 g5 g6 g7 g8 g9 g10 g11
  go_wp2
  clear g0 g1 g2 g3 g4 g5 g6 g7 g8 g9 g10 g11
  go_loopw [7] (fun i wr => ∃ k : Nat, k ≤ 6 ∧ i = .int .i64 (k : Int) ∧ Hid (Below w.heap.size w wr) ∧ Hid (Blk wr w.heap.size 26 #[.int .i64 a, .int .i64 b, .int .i64 c, .int .i64 d, .int .i64 e, .int .i64 f]) ∧ Hid (Blk wr (w.heap.size + 1) 35 #[.int .i64 0, .int .i64 0]) ∧ Hid (Blk wr (w.heap.size + 1 + 1) 35 #[.int .i64 (szL (ex6 a b c d e f) k), .int .i64 (szH (ex6 a b c d e f) k)])) (fun i _ => 6 - (intOf i).toNat)
  case atStart => exact ⟨0, by omega, rfl, HB1.out, HE1.out, HR1.out, HS1.out⟩
  case round =>
    obtain ⟨k, hk, rfl, HB, HE, HRr, HS⟩ := hrel
    have hws := HS.out.lt
    by_cases hlt : k < 6
    · have hi6 : (k : Int) < 6 := by omega
      have hix : ∀ w : World, (Instr.index 206 (.agg #[.int .i64 1000000000, .int .i64 1000000000, .int .i64 1584962500, .int .i64 1584962501, .int .i64 2321928094, .int .i64 2321928095, .int .i64 2807354922, .int .i64 2807354923, .int .i64 3459431618, .int .i64 3459431619, .int .i64 3700439718, .int .i64 3700439719]) (.int .i64 (k : Int))).run Tryd.prog w = .ok (.agg #[.int .i64 (lgL k), .int .i64 (lgH k)]) w := fun w => by
        rcases lt6' hlt with rfl | rfl | rfl | rfl | rfl | rfl <;> kernel_rfl
      have hget : (#[.int .i64 a, .int .i64 b, .int .i64 c, .int .i64 d, .int .i64 e, .int .i64 f] : Array Value)[k]? = some (.int .i64 (ex6 a b c d e f k)) := by
        rcases lt6' hlt with rfl | rfl | rfl | rfl | rfl | rfl <;> rfl
      have ce := HE.out.cell k
      rw [hget] at ce
      have h1 := HBd.out k hlt
      have h2 := lg_bd k
      have h3 := sz_bd HBd.out k (by omega)
      have p1 := pr_bd (x := ex6 a b c d e f k) (y := lgL k) h1.1 h1.2 (by omega) (by omega)
      have p2 := pr_bd (x := ex6 a b c d e f k) (y := lgH k) h1.1 h1.2 (by omega) (by omega)
      have HNL := Lib.hid (show szL (ex6 a b c d e f) (k + 1) = szL (ex6 a b c d e f) k + ex6 a b c d e f k * (if ex6 a b c d e f k < 0 then lgH k else lgL k) from rfl)
      have HNH := Lib.hid (show szH (ex6 a b c d e f) (k + 1) = szH (ex6 a b c d e f) k + ex6 a b c d e f k * (if ex6 a b c d e f k < 0 then lgL k else lgH k) from rfl)
      have hsz : -2400000000000000000 ≤ szL (ex6 a b c d e f) k ∧ szL (ex6 a b c d e f) k ≤ 2400000000000000000 ∧ -2400000000000000000 ≤ szH (ex6 a b c d e f) k ∧ szH (ex6 a b c d e f) k ≤ 2400000000000000000 := by omega
      clear h3
      generalize szL (ex6 a b c d e f) k = sl at *
      generalize szH (ex6 a b c d e f) k = sh at *
      generalize ex6 a b c d e f k = ek at *
      generalize lgL k = gl at *
      generalize lgH k = gh at *
      by_cases hn : ek < 0
      · have d1 : decide (ek < 0) = true := decide_eq_true hn
        have q1 : IntKind.i64.wrap (ek * gh) = ek * gh := by rw [IntKind.wrap_i64]; omega
        have q2 : IntKind.i64.wrap (sl + ek * gh) = sl + ek * gh := by rw [IntKind.wrap_i64]; omega
        have q3 : IntKind.i64.wrap (ek * gl) = ek * gl := by rw [IntKind.wrap_i64]; omega
        have q4 : IntKind.i64.wrap (sh + ek * gl) = sh + ek * gl := by rw [IntKind.wrap_i64]; omega
        go_upto_region 7 with fail
        refine wp_letter ?_
        intro W2 hW2
        have B2 : Below wr.heap.size wr W2 := by rw [hW2]; (repeat (first | (with_reducible exact bl_refl _) | (with_reducible refine bl_drew ?_) | (with_reducible refine bl_alloc ?_ _) | (with_reducible refine bl_set' ?_ ?_; · (first | omega | (simp; done) | (simp; omega))) | (with_reducible refine bl_last (by assumption) ?_) | (with_reducible refine bl_drewN ?_ _)))
        have L2 : Blk W2 wr.heap.size 35 #[.int .i64 gh, .int .i64 gl] := by
          rw [hW2]
          (repeat (first | (with_reducible assumption) | (with_reducible apply Blk.new) | (with_reducible apply blk_st2)))
        have S2 := HS.out.below B2 HS.out.lt
        have E2 := HE.out.below B2 HE.out.lt
        clear hW2
        have ce := E2.cell k
        rw [hget] at ce
        have c0 := S2.cell 0
        have c1 := S2.cell 1
        have l0 := L2.cell 0
        have l1 := L2.cell 1
        have fs := S2.frozen 0
        have fs1 := S2.frozen 1
        have z1 := S2.lt
        have z2 := E2.lt
        have z3 := L2.lt
        simp only [List.getElem?_toArray, List.getElem?_cons_zero, List.getElem?_cons_succ] at c0 c1 l0 l1
        have HS2 := Lib.hid S2
        have HB2 := Lib.hid B2
        have HE2 := Lib.hid E2
        have HL2 := Lib.hid L2
        have HR2 := Lib.hid (HRr.out.below B2 HRr.out.lt)
        clear S2 B2 E2 L2
        (refine wp_region_bl [0,1,2,3,4,5,6,7,8,9] [10] (by kernel_rfl) (by kernel_rfl) (by rfl) ?_
         simp only [pickI, pick, List.getElem?_cons_succ, List.getElem?_cons_zero]
         iterate 10 (first
           | (refine head_val (by rfl) (by first | exact wanted_free rfl | rfl) ?_
              apply Exists.intro
              refine ⟨fun X hX => ?_, ?_⟩
              · (obtain ⟨qz, qc, qf⟩ := bcl hX.out (by first | (simp; rfl) | rfl)
                 go_simp
                 first | done | rfl | exact ⟨rfl, rfl⟩)
              simp only [Act.put, List.setIfInBounds_toArray, List.set_cons_zero, List.set_cons_succ])
           | (refine head_pass (by rfl) ?_
              simp only [Act.put, List.setIfInBounds_toArray, List.set_cons_zero, List.set_cons_succ]))
         refine head_nil ?_
         intro w' hw'
         have hb := hw'.out
         clear hw'
         obtain ⟨hz, hc, hf⟩ := bcl hb (by first | (simp; rfl) | rfl))
        have hb3 := Lib.hid hb
        clear hb
        go_wp2
        refine wp_letter ?_
        intro W3 hW3
        have B3 : Below W2.heap.size W2 w' := hb3.out
        have S3 : Blk W3 (w.heap.size + 1 + 1) 35 #[.int .i64 (sl + ek * gh), .int .i64 sh] := by rw [hW3]; exact (HS2.out.below B3 z1).set_ 0 _
        have E3 := HE2.out.below B3 z2
        have B4 : Below w.heap.size w W3 := by rw [hW3]; exact bl_set' (by show w.heap.size ≤ w.heap.size + 1 + 1; omega) (bl_trans (bl_trans HB.out HB2.out) B3)
        have E4 : Blk W3 w.heap.size 26 #[.int .i64 a, .int .i64 b, .int .i64 c, .int .i64 d, .int .i64 e, .int .i64 f] := by rw [hW3]; exact E3.far (by show w.heap.size ≠ w.heap.size + 1 + 1; omega) _
        have L4 : Blk W3 wr.heap.size 35 #[.int .i64 gh, .int .i64 gl] := by rw [hW3]; exact (HL2.out.below B3 z3).far (by show wr.heap.size ≠ w.heap.size + 1 + 1; omega) _
        have R4 : Blk W3 (w.heap.size + 1) 35 #[.int .i64 0, .int .i64 0] := by rw [hW3]; exact (HR2.out.below B3 HR2.out.lt).far (by show w.heap.size + 1 ≠ w.heap.size + 1 + 1; omega) _
        have HS3 := Lib.hid S3
        have HE4 := Lib.hid E4
        have HB4 := Lib.hid B4
        have HR4 := Lib.hid R4
        clear hW3 hz hc hf ce c0 c1 l0 l1 fs fs1 z1 z2 z3 E3 B3
        have ce := E4.cell k
        rw [hget] at ce
        have c1 := S3.cell 1
        have l1 := L4.cell 1
        have fs1 := S3.frozen 1
        have z1 := S3.lt
        have z2 := E4.lt
        have z3 := L4.lt
        simp only [List.getElem?_toArray, List.getElem?_cons_zero, List.getElem?_cons_succ] at c1 l1
        clear S3 E4 L4 R4 B4
        (refine wp_region_bl [0,1,2,3,4,5,6,7,8,9] [10] (by kernel_rfl) (by kernel_rfl) (by rfl) ?_
         simp only [pickI, pick, List.getElem?_cons_succ, List.getElem?_cons_zero]
         iterate 10 (first
           | (refine head_val (by rfl) (by first | exact wanted_free rfl | rfl) ?_
              apply Exists.intro
              refine ⟨fun X hX => ?_, ?_⟩
              · (obtain ⟨qz, qc, qf⟩ := bcl hX.out (by first | (simp; rfl) | rfl)
                 go_simp
                 first | done | rfl | exact ⟨rfl, rfl⟩)
              simp only [Act.put, List.setIfInBounds_toArray, List.set_cons_zero, List.set_cons_succ])
           | (refine head_pass (by rfl) ?_
              simp only [Act.put, List.setIfInBounds_toArray, List.set_cons_zero, List.set_cons_succ]))
         refine head_nil ?_
         intro w' hw'
         have hb := hw'.out
         clear hw'
         obtain ⟨hz, hc, hf⟩ := bcl hb (by first | (simp; rfl) | rfl))
        have hb5 := Lib.hid hb
        clear hb
        go_wp2
        go_roundw
        case rel =>
          refine ⟨k + 1, by omega, by go_num, bl_set' (by show w.heap.size ≤ w.heap.size + 1 + 1; omega) (bl_trans HB4.out hb5.out), (HE4.out.below hb5.out z2).far (by show w.heap.size ≠ w.heap.size + 1 + 1; omega) _, (HR4.out.below hb5.out HR4.out.lt).far (by show w.heap.size + 1 ≠ w.heap.size + 1 + 1; omega) _, ?_⟩
          rw [HNL.out, HNH.out, if_pos hn, if_pos hn]
          exact (HS3.out.below hb5.out z1).set_ 1 _
        case measure => simp [intOf]; omega
      · have d1 : decide (ek < 0) = false := decide_eq_false hn
        have q1 : IntKind.i64.wrap (ek * gl) = ek * gl := by rw [IntKind.wrap_i64]; omega
        have q2 : IntKind.i64.wrap (sl + ek * gl) = sl + ek * gl := by rw [IntKind.wrap_i64]; omega
        have q3 : IntKind.i64.wrap (ek * gh) = ek * gh := by rw [IntKind.wrap_i64]; omega
        have q4 : IntKind.i64.wrap (sh + ek * gh) = sh + ek * gh := by rw [IntKind.wrap_i64]; omega
        go_upto_region 7 with fail
        refine wp_letter ?_
        intro W2 hW2
        have B2 : Below wr.heap.size wr W2 := by rw [hW2]; (repeat (first | (with_reducible exact bl_refl _) | (with_reducible refine bl_drew ?_) | (with_reducible refine bl_alloc ?_ _) | (with_reducible refine bl_set' ?_ ?_; · (first | omega | (simp; done) | (simp; omega))) | (with_reducible refine bl_last (by assumption) ?_) | (with_reducible refine bl_drewN ?_ _)))
        have L2 : Blk W2 wr.heap.size 35 #[.int .i64 gl, .int .i64 gh] := by
          rw [hW2]
          (repeat (first | (with_reducible assumption) | (with_reducible apply Blk.new) | (with_reducible apply blk_st2)))
        have S2 := HS.out.below B2 HS.out.lt
        have E2 := HE.out.below B2 HE.out.lt
        clear hW2
        have ce := E2.cell k
        rw [hget] at ce
        have c0 := S2.cell 0
        have c1 := S2.cell 1
        have l0 := L2.cell 0
        have l1 := L2.cell 1
        have fs := S2.frozen 0
        have fs1 := S2.frozen 1
        have z1 := S2.lt
        have z2 := E2.lt
        have z3 := L2.lt
        simp only [List.getElem?_toArray, List.getElem?_cons_zero, List.getElem?_cons_succ] at c0 c1 l0 l1
        have HS2 := Lib.hid S2
        have HB2 := Lib.hid B2
        have HE2 := Lib.hid E2
        have HL2 := Lib.hid L2
        have HR2 := Lib.hid (HRr.out.below B2 HRr.out.lt)
        clear S2 B2 E2 L2
        (refine wp_region_bl [0,1,2,3,4,5,6,7,8,9] [10] (by kernel_rfl) (by kernel_rfl) (by rfl) ?_
         simp only [pickI, pick, List.getElem?_cons_succ, List.getElem?_cons_zero]
         iterate 10 (first
           | (refine head_val (by rfl) (by first | exact wanted_free rfl | rfl) ?_
              apply Exists.intro
              refine ⟨fun X hX => ?_, ?_⟩
              · (obtain ⟨qz, qc, qf⟩ := bcl hX.out (by first | (simp; rfl) | rfl)
                 go_simp
                 first | done | rfl | exact ⟨rfl, rfl⟩)
              simp only [Act.put, List.setIfInBounds_toArray, List.set_cons_zero, List.set_cons_succ])
           | (refine head_pass (by rfl) ?_
              simp only [Act.put, List.setIfInBounds_toArray, List.set_cons_zero, List.set_cons_succ]))
         refine head_nil ?_
         intro w' hw'
         have hb := hw'.out
         clear hw'
         obtain ⟨hz, hc, hf⟩ := bcl hb (by first | (simp; rfl) | rfl))
        have hb3 := Lib.hid hb
        clear hb
        go_wp2
        refine wp_letter ?_
        intro W3 hW3
        have B3 : Below W2.heap.size W2 w' := hb3.out
        have S3 : Blk W3 (w.heap.size + 1 + 1) 35 #[.int .i64 (sl + ek * gl), .int .i64 sh] := by rw [hW3]; exact (HS2.out.below B3 z1).set_ 0 _
        have E3 := HE2.out.below B3 z2
        have B4 : Below w.heap.size w W3 := by rw [hW3]; exact bl_set' (by show w.heap.size ≤ w.heap.size + 1 + 1; omega) (bl_trans (bl_trans HB.out HB2.out) B3)
        have E4 : Blk W3 w.heap.size 26 #[.int .i64 a, .int .i64 b, .int .i64 c, .int .i64 d, .int .i64 e, .int .i64 f] := by rw [hW3]; exact E3.far (by show w.heap.size ≠ w.heap.size + 1 + 1; omega) _
        have L4 : Blk W3 wr.heap.size 35 #[.int .i64 gl, .int .i64 gh] := by rw [hW3]; exact (HL2.out.below B3 z3).far (by show wr.heap.size ≠ w.heap.size + 1 + 1; omega) _
        have R4 : Blk W3 (w.heap.size + 1) 35 #[.int .i64 0, .int .i64 0] := by rw [hW3]; exact (HR2.out.below B3 HR2.out.lt).far (by show w.heap.size + 1 ≠ w.heap.size + 1 + 1; omega) _
        have HS3 := Lib.hid S3
        have HE4 := Lib.hid E4
        have HB4 := Lib.hid B4
        have HR4 := Lib.hid R4
        clear hW3 hz hc hf ce c0 c1 l0 l1 fs fs1 z1 z2 z3 E3 B3
        have ce := E4.cell k
        rw [hget] at ce
        have c1 := S3.cell 1
        have l1 := L4.cell 1
        have fs1 := S3.frozen 1
        have z1 := S3.lt
        have z2 := E4.lt
        have z3 := L4.lt
        simp only [List.getElem?_toArray, List.getElem?_cons_zero, List.getElem?_cons_succ] at c1 l1
        clear S3 E4 L4 R4 B4
        (refine wp_region_bl [0,1,2,3,4,5,6,7,8,9] [10] (by kernel_rfl) (by kernel_rfl) (by rfl) ?_
         simp only [pickI, pick, List.getElem?_cons_succ, List.getElem?_cons_zero]
         iterate 10 (first
           | (refine head_val (by rfl) (by first | exact wanted_free rfl | rfl) ?_
              apply Exists.intro
              refine ⟨fun X hX => ?_, ?_⟩
              · (obtain ⟨qz, qc, qf⟩ := bcl hX.out (by first | (simp; rfl) | rfl)
                 go_simp
                 first | done | rfl | exact ⟨rfl, rfl⟩)
              simp only [Act.put, List.setIfInBounds_toArray, List.set_cons_zero, List.set_cons_succ])
           | (refine head_pass (by rfl) ?_
              simp only [Act.put, List.setIfInBounds_toArray, List.set_cons_zero, List.set_cons_succ]))
         refine head_nil ?_
         intro w' hw'
         have hb := hw'.out
         clear hw'
         obtain ⟨hz, hc, hf⟩ := bcl hb (by first | (simp; rfl) | rfl))
        have hb5 := Lib.hid hb
        clear hb
        go_wp2
        go_roundw
        case rel =>
          refine ⟨k + 1, by omega, by go_num, bl_set' (by show w.heap.size ≤ w.heap.size + 1 + 1; omega) (bl_trans HB4.out hb5.out), (HE4.out.below hb5.out z2).far (by show w.heap.size ≠ w.heap.size + 1 + 1; omega) _, (HR4.out.below hb5.out HR4.out.lt).far (by show w.heap.size + 1 ≠ w.heap.size + 1 + 1; omega) _, ?_⟩
          rw [HNL.out, HNH.out, if_neg (Int.not_lt.2 hn), if_neg (Int.not_lt.2 hn)]
          exact (HS3.out.below hb5.out z1).set_ 1 _
        case measure => simp [intOf]; omega
    · obtain rfl : k = 6 := by omega
      have c0 := HS.out.cell 0
      have c1 := HS.out.cell 1
      have r0 := HRr.out.cell 0
      have r1 := HRr.out.cell 1
      have f0 := HRr.out.frozen 0
      have f1 := HRr.out.frozen 1
      have z1 := HRr.out.lt
      simp only [List.getElem?_toArray, List.getElem?_cons_zero, List.getElem?_cons_succ] at c0 c1 r0 r1
      generalize szL (ex6 a b c d e f) 6 = sl at *
      generalize szH (ex6 a b c d e f) 6 = sh at *
      go_wp2
      (refine bodyPost_ret (v := .agg #[.int .i64 sl, .int .i64 sh]) (by simp only [results, Tryd.results93]; go_simp) rfl ⟨rfl, ?_⟩)
      have hb9 := HB.out
      (repeat (first | (with_reducible exact bl_refl _) | (with_reducible refine bl_drew ?_) | (with_reducible refine bl_alloc ?_ _) | (with_reducible refine bl_set' ?_ ?_; · (first | omega | (simp; done) | (simp; omega))) | (with_reducible refine bl_last (by assumption) ?_) | (with_reducible refine bl_drewN ?_ _)))
end Go.Proofs.YtehifkdfbiebfaaDoor
namespace Go.Proofs.YtehifkdfbiebfaaDoor
open Go.ChangeShapes Go.WideShapes Go.ChangeAt Go.RowKit Go.Joins

theorem own : ownKnob Tryd.prog.godebug = none := by kernel_rfl
theorem laidOut : laidOutB Tryd.prog = true := by kernel_rfl
/-- An array of pairs of integers that reads as the table. -/
theorem pairs_at {H : Type} {enc : TypeId × Value → H} {P : Program} {w : World} {base : Nat} {sp : Nat → Bool} {held : Bool} {fuel : Nat} {t e it : TypeId} {n : Nat} {f0 f1 : Field} {cs : List Value} {zs : List (Int × Int)} {p : List MemPlace}
    (ht : P.underlying t = some (.array n e)) (he : P.underlying e = some (.struct #[f0, f1])) (hi : P.underlying it = some (.int .i64)) (h0 : f0.type = it ∧ f0.offset = 0) (h1 : f1.type = it ∧ f1.offset = 1) (hci : P.cellsOf it = 1) (hce : P.cellsOf e = 2) (hct : P.cellsOf t = n * 2)
    (h : DataW.trod enc P w base sp held fuel t cs = some (.agg (zs.map fun z => .agg [.lit (.int .i64 z.1), .lit (.int .i64 z.2)]), p)) : ∀ i z, zs[i]? = some z → cs[2 * i]? = some (.int .i64 z.1) ∧ cs[2 * i + 1]? = some (.int .i64 z.2) := by
  cases fuel with
  | zero => simp [DataW.trod] at h
  | succ fuel =>
    simp only [DataW.trod, ht, hce, hct] at h
    split at h
    · rename_i hl
      obtain ⟨xs, hm, hx⟩ := Option.map_eq_some_iff.1 h
      have hxs : xs.map (·.1) = zs.map fun z => (DataW.agg [.lit (.int .i64 z.1), .lit (.int .i64 z.2)] : DataW H) := by
        have := congrArg Prod.fst hx
        simpa using this
      have hxl : xs.length = n := by simpa using Lib.mapM_length hm
      intro i z hz
      have hi' : i < n := by
        have := congrArg List.length hxs
        simp at this
        have := (List.getElem?_eq_some_iff.1 hz).1
        omega
      obtain ⟨b, hb, hf⟩ := Lib.mapM_at hm i i (by simp [hi'])
      obtain ⟨y0, y1, m, rfl, hlen, e0, e1⟩ := trod_struct2 he hf
      rw [h0.1, h0.2, hci] at e0
      rw [h1.1, h1.2, hci] at e1
      obtain ⟨z0, c0, r0, _⟩ := DataW.trod_int hi e0
      obtain ⟨z1, c1, r1, _⟩ := DataW.trod_int hi e1
      have g0 : cs[i * 2]? = some (.int .i64 z0) := by
        have := congrArg (·[0]?) c0
        simpa [List.getElem?_take, List.getElem?_drop] using this
      have g1 : cs[i * 2 + 1]? = some (.int .i64 z1) := by
        have := congrArg (·[0]?) c1
        simpa [List.getElem?_take, List.getElem?_drop] using this
      have h2 : (xs.map (·.1))[i]? = some (DataW.agg [y0.1, y1.1] : DataW H) := by simp [hb]
      rw [hxs] at h2
      simp only [List.getElem?_map, hz, Option.map_some, Option.some.injEq, DataW.agg.injEq, List.cons.injEq, and_true] at h2
      rw [r0, r1] at h2
      simp only [DataW.lit.injEq, Lit.int.injEq, true_and] at h2
      rw [show 2 * i = i * 2 by omega, h2.1, h2.2]
      exact ⟨g0, g1⟩
    · cases h
theorem logs_eq {H : Type} : (Rows.laid_schisma_size_logs : DataW H) = .agg ([(1000000000, 1000000000), (1584962500, 1584962501), (2321928094, 2321928095), (2807354922, 2807354923), (3459431618, 3459431619), (3700439718, 3700439719)].map fun z : Int × Int => .agg [.lit (.int .i64 z.1), .lit (.int .i64 z.2)]) := rfl
theorem lg_of_head {W : World} {rest : List (String × DataW Unit)} (h : laidMet Tryd.prog (("schisma/size.logs", Rows.laid_schisma_size_logs) :: rest) W) : LG W := by
  obtain ⟨ps, ⟨g', t', cs, fuel, p, q, hg', ht', hvar, hd, _, _⟩, _⟩ := h
  have hgn : Tryd.prog.globalNamed "schisma/size.logs" = some 2 := by kernel_rfl
  obtain rfl := Option.some.inj (hgn.symm.trans hg')
  have hty : (Tryd.prog.globals[2]?).map (·.type) = some 206 := by kernel_rfl
  obtain rfl := Option.some.inj (hty.symm.trans ht')
  rw [logs_eq] at hd
  have hp := pairs_at Tryd.underlying206 Tryd.underlying35 Tryd.underlying3 ⟨rfl, rfl⟩ ⟨rfl, rfl⟩ (by kernel_rfl) (by kernel_rfl) (by kernel_rfl) hd
  refine ⟨?_, fun i hi => ?_⟩
  · unfold World.var? at hvar
    rw [hgn] at hvar
    simp only [Option.bind_some] at hvar
    rcases Nat.lt_or_ge 2 W.heap.size with h' | h'
    · exact h'
    · rw [Array.getElem?_eq_none h'] at hvar; cases hvar
  · have c0 := World.var?_cell hgn hvar (2 * i)
    have c1 := World.var?_cell hgn hvar (2 * i + 1)
    rcases lt6' hi with rfl | rfl | rfl | rfl | rfl | rfl
    · obtain ⟨a, b⟩ := hp 0 _ rfl
      exact ⟨c0.trans (by simpa [lgL, lgH] using a), c1.trans (by simpa [lgL, lgH] using b)⟩
    · obtain ⟨a, b⟩ := hp 1 _ rfl
      exact ⟨c0.trans (by simpa [lgL, lgH] using a), c1.trans (by simpa [lgL, lgH] using b)⟩
    · obtain ⟨a, b⟩ := hp 2 _ rfl
      exact ⟨c0.trans (by simpa [lgL, lgH] using a), c1.trans (by simpa [lgL, lgH] using b)⟩
    · obtain ⟨a, b⟩ := hp 3 _ rfl
      exact ⟨c0.trans (by simpa [lgL, lgH] using a), c1.trans (by simpa [lgL, lgH] using b)⟩
    · obtain ⟨a, b⟩ := hp 4 _ rfl
      exact ⟨c0.trans (by simpa [lgL, lgH] using a), c1.trans (by simpa [lgL, lgH] using b)⟩
    · obtain ⟨a, b⟩ := hp 5 _ rfl
      exact ⟨c0.trans (by simpa [lgL, lgH] using a), c1.trans (by simpa [lgL, lgH] using b)⟩
theorem door_topTuned (os : Os) (args : Array Value) : laidMetH Tryd.prog Rows.topTunedRow.laid ((World.doorLaid Tryd.prog 62 os).forCall (fun _ _ => 0) ⟨#[], args, []⟩).memory :=
  laidMetH_of_parts3 (fuel := 8) (laidMet_of_run' 8 (by kernel_rfl) (by kernel_rfl)) (by kernel_rfl) (by kernel_rfl)
theorem topTuned_of_laid {W : World} (h : laidMetH Tryd.prog Rows.topTunedRow.laid W) : LG W := by
  rw [MakeChecks.laidMetH_plain _ _ _ (by kernel_rfl)] at h
  exact lg_of_head h
end Go.Proofs.YtehifkdfbiebfaaDoor
