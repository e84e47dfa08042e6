/- TopEqual: Valid of a rising scale of pitches with one coordinate. -/
import Derived.Test.YtehifkdfbiebfaaDoorK24
import Derived.Test.YtehifkdfbiebfaaDoorK25
import Derived.Test.YtehifkdfbiebfaaDoorK14
import Derived.Deep.CutBlock
namespace Go.Proofs.YtehifkdfbiebfaaDoor
open Go Go.RowKit

/-- Pitches with one coordinate. -/
def stG (st : Nat → Int) (k i : Nat) : Int := if i = 0 then st k else 0
/-- A rising scale within the octave. -/
def Rise (st : Nat → Int) (n : Nat) : Prop := 1 ≤ n ∧ n ≤ 12 ∧ st 0 = 0 ∧ (∀ k, k + 1 < n → st k < st (k + 1)) ∧ ∀ k, k < n → 0 ≤ st k ∧ st k ≤ 11
theorem st_cells {st : Nat → Int} {n : Nat} {A : Option Addr} {w : World} (h : VecsR w w.heap.size A n (stG st)) (h0 : 0 < n) : ∃ b o, A = some ⟨b, o, none⟩ ∧ b < w.heap.size ∧ ∀ k, k < n → ∀ X, Below w.heap.size w X →
    X.cell? ⟨b, o + k * 6, none⟩ = some (.int .i64 (st k)) ∧ X.cell? ⟨b, o + k * 6 + 1, none⟩ = some (.int .i64 0) ∧ X.cell? ⟨b, o + k * 6 + 2, none⟩ = some (.int .i64 0) ∧
    X.cell? ⟨b, o + k * 6 + 3, none⟩ = some (.int .i64 0) ∧ X.cell? ⟨b, o + k * 6 + 4, none⟩ = some (.int .i64 0) ∧ X.cell? ⟨b, o + k * 6 + 5, none⟩ = some (.int .i64 0) ∧ b < X.heap.size := by
  obtain ⟨b, o, e, hlt, hc⟩ := h h0
  refine ⟨b, o, e, hlt, fun k hk X hX => ?_⟩
  have g : ∀ i, i < 6 → X.cell? ⟨b, o + k * 6 + i, none⟩ = some (.int .i64 (stG st k i)) := fun i hi => (hX.cell (p := ⟨b, o + k * 6 + i, none⟩) hlt).trans (hc k hk i hi)
  refine ⟨g 0 (by omega), g 1 (by omega), g 2 (by omega), g 3 (by omega), g 4 (by omega), g 5 (by omega), ?_⟩
  have := hX.size
  omega
set_option maxRecDepth 100000 in
set_option maxHeartbeats 8000000 in
theorem scValid_c (st : Nat → Int) (n : Nat) (hs : Rise st n) (A : Option Addr) (c : Nat) (w : World) (hP : PR w) (hc : n ≤ c) (hv : VecsR w w.heap.size A n (stG st)) : Calls Tryd.prog 98 #[.slice A n c] w (Ret (.bool true) w) := by
  obtain ⟨h1, h2, h3, h4, h5⟩ := hs
  obtain ⟨N, hN⟩ : ∃ N, n = N + 1 := ⟨n - 1, by omega⟩
  have hn1 : n - 1 = N := by omega
  obtain ⟨b, o, rfl, hb0, hcl⟩ := st_cells hv (by omega)
  have HCl := Lib.hid hcl
  have HV := Lib.hid (fun k (hk : k < n) X => PVld1_c (st k) X (by have := h5 k hk; omega))
  have HC := Lib.hid (fun k (hk : k < N) X (hX : Below w.heap.size w X) => show Calls Tryd.prog 97 #[one6 (st k), one6 (st (k + 1))] X (Ret (.int .i64 (-1)) X) from by
    have h := cmp1_c (st k) (st (k + 1)) X (hP.up hX) (by have := h5 k (by omega); omega) (by have := h5 (k + 1) (by omega); omega)
    rw [show ordZ (st k) (st (k + 1)) = -1 from by unfold ordZ; rw [if_pos (h4 k (by omega))]] at h
    exact h)
  have HI := Lib.hid (fun X (hX : Below w.heap.size w X) => show Calls Tryd.prog 125 #[one6 (st N)] X (Ret (.bool true) X) from by
    obtain ⟨a1, a2⟩ := h5 N (by omega)
    have h := inside_c (st N) X (hP.up hX) (by omega)
    have a3 : st N < 12 := by omega
    rw [show (decide (0 ≤ st N) && decide (st N < 12)) = true by simp [a1, a3]] at h
    exact h)
  obtain ⟨p_0, p_1, p_2, p_3, p_4, p_5, zp⟩ := hcl 0 (by omega) w (bl_refl _)
  rw [Nat.zero_mul, Nat.add_zero] at p_0 p_1 p_2 p_3 p_4 p_5
  rw [h3] at p_0
  have q1 : ((n : Int) == 0) = false := by rw [beq_eq_false_iff_ne]; omega
  have q2 : decide ((64 : Int) < (n : Int)) = false := decide_eq_false (by omega)
  have q3 : decide ((1 : Int) ≤ (n : Int)) = true := decide_eq_true (by omega)
  have w1 : IntKind.i64.wrap ((n : Int) - 1) = (N : Int) := by rw [IntKind.wrap_i64]; omega
  clear hcl hv hP h4 h5 hN
  go_enter Tryd.func98, Tryd.ntmps98
  go_upto_region 3 with fail
  clear p_0 p_1 p_2 p_3 p_4 p_5 zp
  go_upto_block 0 with fail
  have e : (if c = 1 then some (⟨b, o, none⟩ : Addr) else some ⟨b, o + 6, none⟩) = some ⟨b, if c = 1 then o else o + 6, none⟩ := by split <;> rfl
  rw [e]
  try rw [hn1]
  obtain ⟨o1, ho1⟩ : ∃ o1, o1 = if c = 1 then o else o + 6 := ⟨_, rfl⟩
  rw [← ho1]
  have ho2 : 1 ≤ N → o1 = o + 6 := fun h => by rw [ho1, if_neg (by omega)]
  clear e ho1
  go_wp2
  go_loopw [23] (fun kv wr => ∃ k : Nat, k ≤ N ∧ kv = .int .i64 (k : Int) ∧ Hid (Below w.heap.size w wr)) (fun kv _ => N - (intOf kv).toNat)
  case atStart => exact ⟨0, by omega, rfl, Lib.hid (bl_refl _)⟩
  case round =>
    obtain ⟨k, hk, rfl, HB⟩ := hrel
    by_cases hlt : k < N
    · have hki : (k : Int) < (N : Int) := by omega
      have wk : IntKind.i64.wrap ((k : Int) + 1) = (k : Int) + 1 := by rw [IntKind.wrap_i64]; omega
      have hkn : (k : Int) < (n : Int) := by omega
      obtain rfl := ho2 (by omega)
      obtain ⟨r_0, r_1, r_2, r_3, r_4, r_5, zr⟩ := HCl.out (k + 1) (by omega) wr HB.out
      rw [show o + (k + 1) * 6 = o + 6 + k * 6 by omega] at r_0 r_1 r_2 r_3 r_4 r_5
      have hz := HB.out.size
      go_upto_region 6 with fail
      refine wp_letter ?_
      intro W2 hW2
      have b2 : Below w.heap.size w W2 := by rw [hW2]; exact bl_alloc HB.out _
      have P2 : Blk W2 wr.heap.size 72 (arr1 (st (k + 1))) := by rw [hW2]; exact Blk.new _ _ _
      clear hW2 r_0 r_1 r_2 r_3 r_4 r_5 zr
      generalize wr.heap.size = bp at *
      obtain ⟨s_0, s_1, s_2, s_3, s_4, s_5, zs⟩ := HCl.out k (by omega) W2 b2
      have p_0 := P2.cell 0
      have p_1 := P2.cell 1
      have p_2 := P2.cell 2
      have p_3 := P2.cell 3
      have p_4 := P2.cell 4
      have p_5 := P2.cell 5
      have zp := P2.lt
      simp only [List.getElem?_toArray, List.getElem?_cons_zero, List.getElem?_cons_succ] at p_0 p_1 p_2 p_3 p_4 p_5
      have HV2 := Lib.hid (fun X => HV.out (k + 1) (by omega) X)
      have HC2 := Lib.hid (fun X (hX : Below W2.heap.size W2 X) => HC.out k hlt X (bl_trans b2 hX))
      (refine wp_region_bl [0,1,2,3,4,5,6,7,8,9,10,11] [] (by kernel_rfl) (by kernel_rfl) (by rfl) ?_
       simp only [pickI, pick, List.getElem?_cons_succ, List.getElem?_cons_zero]
       iterate 12 (first
         | (refine head_val (by rfl) (by first | exact wanted_free rfl | rfl) ?_
            apply Exists.intro
            refine ⟨fun X hX => ?_, ?_⟩
            · (obtain ⟨qz, qc, qf⟩ := bcl hX.out (by first | (simp; rfl) | rfl)
               go_simp
               first | done | ((with_reducible refine (HV2.out _).mono ?_); rintro e w2 ⟨rfl, hb2⟩; exact ⟨rfl, hX.trans hb2⟩) | ((with_reducible refine (HC2.out _ hX.out).mono ?_); rintro e w2 ⟨rfl, hb2⟩; exact ⟨rfl, hX.trans hb2⟩) | rfl | exact ⟨rfl, rfl⟩)
            simp only [Act.put, List.setIfInBounds_toArray, List.set_cons_zero, List.set_cons_succ])
         | (refine head_pass (by rfl) ?_
            simp only [Act.put, List.setIfInBounds_toArray, List.set_cons_zero, List.set_cons_succ]))
       refine head_nil ?_
       intro w' hw'
       have hb := hw'.out
       clear hw'
       obtain ⟨hz, hc, hf⟩ := bcl hb (by first | (simp; rfl) | rfl))
      have HB3 := Lib.hid (bl_trans b2 hb)
      clear hb hz hc hf b2 P2 s_0 s_1 s_2 s_3 s_4 s_5 zs p_0 p_1 p_2 p_3 p_4 p_5 zp HV2 HC2
      go_wp2
      go_roundw
      case rel => exact ⟨k + 1, by omega, by go_num, HB3⟩
      case measure => simp [intOf]; omega
    · obtain rfl : k = N := by omega
      obtain ⟨r_0, r_1, r_2, r_3, r_4, r_5, zr⟩ := HCl.out k (by omega) wr HB.out
      have hkn : (k : Int) < (n : Int) := by omega
      go_wp2_with fail
      (with_reducible refine (HI.out _ HB.out).mono ?_)
      rintro e W9 ⟨rfl, hb9⟩
      have b9 := bl_trans HB.out hb9
      simp only
      go_wp2
      go_ret
      exact ⟨rfl, b9⟩
end Go.Proofs.YtehifkdfbiebfaaDoor
