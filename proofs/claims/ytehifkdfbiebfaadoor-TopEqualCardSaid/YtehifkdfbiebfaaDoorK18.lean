/- Pitch: factors and multiply. -/
import Derived.Test.YtehifkdfbiebfaaDoorK16
import Derived.Test.YtehifkdfbiebfaaDoorK17
import Derived.Test.YtehifkdfbiebfaaDoorK01
import Derived.Test.YtehifkdfbiebfaaDoorK10
import Derived.Shelf.Abstract
import Derived.Shelf.RegionOpen
import Derived.OwnWalkIn
import Derived.TacticsInMore
import Derived.LoopNIn
import Derived.LoopIn
import Derived.Deep.AppendLies
namespace Go.Proofs.YtehifkdfbiebfaaDoor
open Go Go.RowKit

/-- The primes lie as the program's text lays them. -/
def PR (w : World) : Prop := 0 < w.heap.size ∧ ∀ i, i < 6 → w.cell? ⟨0, i, none⟩ = some (.int .i64 (prm i : Int))
theorem PR.up {w w' : World} (h : PR w) (hb : Below w.heap.size w w') : PR w' :=
  ⟨Nat.lt_of_lt_of_le h.1 hb.size, fun i hi => (hb.cell (p := ⟨0, i, none⟩) h.1).trans (h.2 i hi)⟩
theorem PR.under {w w' : World} {B : Nat} (h : PR w) (hb : Below B w w') (hB : 0 < B) : PR w' :=
  ⟨Nat.lt_of_lt_of_le h.1 hb.size, fun i hi => (hb.cell (p := ⟨0, i, none⟩) hB).trans (h.2 i hi)⟩
theorem idx_pex (a b c d e f : Int) (i : Nat) (h : i < 6) (w : World) : (Instr.index 26 (.agg #[.int .i64 a, .int .i64 b, .int .i64 c, .int .i64 d, .int .i64 e, .int .i64 f]) (.int .i64 (i : Int))).run Tryd.prog w = .ok (.int .i64 (pex a b c d e f i)) w := by
  rcases lt6 h with rfl | rfl | rfl | rfl | rfl | rfl
  · exact idx6_0 a b c d e f w
  · exact idx6_1 a b c d e f w
  · exact idx6_2 a b c d e f w
  · exact idx6_3 a b c d e f w
  · exact idx6_4 a b c d e f w
  · exact idx6_5 a b c d e f w
theorem mkFunc : ∀ (fn : Fn) (first cap : Array Value) (w : World), (Instr.makeFunc fn first cap).run Tryd.prog w = .ok (.func fn first cap) w := fun _ _ _ _ => rfl
set_option maxHeartbeats 1000000 in
theorem factors_c (a b c d e f : Int) (w : World) : Calls Tryd.prog 116 #[.agg #[.int .i64 a, .int .i64 b, .int .i64 c, .int .i64 d, .int .i64 e, .int .i64 f]] w (fun en w' => en = .returned (.func (.func 131) #[] #[.pointer (some ⟨w.heap.size, 0, none⟩)]) ∧ w' = w.alloc (.cells #[.int .i64 a, .int .i64 b, .int .i64 c, .int .i64 d, .int .i64 e, .int .i64 f] 26)) := by
  have hmf := mkFunc
  go_enter Tryd.func116, Tryd.ntmps116
  go_wp2
  go_ret
  exact ⟨rfl, rfl⟩
set_option maxRecDepth 100000 in
set_option maxHeartbeats 4000000 in
theorem factors1_c (a b c d e f : Int) (F : Nat) :
    IterG Tryd.prog 131 #[.pointer (some ⟨F, 0, none⟩)] 6 (fun k => decide (pex a b c d e f k ≠ 0)) (fun k => #[.int .i64 (prm k : Int), .int .i64 (pex a b c d e f k)]) (fun W => Blk W F 26 #[.int .i64 a, .int .i64 b, .int .i64 c, .int .i64 d, .int .i64 e, .int .i64 f] ∧ PR W) := by
  intro l J W hgrow hSL hY hS h0
  have HSL := Lib.hid hSL
  have HY := Lib.hid hY
  have HS := Lib.hid hS
  have HX := Lib.hid (fun i h w => idx_pex a b c d e f i h w)
  have hB := (hSL 0 W h0).1
  have c0 := hB.cell 0
  have c1 := hB.cell 1
  have c2 := hB.cell 2
  have c3 := hB.cell 3
  have c4 := hB.cell 4
  have c5 := hB.cell 5
  simp only [List.getElem?_toArray, List.getElem?_cons_zero, List.getElem?_cons_succ] at c0 c1 c2 c3 c4 c5
  clear hgrow hSL hY hS hB
  generalize pex a b c d e f = E at *
  refine callsIn_of_wp Tryd.func131 rfl trivial ?_ rfl
  simp only [Tryd.ntmps131, List.size_toArray, List.length_cons, List.length_nil, Nat.reduceAdd, Nat.reduceSub, Array.replicate_succ, Array.replicate_zero, List.push_toArray, List.append_toArray, List.nil_append, List.cons_append]
  gi_wp2
  gi_loopw [6] (fun i wr => ∃ k : Nat, k ≤ 6 ∧ i = .int .i64 (k : Int) ∧ J k wr) (fun i _ => 6 - (intOf i).toNat)
  case atStart => exact ⟨0, by omega, rfl, h0⟩
  case round =>
    obtain ⟨k, hk, rfl, hJ⟩ := hrel
    by_cases hlt : k < 6
    · have hx := fun w => HX.out k hlt w
      have hp := (HSL.out k wr hJ).2.2 k hlt
      have hys := HY.out k wr hlt
      have hns := HS.out k wr hlt
      have e8 : IntKind.i64.wrap ((k : Int) + 1) = ((k + 1 : Nat) : Int) := by rw [IntKind.wrap_i64]; omega
      generalize E k = y at *
      generalize prm k = p at *
      by_cases hy : y = 0
      · have hJ2 := hns (by simp [hy]) hJ
        clear hys hns
        gi_wp2
        refine ⟨(fun _ h => by cases h), ?_⟩
        gi_wp2
        go_roundw
        case rel => exact ⟨k + 1, hlt, by go_num, hJ2⟩
        case measure => simp [intOf]; omega
      · have hy' : (y != 0) = true := by simpa using hy
        obtain ⟨fn, tmps, assign, body, hyr, hR⟩ := hys (by simp [hy]) hJ
        clear hns
        gi_wp2
        refine hR.mono ?_
        rintro e W3 ⟨rfl, hJ3⟩
        gi_wp2
        go_roundw
        case rel => exact ⟨k + 1, hlt, by go_num, hJ3⟩
        case measure => simp [intOf]; omega
    · obtain rfl : k = 6 := by omega
      gi_wp2
      refine bodyPost_end (results_none rfl _ _ _) rfl ?_
      exact ⟨⟨_, rfl⟩, hJ⟩
set_option maxRecDepth 100000 in
set_option maxHeartbeats 4000000 in
/-- The product of the numbers of a slice. -/
theorem multiply_c (A : Option Addr) (n cap : Nat) (Xs : List Value) (vals : List Nat) (w : World) (hn : n = vals.length) (hn2 : n ≤ 100) (hc : 0 < n → ∃ g : Nat, A = some ⟨g, 0, none⟩ ∧ g < w.heap.size ∧ ∀ (j : Nat) x, Xs[j]? = some x → w.cell? ⟨g, j, none⟩ = some x) (hE : Els w Xs vals) (hcap : prodL vals < Cap) :
    Calls Tryd.prog 118 #[.slice A n cap] w (NumP (prodL vals) w) := by
  have HMk : Hid (∀ w, Calls Tryd.prog 33 #[.int .u64 1] w (NumP 1 w)) := Lib.hid (fun w => Nmake_c 1 w (by omega))
  have HC := Lib.hid hc
  have HE := Lib.hid hE
  have HV : Hid (∀ k, prodL (vals.take k) ≤ prodL vals) := Lib.hid (prodL_take_le vals (fun x hx => by
    obtain ⟨j, hj⟩ := List.getElem?_of_mem hx
    exact (hE.2 j x hj).1))
  have HS : Hid (∀ k x, vals[k]? = some x → prodL (vals.take (k + 1)) = prodL (vals.take k) * x) := Lib.hid (prodL_take_succ vals)
  have HT : Hid (prodL (vals.take n) = prodL vals) := Lib.hid (by rw [hn, List.take_length])
  have HCap := Lib.hid hcap
  have HL := Lib.hid hn
  clear hc hE hcap hn
  go_enter Tryd.func118, Tryd.ntmps118
  go_wp2_with (go_at_call 33; ((with_reducible refine (HMk.out _).mono ?_); rintro e w1 ⟨hb1, b1, n1, hk1, rfl, hN1, h61⟩))
  go_loopw [3, 9] (fun o i wr => ∃ k b m : Nat, k ≤ n ∧ i = .int .i64 (k : Int) ∧ o = .slice (some ⟨b, 0, none⟩) m m ∧ Below w.heap.size w wr ∧ w.heap.size ≤ b ∧ Hid (Num wr wr.heap.size b m (prodL (vals.take k))) ∧ m ≤ 640) (fun _ i _ => n - (intOf i).toNat)
  case atStart => exact ⟨0, b1, n1, by omega, rfl, rfl, hb1, hk1, Lib.hid hN1, h61⟩
  case round =>
    clear hb1 hN1
    obtain ⟨k, b, m, hk, rfl, rfl, hbw, hkb, HN, hm⟩ := hrel
    by_cases hlt : k < n
    · obtain ⟨g, rfl, hg, hcell⟩ := HC.out (by omega)
      obtain ⟨x, hx⟩ : ∃ x, vals[k]? = some x := ⟨_, List.getElem?_eq_getElem (by have := HL.out; omega)⟩
      obtain ⟨h1, q, m', hX, hNq, hm'⟩ := HE.out.2 k x hx
      have hq := (hbw.cell (p := ⟨g, k, none⟩) hg).trans (hcell k _ hX)
      have hst := HS.out k x hx
      have hle := HV.out (k + 1)
      have hNq' : Num wr wr.heap.size q m' x := hNq.up hbw
      have e8 : IntKind.i64.wrap ((k : Int) + 1) = ((k + 1 : Nat) : Int) := by rw [IntKind.wrap_i64]; omega
      have hfit : prodL (vals.take k) * x < Cap := by rw [← hst]; exact Nat.lt_of_le_of_lt hle HCap.out
      have HM := Lib.hid (Nmul_c b q m m' (prodL (vals.take k)) x m m' wr HN.out hNq' hm hm' hfit)
      have HST := Lib.hid hst
      clear hcell hX hNq hst hle hNq' hfit hx
      go_wp2_with (go_at_call 135; ((with_reducible refine HM.out.mono ?_); rintro e w2 ⟨hb2, b2, n2, hk2, rfl, hN2, h62⟩))
      go_roundw
      case rel => exact ⟨k + 1, b2, n2, hlt, by go_num, rfl, bl_trans hbw hb2, by have := hbw.size; omega, Lib.hid (by rw [HST.out]; exact hN2), h62⟩
      case measure => simp [intOf]; omega
    · obtain rfl : k = n := by omega
      go_wp2
      go_ret
      exact ⟨hbw, b, m, hkb, rfl, by have := HN.out; rw [HT.out] at this; exact this, hm⟩
end Go.Proofs.YtehifkdfbiebfaaDoor
