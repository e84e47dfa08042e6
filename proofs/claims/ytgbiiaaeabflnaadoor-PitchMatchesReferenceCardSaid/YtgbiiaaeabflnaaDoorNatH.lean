/- The reference's natural numbers: Product, Mul. -/
import Derived.Test.YtgbiiaaeabflnaaDoorNatG
import Derived.OwnWalk
import Derived.BigQuiet
namespace Go.Proofs.YtgbiiaaeabflnaaDoor
open Go.RowKit

set_option maxRecDepth 100000 in
set_option maxHeartbeats 4000000 in
theorem RProduct_c (ba bb n m x y ca cb : Nat) (w : World) (ha : Num w w.heap.size ba n x) (hb : Num w w.heap.size bb m y) (hn : n ≤ 640) (hm : m ≤ 640) :
    Calls Tryd.prog 95 #[.slice (some ⟨ba, 0, none⟩) n ca, .slice (some ⟨bb, 0, none⟩) m cb] w (RNumP (x * y) w) := by
  obtain ⟨fa, ⟨ha0, hac⟩, hA⟩ := ha
  obtain ⟨fb, ⟨hb0, hbc⟩, hB⟩ := hb
  have HA := Lib.hid hac
  have HB := Lib.hid hbc
  have LA := Lib.hid hA.lt
  have LB := Lib.hid hB.lt
  have hv : nvF fa n * nvF fb m = x * y := by rw [hA.val, hB.val]
  have HV := Lib.hid hv
  clear hac hbc hA hB hv
  obtain ⟨N, hN⟩ : ∃ N : Nat, N = n + m := ⟨_, rfl⟩
  have hmk := make_limbs N (by omega)
  rw [show (N : Int) = (n : Int) + m by omega] at hmk
  have HN := Lib.hid hN
  clear hN
  have HR0 : Hid (Rows_ fa fb N m 0 (fun _ => 0)) := Lib.hid ⟨fun _ _ => by omega, by rw [nvF_zero fun _ _ => rfl]; show _ = 0 * _; rw [Nat.zero_mul], fun _ _ _ => rfl⟩
  go_enter Tryd.func95, Tryd.ntmps95
  go_wp2
  go_loopw [6] (fun i wr => ∃ (k : Nat) (c : Nat → Nat), k ≤ n ∧ i = .int .i64 k ∧ Hid (Blk wr w.heap.size 57 (arrN c N)) ∧ Below w.heap.size w wr ∧ Hid (Rows_ fa fb N m k c)) (fun i _ => n - (intOf i).toNat)
  case atStart =>
    refine ⟨0, fun _ => 0, Nat.zero_le _, rfl, Lib.hid (Blk.new _ _ _), ?_, HR0⟩
    (repeat (first | (with_reducible exact bl_refl _) | (with_reducible refine bl_drew ?_) | (with_reducible refine bl_alloc ?_ _) | (with_reducible refine bl_set' ?_ ?_; · (first | omega | (simp; done) | (simp; omega))) | (with_reducible refine bl_last (by assumption) ?_) | (with_reducible refine bl_drewN ?_ _)))
  case round =>
    obtain ⟨k, c, hk, rfl, HBl, hbw, HR⟩ := hrel
    have hz : w.heap.size < wr.heap.size := HBl.out.lt
    by_cases hlt : k < n
    · go_wp2
      obtain ⟨w0, hw0⟩ : ∃ w0 : World, w0 = wr := ⟨_, rfl⟩
      subst hw0
      have hAk := LA.out k hlt
      have HC0 := Lib.hid (Cols_.start HR.out)
      clear hz
      go_loopw [7, 8] (fun u j wj => ∃ (l q : Nat) (d : Nat → Nat), l ≤ m ∧ j = .int .i64 l ∧ u = .int .u64 q ∧ Hid (Blk wj w.heap.size 57 (arrN d N)) ∧ Below w.heap.size w wj ∧ Hid (Cols_ fa fb N m k l q d)) (fun _ j _ => m - (intOf j).toNat)
      case atStart => exact ⟨0, 0, c, Nat.zero_le _, rfl, rfl, HBl, hbw, HC0⟩
      case round =>
        clear HBl hbw HR HC0
        obtain ⟨l, q, d, hl, rfl, rfl, HBl, hbw, HC⟩ := hrel
        have hz : w.heap.size < wr.heap.size := HBl.out.lt
        obtain ⟨s, hs⟩ : ∃ s : Nat, s = k + l := ⟨_, rfl⟩
        have hws : IntKind.i64.wrap ((k : Int) + (l : Int)) = (s : Int) := by rw [IntKind.wrap_i64]; omega
        have hsN : s < N := by have := HN.out; omega
        have c2 := (HBl.out.cell s).trans (arrN_get d N hsN)
        have c3 := HBl.out.frozen s
        have hq := HC.out.car
        by_cases hlm : l < m
        · have c0 := (hbw.cell (p := ⟨ba, k, none⟩) ha0).trans (HA.out k hlt)
          have c1 := (hbw.cell (p := ⟨bb, l, none⟩) hb0).trans (HB.out l hlm)
          have z0 : ba < wr.heap.size := by omega
          have z1 : bb < wr.heap.size := by omega
          have hBl := LB.out l hlm
          have hd := HC.out.lt s hsN
          have hstep := HC.out.step hlm (by have := HN.out; omega) hAk hBl
          rw [← hs] at hstep
          obtain ⟨ft, fq⟩ := prod_fit hAk hBl hd hq
          have HBs := fun v => Lib.hid ((HBl.out.set_ s (.int .u32 ((v : Nat) : Int))).trans (by rw [arrN_set]))
          have hXY := Int.natCast_mul (fa k) (fb l)
          generalize fa k = X at *
          generalize fb l = Y at *
          generalize d s = C at *
          obtain ⟨P, hP⟩ : ∃ P : Nat, P = X * Y := ⟨_, rfl⟩
          rw [← hP] at hstep ft fq hXY
          obtain ⟨T, hT⟩ : ∃ T : Nat, T = P + C + q := ⟨_, rfl⟩
          obtain ⟨T1, hT1⟩ : ∃ T1 : Nat, T1 = P + C := ⟨_, rfl⟩
          rw [← hT] at hstep ft fq
          obtain ⟨R, hR⟩ : ∃ R : Nat, R = T % 4294967296 := ⟨_, rfl⟩
          obtain ⟨D, hD⟩ : ∃ D : Nat, D = T / 4294967296 := ⟨_, rfl⟩
          rw [← hR, ← hD] at hstep
          have HCS := Lib.hid hstep
          have e0 : IntKind.u64.wrap (X : Int) = (X : Int) := by rw [IntKind.wrap_u64]; omega
          have e1 : IntKind.u64.wrap (Y : Int) = (Y : Int) := by rw [IntKind.wrap_u64]; omega
          have e2 : IntKind.u64.wrap ((X : Int) * (Y : Int)) = (P : Int) := by rw [← hXY, IntKind.wrap_u64]; omega
          have e3 : IntKind.u64.wrap (C : Int) = (C : Int) := by rw [IntKind.wrap_u64]; omega
          have e4 : IntKind.u64.wrap ((P : Int) + (C : Int)) = (T1 : Int) := by rw [IntKind.wrap_u64]; omega
          have e5 : IntKind.u64.wrap ((T1 : Int) + (q : Int)) = (T : Int) := by rw [IntKind.wrap_u64]; omega
          have hlow : bits BinOp.and IntKind.u64 (T : Int) 4294967295 = (R : Int) := by rw [u64_low _ (by omega) (by omega)]; omega
          have e6 : IntKind.u32.wrap (R : Int) = (R : Int) := by rw [IntKind.wrap_u32]; omega
          have e7 : (T : Int) / 4294967296 = (D : Int) := by omega
          have e8 : IntKind.i64.wrap ((l : Int) + 1) = ((l + 1 : Nat) : Int) := by rw [IntKind.wrap_i64]; omega
          clear hstep hP hXY hT hT1 hR hD hs ft fq hd hBl
          go_wp2
          (refine wp_region_bl [0,1,2,3,4,5,6,7,8,9,10,11,12,13,14,15,16,17,18,19,20] [21] (by kernel_rfl) (by kernel_rfl) (by rfl) ?_
           simp only [pickI, pick, List.getElem?_cons_succ, List.getElem?_cons_zero]
           iterate 21 (first
             | (refine head_val (by rfl) (by rfl) ?_
                apply Exists.intro
                refine ⟨fun X hX => ?_, ?_⟩
                · (obtain ⟨qz, qc, qf⟩ := bcl hX.out (by first | (simp; rfl) | rfl)
                   go_simp
                   first | done | rfl | exact ⟨rfl, rfl⟩)
                simp only [Act.put, List.setIfInBounds_toArray, List.set_cons_zero, List.set_cons_succ])
             | (refine head_pass (by rfl) ?_
                simp only [Act.put, List.setIfInBounds_toArray, List.set_cons_zero, List.set_cons_succ]))
           refine head_nil ?_
           intro w' hw'
           have hb := hw'.out
           clear hw'
           obtain ⟨hz, hc, hf⟩ := bcl hb (by first | (simp; rfl) | rfl))
          go_wp2
          go_roundw
          case rel =>
            refine ⟨l + 1, D, _, by omega, by go_num, rfl, Lib.hid (((HBl.out.below hb HBl.out.lt).set_ s (.int .u32 ((R : Nat) : Int))).trans (by rw [arrN_set])), ?_, HCS⟩
            exact (bl_trans hbw hb).setCell (p := ⟨w.heap.size, s, none⟩) (by show w.heap.size ≤ w.heap.size; omega) _
          case measure => simp [intOf]; omega
        · obtain rfl : l = m := by omega
          have hdone := HC.out.done (by have := HN.out; omega)
          rw [← hs] at hdone
          have HCS := Lib.hid hdone
          have HBs := Lib.hid ((HBl.out.set_ s (.int .u32 (q : Int))).trans (by rw [arrN_set]))
          have e6 : IntKind.u32.wrap (q : Int) = (q : Int) := by rw [IntKind.wrap_u32]; omega
          have e8 : IntKind.i64.wrap ((k : Int) + 1) = ((k + 1 : Nat) : Int) := by rw [IntKind.wrap_i64]; omega
          clear hdone hs
          generalize d s = C at *
          go_wp2
          go_roundw
          case rel =>
            refine ⟨k + 1, _, by omega, by go_num, HBs, ?_, HCS⟩
            exact hbw.setCell (p := ⟨w.heap.size, s, none⟩) (by show w.heap.size ≤ w.heap.size; omega) _
          case measure => simp [intOf]; omega
    · obtain rfl : k = n := by omega
      have hval : nvF c N = x * y := by rw [HR.out.val]; exact HV.out
      have hNN := HN.out
      have HF := Lib.hid (RTrim_c c N N w.heap.size wr HBl.out.nat (Nat.le_refl _) (by omega) HR.out.lt)
      have HVV := Lib.hid hval
      clear hval hNN
      go_wp2_with (go_at_call 94; ((with_reducible refine (HF.out).mono ?_); rintro e w' ⟨n', hn', rfl, rfl, hI⟩))
      go_ret
      rw [HVV.out] at hI
      have hNN := HN.out
      exact ⟨hbw, w.heap.size, n', N, Nat.le_refl _, hn', rfl, ⟨c, ⟨HBl.out.lt, fun i hi => HBl.out.nat.2 i (by omega)⟩, hI⟩, hn', by omega⟩
end Go.Proofs.YtgbiiaaeabflnaaDoor
