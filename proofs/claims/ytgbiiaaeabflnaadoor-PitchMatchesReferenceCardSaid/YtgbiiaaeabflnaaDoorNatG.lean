/- The reference's natural numbers: Order, Product, Mul. -/
import Derived.Test.YtgbiiaaeabflnaaDoorNatF
namespace Go.Proofs.YtgbiiaaeabflnaaDoor
open Go.RowKit

set_option maxRecDepth 100000 in
set_option maxHeartbeats 2000000 in
theorem ROrder_c (ba bb n m x y ca cb : Nat) (w : World) (ha : Num w w.heap.size ba n x) (hb : Num w w.heap.size bb m y) (hn : n ≤ 1280) (hm : m ≤ 1280) :
    Calls Tryd.prog 72 #[.slice (some ⟨ba, 0, none⟩) n ca, .slice (some ⟨bb, 0, none⟩) m cb] w (Ret (.int .i64 (ordZ (x : Int) (y : Int))) w) := by
  obtain ⟨fa, ⟨ha0, hac⟩, hA⟩ := ha
  obtain ⟨fb, ⟨hb0, hbc⟩, hB⟩ := hb
  have HA := Lib.hid hac
  have HB := Lib.hid hbc
  have IA := Lib.hid hA
  have IB := Lib.hid hB
  clear hac hbc hA hB
  by_cases hnm : n = m
  case neg =>
    rcases Nat.lt_or_ge n m with h | h
    · have hE : ordZ (x : Int) (y : Int) = -1 := by
        have := isN_short IA.out IB.out h
        rw [ordZ_lt (by omega)]
      rw [hE]
      clear hE hnm
      go_enter Tryd.func72, Tryd.ntmps72
      go_wp2
      go_ret
      exact ⟨rfl, bl_refl _⟩
    · have hE : ordZ (x : Int) (y : Int) = 1 := by
        have := isN_short IB.out IA.out (by omega)
        rw [ordZ_gt (by omega)]
      have h' : m < n := by omega
      rw [hE]
      clear hE hnm h
      go_enter Tryd.func72, Tryd.ntmps72
      go_wp2
      go_ret
      exact ⟨rfl, bl_refl _⟩
  subst hnm
  go_enter Tryd.func72, Tryd.ntmps72
  go_wp2
  go_loopw [5] (fun i wr => ∃ k : Nat, k ≤ n ∧ i = .int .i64 ((k : Int) - 1) ∧ Hid (∀ j, k ≤ j → j < n → fa j = fb j) ∧ Below w.heap.size w wr) (fun i _ => (intOf i + 1).toNat)
  case atStart => exact ⟨n, Nat.le_refl _, rfl, Lib.hid (fun j h1 h2 => by omega), bl_refl _⟩
  case round =>
    obtain ⟨k, hk, rfl, HE, hbw⟩ := hrel
    rcases k with _ | k
    · have hxy : x = y := isN_same IA.out IB.out fun j hj => HE.out j (Nat.zero_le _) hj
      subst hxy
      go_wp2
      go_ret
      exact ⟨ret_int (ordZ_eq _).symm, hbw⟩
    · have c1 := (hbw.cell (p := ⟨ba, k, none⟩) ha0).trans (HA.out k (by omega))
      have c2 := (hbw.cell (p := ⟨bb, k, none⟩) hb0).trans (HB.out k (by omega))
      have hkn : (k : Nat) < n := hk
      have z1 : ba < wr.heap.size := Nat.lt_of_lt_of_le ha0 hbw.size
      have z2 : bb < wr.heap.size := Nat.lt_of_lt_of_le hb0 hbw.size
      rw [show (((k + 1 : Nat) : Int) - 1) = (k : Int) by omega]
      by_cases hf : fa k = fb k
      · have HE2 : Hid (∀ j, k ≤ j → j < n → fa j = fb j) := Lib.hid (fun j h1 h2 => by
          rcases Nat.eq_or_lt_of_le h1 with rfl | h3
          · exact hf
          · exact HE.out j h3 h2)
        rw [← hf] at c2
        clear hf HE
        generalize (fa k : Int) = X at *
        go_wp2
        (refine wp_region_bl [0,1,2,3,4,5,6,7,8] [] (by kernel_rfl) (by kernel_rfl) (by rfl) ?_
         simp only [pickI, pick, List.getElem?_cons_succ, List.getElem?_cons_zero]
         iterate 9 (first
           | (refine head_val (by rfl) (by rfl) ?_
              apply Exists.intro
              refine ⟨fun X hX => ?_, ?_⟩
              · (obtain ⟨qz, qc, qf⟩ := bcl hX.out (by first | (simp; rfl) | rfl)
                 go_simp
                 first | done | rfl | exact ⟨rfl, rfl⟩)
              simp only [Act.put, List.setIfInBounds_toArray, List.set_cons_zero, List.set_cons_succ])
           | (refine head_pass (by rfl) ?_
              simp only [Act.put, List.setIfInBounds_toArray, List.set_cons_zero, List.set_cons_succ]))
         refine head_nil ?_
         intro w' hw'
         have hb := hw'.out
         clear hw'
         obtain ⟨hz, hc, hf⟩ := bcl hb (by first | (simp; rfl) | rfl))
        go_wp2
        (refine wp_region_bl [0,1,2,3,4,5,6,7,8] [] (by kernel_rfl) (by kernel_rfl) (by rfl) ?_
         simp only [pickI, pick, List.getElem?_cons_succ, List.getElem?_cons_zero]
         iterate 9 (first
           | (refine head_val (by rfl) (by rfl) ?_
              apply Exists.intro
              refine ⟨fun X hX => ?_, ?_⟩
              · (obtain ⟨qz, qc, qf⟩ := bcl hX.out (by first | (simp; rfl) | rfl)
                 go_simp
                 first | done | rfl | exact ⟨rfl, rfl⟩)
              simp only [Act.put, List.setIfInBounds_toArray, List.set_cons_zero, List.set_cons_succ])
           | (refine head_pass (by rfl) ?_
              simp only [Act.put, List.setIfInBounds_toArray, List.set_cons_zero, List.set_cons_succ]))
         refine head_nil ?_
         intro w' hw'
         have hb := hw'.out
         clear hw'
         obtain ⟨hz, hc, hf⟩ := bcl hb (by first | (simp; rfl) | rfl))
        go_wp2
        go_roundw
        case rel => exact ⟨k, by omega, rfl, HE2, by (repeat (first | (with_reducible exact bl_refl _) | (with_reducible refine bl_drew ?_) | (with_reducible refine bl_alloc ?_ _) | (with_reducible refine bl_set' ?_ ?_; · (first | omega | (simp; done) | (simp; omega))) | (with_reducible refine bl_last (by assumption) ?_) | (with_reducible refine bl_drewN ?_ _)))⟩
        case measure => simp [intOf]
      · rcases Nat.lt_or_ge (fa k) (fb k) with h | h
        · have hE : ordZ (x : Int) (y : Int) = -1 := by
            have := isN_less IA.out IB.out hkn (fun i h1 h2 => HE.out i h1 h2) h
            rw [ordZ_lt (by omega)]
          have hXY : (fa k : Int) < (fb k : Int) := by omega
          have HO := Lib.hid hE
          clear hf HE hE h
          generalize (fa k : Int) = X at *
          generalize (fb k : Int) = Y at *
          go_wp2
          (refine wp_region_bl [0,1,2,3,4,5,6,7,8] [] (by kernel_rfl) (by kernel_rfl) (by rfl) ?_
           simp only [pickI, pick, List.getElem?_cons_succ, List.getElem?_cons_zero]
           iterate 9 (first
             | (refine head_val (by rfl) (by rfl) ?_
                apply Exists.intro
                refine ⟨fun X hX => ?_, ?_⟩
                · (obtain ⟨qz, qc, qf⟩ := bcl hX.out (by first | (simp; rfl) | rfl)
                   go_simp
                   first | done | rfl | exact ⟨rfl, rfl⟩)
                simp only [Act.put, List.setIfInBounds_toArray, List.set_cons_zero, List.set_cons_succ])
             | (refine head_pass (by rfl) ?_
                simp only [Act.put, List.setIfInBounds_toArray, List.set_cons_zero, List.set_cons_succ]))
           refine head_nil ?_
           intro w' hw'
           have hb := hw'.out
           clear hw'
           obtain ⟨hz, hc, hf⟩ := bcl hb (by first | (simp; rfl) | rfl))
          go_wp2
          go_ret
          exact ⟨ret_int HO.out.symm, by (repeat (first | (with_reducible exact bl_refl _) | (with_reducible refine bl_drew ?_) | (with_reducible refine bl_alloc ?_ _) | (with_reducible refine bl_set' ?_ ?_; · (first | omega | (simp; done) | (simp; omega))) | (with_reducible refine bl_last (by assumption) ?_) | (with_reducible refine bl_drewN ?_ _)))⟩
        · have hE : ordZ (x : Int) (y : Int) = 1 := by
            have := isN_less IB.out IA.out hkn (fun i h1 h2 => (HE.out i h1 h2).symm) (by omega)
            rw [ordZ_gt (by omega)]
          have hXY : (fb k : Int) < (fa k : Int) := by omega
          have HO := Lib.hid hE
          clear hf HE hE h
          generalize (fa k : Int) = X at *
          generalize (fb k : Int) = Y at *
          go_wp2
          (refine wp_region_bl [0,1,2,3,4,5,6,7,8] [] (by kernel_rfl) (by kernel_rfl) (by rfl) ?_
           simp only [pickI, pick, List.getElem?_cons_succ, List.getElem?_cons_zero]
           iterate 9 (first
             | (refine head_val (by rfl) (by rfl) ?_
                apply Exists.intro
                refine ⟨fun X hX => ?_, ?_⟩
                · (obtain ⟨qz, qc, qf⟩ := bcl hX.out (by first | (simp; rfl) | rfl)
                   go_simp
                   first | done | rfl | exact ⟨rfl, rfl⟩)
                simp only [Act.put, List.setIfInBounds_toArray, List.set_cons_zero, List.set_cons_succ])
             | (refine head_pass (by rfl) ?_
                simp only [Act.put, List.setIfInBounds_toArray, List.set_cons_zero, List.set_cons_succ]))
           refine head_nil ?_
           intro w' hw'
           have hb := hw'.out
           clear hw'
           obtain ⟨hz, hc, hf⟩ := bcl hb (by first | (simp; rfl) | rfl))
          go_wp2
          (refine wp_region_bl [0,1,2,3,4,5,6,7,8] [] (by kernel_rfl) (by kernel_rfl) (by rfl) ?_
           simp only [pickI, pick, List.getElem?_cons_succ, List.getElem?_cons_zero]
           iterate 9 (first
             | (refine head_val (by rfl) (by rfl) ?_
                apply Exists.intro
                refine ⟨fun X hX => ?_, ?_⟩
                · (obtain ⟨qz, qc, qf⟩ := bcl hX.out (by first | (simp; rfl) | rfl)
                   go_simp
                   first | done | rfl | exact ⟨rfl, rfl⟩)
                simp only [Act.put, List.setIfInBounds_toArray, List.set_cons_zero, List.set_cons_succ])
             | (refine head_pass (by rfl) ?_
                simp only [Act.put, List.setIfInBounds_toArray, List.set_cons_zero, List.set_cons_succ]))
           refine head_nil ?_
           intro w' hw'
           have hb := hw'.out
           clear hw'
           obtain ⟨hz, hc, hf⟩ := bcl hb (by first | (simp; rfl) | rfl))
          go_wp2
          go_ret
          exact ⟨ret_int HO.out.symm, by (repeat (first | (with_reducible exact bl_refl _) | (with_reducible refine bl_drew ?_) | (with_reducible refine bl_alloc ?_ _) | (with_reducible refine bl_set' ?_ ?_; · (first | omega | (simp; done) | (simp; omega))) | (with_reducible refine bl_last (by assumption) ?_) | (with_reducible refine bl_drewN ?_ _)))⟩
end Go.Proofs.YtgbiiaaeabflnaaDoor
