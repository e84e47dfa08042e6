/- The reference's SameNat at equal numbers. -/
import Derived.Test.YtgbiiaaeabflnaaDoorPitR
namespace Go.Proofs.YtgbiiaaeabflnaaDoor
open Go Go.RowKit

theorem nvF_uni {f g : Nat → Nat} : ∀ n, (∀ i, i < n → f i < 4294967296) → (∀ i, i < n → g i < 4294967296) → nvF f n = nvF g n → ∀ i, i < n → f i = g i
  | 0, _, _, _, i, hi => by omega
  | n + 1, hf, hg, h, i, hi => by
    have h1 : nvF f n < 4294967296 ^ n := nvF_lt (fun i hi => hf i (by omega))
    have h2 : nvF g n < 4294967296 ^ n := nvF_lt (fun i hi => hg i (by omega))
    have h' : nvF f n + f n * 4294967296 ^ n = nvF g n + g n * 4294967296 ^ n := h
    have hp : 0 < 4294967296 ^ n := Nat.pow_pos (by omega)
    have e1 : f n = g n := by
      have d1 : (nvF f n + f n * 4294967296 ^ n) / 4294967296 ^ n = f n := by
        rw [Nat.add_mul_div_right _ _ hp, Nat.div_eq_of_lt h1, Nat.zero_add]
      have d2 : (nvF g n + g n * 4294967296 ^ n) / 4294967296 ^ n = g n := by
        rw [Nat.add_mul_div_right _ _ hp, Nat.div_eq_of_lt h2, Nat.zero_add]
      rw [← d1, ← d2, h']
    rw [e1] at h'
    by_cases e : i = n
    · subst e; exact e1
    · exact nvF_uni n (fun i hi => hf i (by omega)) (fun i hi => hg i (by omega)) (by omega) i (by omega)
theorem isN_uni {f g : Nat → Nat} {n m x : Nat} (hf : IsN f n x) (hg : IsN g m x) : n = m ∧ ∀ i, i < n → f i = g i := by
  have e : n = m := by
    rcases Nat.lt_trichotomy n m with h | h | h
    · have h1 := isN_lt hf
      obtain ⟨k, rfl⟩ : ∃ k, m = k + 1 := ⟨m - 1, by omega⟩
      have h2 := isN_ge hg
      have h3 : 4294967296 ^ n ≤ 4294967296 ^ k := Nat.pow_le_pow_right (by omega) (by omega)
      omega
    · exact h
    · have h1 := isN_lt hg
      obtain ⟨k, rfl⟩ : ∃ k, n = k + 1 := ⟨n - 1, by omega⟩
      have h2 := isN_ge hf
      have h3 : 4294967296 ^ m ≤ 4294967296 ^ k := Nat.pow_le_pow_right (by omega) (by omega)
      omega
  subst e
  exact ⟨rfl, nvF_uni n hf.lt hg.lt (hf.val.trans hg.val.symm)⟩
set_option maxRecDepth 100000 in
set_option maxHeartbeats 4000000 in
theorem RSame_c (ba bb n m x ca cb : Nat) (w : World) (ha : Num w w.heap.size ba n x) (hb : Num w w.heap.size bb m x) (hn : n ≤ 640) : Calls Tryd.prog 33 #[.slice (some ⟨ba, 0, none⟩) n ca, .slice (some ⟨bb, 0, none⟩) m cb] w (Ret (.bool true) w) := by
  obtain ⟨f, ⟨ha0, hac⟩, hA⟩ := ha
  obtain ⟨g, ⟨hb0, hbc⟩, hB⟩ := hb
  obtain ⟨rfl, he⟩ := isN_uni hA hB
  have HA := Lib.hid hac
  have HB := Lib.hid hbc
  have HE := Lib.hid he
  clear hac hbc hA hB he
  go_enter Tryd.func33, Tryd.ntmps33
  go_wp2
  go_loopw [5] (fun i wr => ∃ k : Nat, k ≤ n ∧ i = .int .i64 (k : Int) ∧ Below w.heap.size w wr) (fun i _ => n - (intOf i).toNat)
  case atStart => exact ⟨0, by omega, rfl, by (repeat (first | (with_reducible exact bl_refl _) | (with_reducible refine bl_drew ?_) | (with_reducible refine bl_alloc ?_ _) | (with_reducible refine bl_set' ?_ ?_; · (first | omega | (simp; done) | (simp; omega))) | (with_reducible refine bl_last (by assumption) ?_) | (with_reducible refine bl_drewN ?_ _)))⟩
  case round =>
    obtain ⟨k, hk, rfl, hbw⟩ := hrel
    by_cases hlt : k < n
    · have c1 := (hbw.cell (p := ⟨ba, k, none⟩) ha0).trans (HA.out k hlt)
      have c2 := (hbw.cell (p := ⟨bb, k, none⟩) hb0).trans (HB.out k hlt)
      rw [← HE.out k hlt] at c2
      have e8 : IntKind.i64.wrap ((k : Int) + 1) = ((k + 1 : Nat) : Int) := by rw [IntKind.wrap_i64]; omega
      have z1 : ba < wr.heap.size := by have := hbw.size; omega
      have z2 : bb < wr.heap.size := by have := hbw.size; omega
      go_wp2
      (refine wp_region_bl [0,1,2,3,4,5,6,7,8] [] (by kernel_rfl) (by kernel_rfl) (by rfl) ?_
       simp only [pickI, pick, List.getElem?_cons_succ, List.getElem?_cons_zero]
       iterate 9 (first
         | (refine head_val (by rfl) (by rfl) ?_
            apply Exists.intro
            refine ⟨fun X hX => ?_, ?_⟩
            · (obtain ⟨qz, qc, qf⟩ := bcl hX.out (by first | (simp; rfl) | rfl)
               go_simp
               first | done | rfl | exact ⟨rfl, rfl⟩)
            simp only [Act.put, List.setIfInBounds_toArray, List.set_cons_zero, List.set_cons_succ])
         | (refine head_pass (by rfl) ?_
            simp only [Act.put, List.setIfInBounds_toArray, List.set_cons_zero, List.set_cons_succ]))
       refine head_nil ?_
       intro w' hw'
       have hb := hw'.out
       clear hw'
       obtain ⟨hz, hc, hf⟩ := bcl hb (by first | (simp; rfl) | rfl))
      go_wp2
      go_roundw
      case rel => exact ⟨k + 1, hlt, by go_num, bl_trans hbw hb⟩
      case measure => simp [intOf]; omega
    · obtain rfl : k = n := by omega
      go_wp2
      go_ret
      exact ⟨rfl, hbw⟩
end Go.Proofs.YtgbiiaaeabflnaaDoor
