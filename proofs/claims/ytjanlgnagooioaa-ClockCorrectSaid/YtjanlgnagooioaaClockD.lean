/- Clock: the closure of Sure, sort.Search with it, Sure. -/
import Derived.Test.YtjanlgnagooioaaClockC
import Derived.Deep.LoopGhost
namespace Go.Proofs.Ytjanlgnagooioaa
open Go.RowKit

set_option maxHeartbeats 400000 in
theorem sure_closure (s e d t : Int) (p1 p2 : Nat) (i : Nat) (w : World) (hi : s + i ≤ 100000) (h0 : 0 ≤ s) (h : rdB s e d (s + i) = true)
    (c1 : w.cell? ⟨p1, 0, none⟩ = some (.int .i64 s)) (c2 : w.cell? ⟨p1, 1, none⟩ = some (.int .i64 e)) (c3 : w.cell? ⟨p1, 2, none⟩ = some (.int .i64 d)) (c4 : w.cell? ⟨p2, 0, none⟩ = some (.int .i64 t))
    (l1 : p1 < w.heap.size) (l2 : p2 < w.heap.size) :
    Calls Try.prog 32 #[.int .i64 i, .pointer (some ⟨p1, 0, none⟩), .pointer (some ⟨p2, 0, none⟩)] w (Ret (.bool (decide (t ≤ fstF s e d (s + i)))) w) := by
  have HF := Lib.hid (fun w => first_c s e d (s + i) w h)
  have hs : IntKind.i64.wrap (s + (i : Int)) = s + i := by rw [IntKind.wrap_i64]; omega
  generalize fstF s e d (s + i) = f at *
  clear h
  go_enter Try.func32, Try.ntmps32
  go_wp2
  (refine wp_region_bl [0,1,2,3,4,5,6,7,8] [9] (by kernel_rfl) (by kernel_rfl) (by rfl) ?_
   simp only [pickI, pick, List.getElem?_cons_succ, List.getElem?_cons_zero]
   iterate 9 (first
     | (refine head_val (by rfl) (by rfl) ?_
        apply Exists.intro
        refine ⟨fun X hX => ?_, ?_⟩
        · (obtain ⟨qz, qc, qf⟩ := bcl hX.out (by first | (simp; rfl) | rfl)
           go_simp
           first | done | (go_at_call 29; refine (HF.out _).mono ?_; rintro e w2 ⟨rfl, hb2⟩; exact ⟨rfl, hX.trans hb2⟩) | rfl | exact ⟨rfl, rfl⟩)
        simp only [Act.put, List.setIfInBounds_toArray, List.set_cons_zero, List.set_cons_succ])
     | (refine head_pass (by rfl) ?_
        simp only [Act.put, List.setIfInBounds_toArray, List.set_cons_zero, List.set_cons_succ]))
   refine head_nil ?_
   intro w' hw'
   have hb := hw'.out
   clear hw'
   obtain ⟨hz, hc, hf⟩ := bcl hb (by first | (simp; rfl) | rfl))
  go_wp2
  go_ret
  refine ⟨rfl, ?_⟩
  (repeat (first | (with_reducible exact bl_refl _) | (with_reducible refine bl_drew ?_) | (with_reducible refine bl_alloc ?_ _) | (with_reducible refine bl_set' ?_ ?_; · (simp <;> omega)) | (with_reducible refine bl_last (by assumption) ?_) | (with_reducible refine bl_drewN ?_ _)))

set_option maxHeartbeats 1000000 in
theorem search_c (v1 v2 : Value) (n k : Nat) (p : Nat → Bool) (w : World) (hn : n ≤ 1000000000000) (hk : k ≤ n) (hlo : ∀ t, t < k → p t = false) (hhi : ∀ t, k ≤ t → t < n → p t = true)
    (hcl : ∀ (i : Nat) (w' : World), Below w.heap.size w w' → i < n → Calls Try.prog 32 #[.int .i64 i, v1, v2] w' (Ret (.bool (p i)) w')) :
    Calls Try.prog 31 #[.int .i64 n, .func (.func 32) #[] #[v1, v2]] w (Ret (.int .i64 k) w) := by
  have HC := Lib.hid hcl
  have HL := Lib.hid hlo
  have HH := Lib.hid hhi
  clear hcl hlo hhi
  go_enter Try.func31, Try.ntmps31
  go_wp2
  go_loopw [5, 6] (fun s5 s6 wr => ∃ lo hi : Nat, s5 = .int .i64 lo ∧ s6 = .int .i64 hi ∧ lo ≤ k ∧ k ≤ hi ∧ hi ≤ n ∧ Below w.heap.size w wr) (fun s5 s6 _ => (intOf s6 - intOf s5).toNat)
  case atStart => exact ⟨0, n, rfl, rfl, Nat.zero_le _, hk, Nat.le_refl _, bl_refl _⟩
  case round =>
    obtain ⟨lo, hi, rfl, rfl, h1, h2, h3, hbw⟩ := hrel
    by_cases hlt : lo < hi
    · have hc := fun w' hb => HC.out ((lo + hi) / 2) w' hb (by omega)
      rw [show (((lo + hi) / 2 : Nat) : Int) = ((lo : Int) + (hi : Int)) / 2 by omega] at hc
      cases hp : p ((lo + hi) / 2) <;> rw [hp] at hc
      · have hge : (lo + hi) / 2 < k := by
          rcases Nat.lt_or_ge ((lo + hi) / 2) k with h | h
          · exact h
          · rw [HH.out _ h (by omega)] at hp; cases hp
        clear hp
        have HC2 := Lib.hid hc
        clear hc
        go_wp2_with fail
        refine (HC2.out _ hbw).mono ?_
        rintro e w' ⟨rfl, hb⟩
        go_wp2
        go_roundw
        case rel => exact ⟨(lo + hi) / 2 + 1, hi, by rw [show ((lo : Int) + (hi : Int)) / 2 + 1 = (((lo + hi) / 2 + 1 : Nat) : Int) by omega], rfl, by omega, h2, h3, bl_trans hbw hb⟩
        case measure => simp [intOf]; omega
      · have hge : k ≤ (lo + hi) / 2 := by
          rcases Nat.lt_or_ge ((lo + hi) / 2) k with h | h
          · rw [HL.out _ h] at hp; cases hp
          · exact h
        clear hp
        have HC2 := Lib.hid hc
        clear hc
        go_wp2_with fail
        refine (HC2.out _ hbw).mono ?_
        rintro e w' ⟨rfl, hb⟩
        go_wp2
        go_roundw
        case rel => exact ⟨lo, (lo + hi) / 2, rfl, by rw [show ((lo : Int) + (hi : Int)) / 2 = (((lo + hi) / 2 : Nat) : Int) by omega], h1, hge, by omega, bl_trans hbw hb⟩
        case measure => simp [intOf]; omega
    · obtain rfl : hi = lo := by omega
      obtain rfl : k = hi := by omega
      go_wp2
      go_ret
      exact ⟨rfl, hbw⟩
end Go.Proofs.Ytjanlgnagooioaa
