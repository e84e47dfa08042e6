/- Rational: contracts of abs, gcd, fail, and of the reference's Size and Gcd. -/
import Derived.Test.YtmjbcoapceoakaaDoorBase
import Derived.Test.YtmjbcoapceoakaaDoorRegion
namespace Go.Proofs.YtmjbcoapceoakaaDoor
open Go.RowKit

/-- The call returns v and leaves the world as it is. -/
def RetS (v : Value) (w : World) (e : Ending) (w' : World) : Prop := e = .returned v ∧ w = w'

def absF (n : Int) : Nat := n.natAbs
theorem abs_wrap (n : Int) (h : -9223372036854775808 ≤ n) (h' : n < 0) : IntKind.u64.wrap (-IntKind.u64.wrap n) = (absF n : Int) := by
  simp only [IntKind.wrap_u64, absF]
  omega
theorem abs_pos (n : Int) (h : 0 ≤ n) : n = (absF n : Int) := by
  unfold absF
  omega
theorem absF_le (n : Int) (h : -9223372036854775808 ≤ n) (h' : n ≤ 9223372036854775807) : absF n ≤ 9223372036854775808 := by
  unfold absF
  omega
set_option maxHeartbeats 400000 in
theorem abs_c (n : Int) (w : World) (h : -9223372036854775808 ≤ n) (h' : n ≤ 9223372036854775807) : Calls Tryd.prog 43 #[.int .i64 n] w (RetS (.int .u64 (absF n)) w) := by
  have hw := fun h0 => abs_wrap n h h0
  have hp := fun h0 => abs_pos n h0
  generalize (absF n : Int) = a at *
  have HW := Lib.hid hw
  have HP := Lib.hid hp
  clear hw hp
  go_enter Tryd.func43, Tryd.ntmps43
  go_wp2
  all_goals go_ret
  · exact ⟨ret_int (HW.out (by assumption)), rfl⟩
  · exact ⟨ret_int (HP.out (by assumption)), rfl⟩
set_option maxHeartbeats 400000 in
theorem Rsize_c (n : Int) (w : World) (h : -9223372036854775808 ≤ n) (h' : n ≤ 9223372036854775807) : Calls Tryd.prog 58 #[.int .i64 n] w (RetS (.int .u64 (absF n)) w) := by
  have hw := fun h0 => abs_wrap n h h0
  have hp := fun h0 => abs_pos n h0
  generalize (absF n : Int) = a at *
  have HW := Lib.hid hw
  have HP := Lib.hid hp
  clear hw hp
  go_enter Tryd.func58, Tryd.ntmps58
  go_wp2
  all_goals go_ret
  · exact ⟨ret_int (HW.out (by assumption)), rfl⟩
  · exact ⟨ret_int (HP.out (by assumption)), rfl⟩

set_option maxHeartbeats 1000000 in
theorem gcd_c (a b : Nat) (w : World) (ha : a ≤ 9223372036854775808) (hb : b ≤ 9223372036854775808) : Calls Tryd.prog 42 #[.int .u64 a, .int .u64 b] w (Ret (.int .u64 (Nat.gcd a b)) w) := by
  obtain ⟨M, hM, ha, hb⟩ : ∃ M : Nat, M ≤ 9223372036854775808 ∧ a ≤ M ∧ b ≤ M := ⟨_, Nat.le_refl _, ha, hb⟩
  generalize hg : Nat.gcd a b = g
  have HG := Lib.hid hg
  clear hg
  go_enter Tryd.func42, Tryd.ntmps42
  go_wp2
  go_loopw [0, 1] (fun s0 s1 wr => ∃ x y : Nat, s0 = .int .u64 x ∧ s1 = .int .u64 y ∧ x ≤ M ∧ y ≤ M ∧ Hid (Nat.gcd x y = g) ∧ Below w.heap.size w wr) (fun _ s1 _ => (intOf s1).toNat)
  case atStart => exact ⟨a, b, rfl, rfl, ha, hb, HG, bl_refl _⟩
  case round =>
    obtain ⟨x, y, rfl, rfl, hx, hy, HI, hbw⟩ := hrel
    by_cases hy0 : 0 < y
    · have hlt := Nat.mod_lt x hy0
      have hgc : Nat.gcd y (x % y) = g := by rw [← HI.out, Nat.gcd_comm, ← Nat.gcd_rec, Nat.gcd_comm]
      have HI2 := Lib.hid hgc
      clear hgc
      have hyn : ¬ y = 0 := by omega
      have htm : (x : Int).tmod (y : Int) = ((x % y : Nat) : Int) := by rw [Int.tmod_eq_emod_of_nonneg (by omega)]; rfl
      generalize hxy : x % y = z at *
      have HZ := Lib.hid hxy
      clear hxy
      go_wp2
      (refine wp_region_bl [0,1,2,3,4,5] [] (by kernel_rfl) (by kernel_rfl) (by rfl) ?_
       simp only [pickI, pick, List.getElem?_cons_succ, List.getElem?_cons_zero]
       iterate 6 (first
         | (refine head_val (by rfl) (by rfl) ?_
            apply Exists.intro
            refine ⟨fun X hX => ?_, ?_⟩
            · (obtain ⟨qz, qc, qf⟩ := bcl hX.out (by first | (simp; rfl) | rfl)
               go_simp
               first | done | rfl | exact ⟨rfl, rfl⟩)
            simp only [Act.put, List.setIfInBounds_toArray, List.set_cons_zero, List.set_cons_succ])
         | (refine head_pass (by rfl) ?_
            simp only [Act.put, List.setIfInBounds_toArray, List.set_cons_zero, List.set_cons_succ]))
       refine head_nil ?_
       intro w' hw'
       have hb := hw'.out
       clear hw'
       obtain ⟨hz, hc, hf⟩ := bcl hb (by first | (simp; rfl) | rfl))
      go_wp2
      go_roundw
      case rel => exact ⟨y, z, rfl, rfl, hy, by omega, HI2, bl_trans hbw hb⟩
      case measure => simp [intOf]; omega
    · have hy1 : y = 0 := by omega
      subst hy1
      have hx0 : x = g := by rw [← HI.out, Nat.gcd_zero_right]
      go_wp2
      go_ret
      exact ⟨ret_int (by rw [hx0]), hbw⟩
set_option maxHeartbeats 1000000 in
theorem Rgcd_c (a b : Nat) (w : World) (ha : a ≤ 9223372036854775808) (hb : b ≤ 9223372036854775808) : Calls Tryd.prog 57 #[.int .u64 a, .int .u64 b] w (Ret (.int .u64 (Nat.gcd a b)) w) := by
  obtain ⟨M, hM, ha, hb⟩ : ∃ M : Nat, M ≤ 9223372036854775808 ∧ a ≤ M ∧ b ≤ M := ⟨_, Nat.le_refl _, ha, hb⟩
  generalize hg : Nat.gcd a b = g
  have HG := Lib.hid hg
  clear hg
  go_enter Tryd.func57, Tryd.ntmps57
  go_wp2
  go_loopw [0, 1] (fun s0 s1 wr => ∃ x y : Nat, s0 = .int .u64 x ∧ s1 = .int .u64 y ∧ x ≤ M ∧ y ≤ M ∧ Hid (Nat.gcd x y = g) ∧ Below w.heap.size w wr) (fun _ s1 _ => (intOf s1).toNat)
  case atStart => exact ⟨a, b, rfl, rfl, ha, hb, HG, bl_refl _⟩
  case round =>
    obtain ⟨x, y, rfl, rfl, hx, hy, HI, hbw⟩ := hrel
    by_cases hy0 : 0 < y
    · have hlt := Nat.mod_lt x hy0
      have hgc : Nat.gcd y (x % y) = g := by rw [← HI.out, Nat.gcd_comm, ← Nat.gcd_rec, Nat.gcd_comm]
      have HI2 := Lib.hid hgc
      clear hgc
      have hyn : ¬ y = 0 := by omega
      have htm : (x : Int).tmod (y : Int) = ((x % y : Nat) : Int) := by rw [Int.tmod_eq_emod_of_nonneg (by omega)]; rfl
      generalize hxy : x % y = z at *
      have HZ := Lib.hid hxy
      clear hxy
      go_wp2
      (refine wp_region_bl [0,1,2,3,4,5] [] (by kernel_rfl) (by kernel_rfl) (by rfl) ?_
       simp only [pickI, pick, List.getElem?_cons_succ, List.getElem?_cons_zero]
       iterate 6 (first
         | (refine head_val (by rfl) (by rfl) ?_
            apply Exists.intro
            refine ⟨fun X hX => ?_, ?_⟩
            · (obtain ⟨qz, qc, qf⟩ := bcl hX.out (by first | (simp; rfl) | rfl)
               go_simp
               first | done | rfl | exact ⟨rfl, rfl⟩)
            simp only [Act.put, List.setIfInBounds_toArray, List.set_cons_zero, List.set_cons_succ])
         | (refine head_pass (by rfl) ?_
            simp only [Act.put, List.setIfInBounds_toArray, List.set_cons_zero, List.set_cons_succ]))
       refine head_nil ?_
       intro w' hw'
       have hb := hw'.out
       clear hw'
       obtain ⟨hz, hc, hf⟩ := bcl hb (by first | (simp; rfl) | rfl))
      go_wp2
      go_roundw
      case rel => exact ⟨y, z, rfl, rfl, hy, by omega, HI2, bl_trans hbw hb⟩
      case measure => simp [intOf]; omega
    · have hy1 : y = 0 := by omega
      subst hy1
      have hx0 : x = g := by rw [← HI.out, Nat.gcd_zero_right]
      go_wp2
      go_ret
      exact ⟨ret_int (by rw [hx0]), hbw⟩

/-- The call panics with an error of the program's own, and leaves all blocks that lay in w as they were. -/
def Fails (n : Int) (w : World) (e : Ending) (w' : World) : Prop := e = .panicked [{ v := .iface 26 (.int .i64 n), recovered := false }] ∧ Below w.heap.size w w'
set_option maxHeartbeats 400000 in
theorem fail_c (n : Int) (w : World) : Calls Tryd.prog 45 #[.int .i64 n] w (Fails n w) := by
  go_enter Tryd.func45, Tryd.ntmps45
  go_wp2
  exact ⟨rfl, rfl, bl_refl _⟩

def gF (n d : Int) : Nat := Nat.gcd (absF n) (absF d)
def xF (n d : Int) : Nat := absF n / gF n d
def yF (n d : Int) : Nat := absF d / gF n d
def numF (n d : Int) : Int := if decide (n < 0) != decide (d < 0) then -(xF n d : Int) else xF n d
theorem gF_pos {n d : Int} (h : d ≠ 0) : 0 < gF n d := Nat.gcd_pos_of_pos_right _ (by unfold absF; omega)

set_option maxHeartbeats 400000 in
theorem reduced_zero (n : Int) (w : World) : Calls Tryd.prog 41 #[.int .i64 n, .int .i64 0] w (Fails 7 w) := by
  go_enter Tryd.func41, Tryd.ntmps41
  go_wp2_with (go_at_call 45; refine (fail_c _ _).mono ?_; rintro e w' ⟨rfl, hb⟩)
  refine ⟨rfl, rfl, ?_⟩
  (repeat (first | (with_reducible exact bl_refl _) | (with_reducible refine bl_drew ?_) | (with_reducible refine bl_alloc ?_ _) | (with_reducible refine bl_set' ?_ ?_; · (first | omega | (simp; done) | (simp; omega))) | (with_reducible refine bl_last (by assumption) ?_) | (with_reducible refine bl_drewN ?_ _)))

set_option maxHeartbeats 1000000 in
theorem reduced_range (n d : Int) (w : World) (h1 : -9223372036854775808 ≤ n) (h2 : n ≤ 9223372036854775807) (h3 : -9223372036854775808 ≤ d) (h4 : d ≤ 9223372036854775807) (hd : d ≠ 0) (hr : 1000000000 < xF n d ∨ 1000000000 < yF n d) :
    Calls Tryd.prog 41 #[.int .i64 n, .int .i64 d] w (Fails 3 w) := by
  have G := fun w => gcd_c (absF n) (absF d) w (absF_le n h1 h2) (absF_le d h3 h4)
  have A1 := fun w => abs_c n w h1 h2
  have A2 := fun w => abs_c d w h3 h4
  have hg := gF_pos (n := n) hd
  have hgn : ¬ gF n d = 0 := by omega
  have hd0 : (d == 0) = false := beq_eq_false_iff_ne.2 hd
  have b1 := absF_le n h1 h2
  have b2 := absF_le d h3 h4
  have hr' : (1000000000 < absF n / gF n d) ∨ (absF n / gF n d ≤ 1000000000 ∧ 1000000000 < absF d / gF n d) := by
    unfold xF yF at hr
    omega
  have G : ∀ w, Calls Tryd.prog 42 #[.int .u64 (absF n), .int .u64 (absF d)] w (Ret (.int .u64 (gF n d)) w) := G
  clear hr
  generalize gF n d = g at *
  generalize absF n = x at *
  generalize absF d = y at *
  have G := Lib.hid G
  have A1 := Lib.hid A1
  have A2 := Lib.hid A2
  have q1 : (x : Int).tdiv (g : Int) = ((x / g : Nat) : Int) := by rw [Int.tdiv_eq_ediv_of_nonneg (by omega)]; rfl
  have q2 : (y : Int).tdiv (g : Int) = ((y / g : Nat) : Int) := by rw [Int.tdiv_eq_ediv_of_nonneg (by omega)]; rfl
  have z1 : x / g ≤ x := Nat.div_le_self _ _
  have z2 : y / g ≤ y := Nat.div_le_self _ _
  generalize x / g = xg at *
  generalize y / g = yg at *
  rcases hr' with hr | ⟨hr, hr2⟩
  all_goals
    go_enter Tryd.func41, Tryd.ntmps41
    go_wp2_with (first | (go_at_call 45; refine (fail_c _ _).mono ?_; rintro e w' ⟨rfl, hb⟩) | (go_at_call 43; ((with_reducible refine (A1.out _).mono ?_); rintro e w' ⟨rfl, rfl⟩)) | (go_at_call 43; ((with_reducible refine (A2.out _).mono ?_); rintro e w' ⟨rfl, rfl⟩)) | (go_at_call 42; ((with_reducible refine (G.out _).mono ?_); rintro e w' ⟨rfl, hb⟩; obtain ⟨hz, hc, hf⟩ := bcl hb (by first | (simp; rfl) | rfl))))
    refine ⟨rfl, rfl, ?_⟩
    (repeat (first | (with_reducible exact bl_refl _) | (with_reducible refine bl_drew ?_) | (with_reducible refine bl_alloc ?_ _) | (with_reducible refine bl_set' ?_ ?_; · (first | omega | (simp; done) | (simp; omega))) | (with_reducible refine bl_last (by assumption) ?_) | (with_reducible refine bl_drewN ?_ _)))

set_option maxHeartbeats 1000000 in
theorem reduced_ok (n d : Int) (w : World) (h1 : -9223372036854775808 ≤ n) (h2 : n ≤ 9223372036854775807) (h3 : -9223372036854775808 ≤ d) (h4 : d ≤ 9223372036854775807) (hd : d ≠ 0) (hx : xF n d ≤ 1000000000) (hy : yF n d ≤ 1000000000) :
    Calls Tryd.prog 41 #[.int .i64 n, .int .i64 d] w (Ret (.agg #[.int .i64 (numF n d), .int .i64 (yF n d)]) w) := by
  have G := fun w => gcd_c (absF n) (absF d) w (absF_le n h1 h2) (absF_le d h3 h4)
  have A1 := fun w => abs_c n w h1 h2
  have A2 := fun w => abs_c d w h3 h4
  have hg := gF_pos (n := n) hd
  have hgn : ¬ gF n d = 0 := by omega
  have hd0 : (d == 0) = false := beq_eq_false_iff_ne.2 hd
  have b1 := absF_le n h1 h2
  have b2 := absF_le d h3 h4
  have hx : absF n / gF n d ≤ 1000000000 := hx
  have hy : absF d / gF n d ≤ 1000000000 := hy
  have G : ∀ w, Calls Tryd.prog 42 #[.int .u64 (absF n), .int .u64 (absF d)] w (Ret (.int .u64 (gF n d)) w) := G
  have hN : numF n d = if decide (n < 0) != decide (d < 0) then -((absF n / gF n d : Nat) : Int) else ((absF n / gF n d : Nat) : Int) := rfl
  generalize numF n d = N at *
  unfold yF
  generalize gF n d = g at *
  generalize absF n = x at *
  generalize absF d = y at *
  have G := Lib.hid G
  have A1 := Lib.hid A1
  have A2 := Lib.hid A2
  have q1 : (x : Int).tdiv (g : Int) = ((x / g : Nat) : Int) := by rw [Int.tdiv_eq_ediv_of_nonneg (by omega)]; rfl
  have q2 : (y : Int).tdiv (g : Int) = ((y / g : Nat) : Int) := by rw [Int.tdiv_eq_ediv_of_nonneg (by omega)]; rfl
  generalize x / g = xg at *
  generalize y / g = yg at *
  have u1 : IntKind.i64.wrap (xg : Int) = xg := by rw [IntKind.wrap_i64]; omega
  have u2 : IntKind.i64.wrap (yg : Int) = yg := by rw [IntKind.wrap_i64]; omega
  have hN' : (decide (n < 0) = true ∧ decide (d < 0) = true ∧ N = xg) ∨ (decide (n < 0) = true ∧ decide (d < 0) = false ∧ N = -(xg : Int)) ∨ (decide (n < 0) = false ∧ decide (d < 0) = true ∧ N = -(xg : Int)) ∨ (decide (n < 0) = false ∧ decide (d < 0) = false ∧ N = xg) := by
    cases hn : decide (n < 0) <;> cases hdn : decide (d < 0) <;> simp [hn, hdn] at hN <;> simp [hN]
  clear hN
  rcases hN' with ⟨hn, hdn, rfl⟩ | ⟨hn, hdn, rfl⟩ | ⟨hn, hdn, rfl⟩ | ⟨hn, hdn, rfl⟩
  all_goals
    go_enter Tryd.func41, Tryd.ntmps41
    go_wp2_with (first | (go_at_call 43; ((with_reducible refine (A1.out _).mono ?_); rintro e w' ⟨rfl, rfl⟩)) | (go_at_call 43; ((with_reducible refine (A2.out _).mono ?_); rintro e w' ⟨rfl, rfl⟩)) | (go_at_call 42; ((with_reducible refine (G.out _).mono ?_); rintro e w' ⟨rfl, hb⟩; obtain ⟨hz, hc, hf⟩ := bcl hb (by first | (simp; rfl) | rfl))))
    (refine wp_region_ble [0,1,2,3,4,5,6,7,8] [0,1,2,3,4,5,6,7,8] [9,10] (by kernel_rfl) (by kernel_rfl) (by rfl) (by repeat (first | exact panic_body | refine panic_then ?_ | refine panic_block ?_)) ?_
     simp only [pickI, pick, List.getElem?_cons_succ, List.getElem?_cons_zero]
     iterate 9 (first
       | (refine head_val (by rfl) (by rfl) ?_
          apply Exists.intro
          refine ⟨fun X hX => ?_, ?_⟩
          · (obtain ⟨qz, qc, qf⟩ := bcl hX.out (by first | (simp; rfl) | rfl)
             go_simp
             first | done | rfl | exact ⟨rfl, rfl⟩)
          simp only [Act.put, List.setIfInBounds_toArray, List.set_cons_zero, List.set_cons_succ])
       | (refine head_pure (by rfl) (by rfl) ?_
          apply Exists.intro
          refine ⟨fun X => ?_, ?_⟩
          · (go_simp
             first | done | rfl)
          simp only [Act.put, List.setIfInBounds_toArray, List.set_cons_zero, List.set_cons_succ])
       | (refine head_pass (by rfl) ?_
          simp only [Act.put, List.setIfInBounds_toArray, List.set_cons_zero, List.set_cons_succ]))
     refine head_nil ?_
     intro w' hw'
     have hb := hw'.out
     clear hw'
     obtain ⟨hz, hc, hf⟩ := bcl hb (by first | (simp; rfl) | rfl))
    go_wp2
    first | (refine bodyPost_ret (v := .agg #[.int .i64 xg, .int .i64 yg]) (by simp only [results, Tryd.results41]; go_simp) rfl ⟨rfl, ?_⟩) | (refine bodyPost_ret (v := .agg #[.int .i64 (-(xg : Int)), .int .i64 yg]) (by simp only [results, Tryd.results41]; go_simp) rfl ⟨rfl, ?_⟩)
    (repeat (first | (with_reducible exact bl_refl _) | (with_reducible refine bl_drew ?_) | (with_reducible refine bl_alloc ?_ _) | (with_reducible refine bl_set' ?_ ?_; · (first | omega | (simp; done) | (simp; omega))) | (with_reducible refine bl_last (by assumption) ?_) | (with_reducible refine bl_drewN ?_ _)))
end Go.Proofs.YtmjbcoapceoakaaDoor
