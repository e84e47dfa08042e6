/- Rational: Make and Valid, and the reference's. -/
import Derived.Test.YtmjbcoapceoakaaDoorRatM
namespace Go.Proofs.YtmjbcoapceoakaaDoor
open Go.RowKit

def mkE (n d : Int) : Int := if d = 0 then 7 else if 1000000000 < xF n d ∨ 1000000000 < yF n d then 3 else 0
def mkN (n d : Int) : Int := if mkE n d = 0 then numF n d else 0
def mkD (n d : Int) : Int := if mkE n d = 0 then yF n d else 0
def mkV (n d : Int) : Value := .tuple #[.agg #[.int .i64 (mkN n d), .int .i64 (mkD n d)], .int .i64 (mkE n d)]
theorem mk_zero (n : Int) : mkV n 0 = .tuple #[.agg #[.int .i64 0, .int .i64 0], .int .i64 7] := by simp [mkV, mkN, mkD, mkE]
theorem mk_range {n d : Int} (hd : d ≠ 0) (h : 1000000000 < xF n d ∨ 1000000000 < yF n d) : mkV n d = .tuple #[.agg #[.int .i64 0, .int .i64 0], .int .i64 3] := by simp [mkV, mkN, mkD, mkE, hd, h]
theorem mk_ok {n d : Int} (hd : d ≠ 0) (hx : xF n d ≤ 1000000000) (hy : yF n d ≤ 1000000000) : mkV n d = .tuple #[.agg #[.int .i64 (numF n d), .int .i64 (yF n d)], .int .i64 0] := by
  have h : ¬ (1000000000 < xF n d ∨ 1000000000 < yF n d) := by omega
  simp [mkV, mkN, mkD, mkE, hd, h]
def I64 (n : Int) : Prop := -9223372036854775808 ≤ n ∧ n ≤ 9223372036854775807

theorem Make_c (n d : Int) (w : World) (hn : I64 n) (hd : I64 d) : Calls Tryd.prog 12 #[.int .i64 n, .int .i64 d] w (Ret (mkV n d) w) := by
  by_cases h0 : d = 0
  · subst h0
    rw [mk_zero]
    exact Make_fails n 0 7 w (reduced_zero n)
  by_cases hr : 1000000000 < xF n d ∨ 1000000000 < yF n d
  · rw [mk_range h0 hr]
    exact Make_fails n d 3 w (fun w => reduced_range n d w hn.1 hn.2 hd.1 hd.2 h0 hr)
  · rw [mk_ok h0 (by omega) (by omega)]
    exact Make_gives n d _ _ w (fun w => reduced_ok n d w hn.1 hn.2 hd.1 hd.2 h0 (by omega) (by omega))

set_option maxHeartbeats 1000000 in
theorem RMake_c (n d : Int) (w : World) (hn : I64 n) (hd : I64 d) : Calls Tryd.prog 27 #[.int .i64 n, .int .i64 d] w (Ret (mkV n d) w) := by
  obtain ⟨h1, h2⟩ := hn
  obtain ⟨h3, h4⟩ := hd
  by_cases h0 : d = 0
  · subst h0
    rw [mk_zero]
    go_enter Tryd.func27, Tryd.ntmps27
    go_wp2
    (refine bodyPost_ret (v := .tuple #[.agg #[.int .i64 0, .int .i64 0], .int .i64 7]) (by simp only [results, Tryd.results27]; go_simp) rfl ⟨rfl, ?_⟩)
    (repeat (first | (with_reducible exact bl_refl _) | (with_reducible refine bl_drew ?_) | (with_reducible refine bl_alloc ?_ _) | (with_reducible refine bl_set' ?_ ?_; · (first | omega | (simp; done) | (simp; omega))) | (with_reducible refine bl_last (by assumption) ?_) | (with_reducible refine bl_drewN ?_ _)))
  have G : ∀ w, Calls Tryd.prog 57 #[.int .u64 (absF n), .int .u64 (absF d)] w (Ret (.int .u64 (gF n d)) w) := fun w => Rgcd_c (absF n) (absF d) w (absF_le n h1 h2) (absF_le d h3 h4)
  have A1 := fun w => Rsize_c n w h1 h2
  have A2 := fun w => Rsize_c d w h3 h4
  have hg := gF_pos (n := n) h0
  have hgn : ¬ gF n d = 0 := by omega
  have hd0 : (d == 0) = false := beq_eq_false_iff_ne.2 h0
  have b1 := absF_le n h1 h2
  have b2 := absF_le d h3 h4
  by_cases hr : 1000000000 < xF n d ∨ 1000000000 < yF n d
  · rw [mk_range h0 hr]
    have hr' : (1000000000 < absF n / gF n d) ∨ (absF n / gF n d ≤ 1000000000 ∧ 1000000000 < absF d / gF n d) := by
      unfold xF yF at hr
      omega
    clear hr
    generalize gF n d = g at *
    generalize absF n = x at *
    generalize absF d = y at *
    have G := Lib.hid G
    have A1 := Lib.hid A1
    have A2 := Lib.hid A2
    have q1 : (x : Int).tdiv (g : Int) = ((x / g : Nat) : Int) := by rw [Int.tdiv_eq_ediv_of_nonneg (by omega)]; rfl
    have q2 : (y : Int).tdiv (g : Int) = ((y / g : Nat) : Int) := by rw [Int.tdiv_eq_ediv_of_nonneg (by omega)]; rfl
    have z1 : x / g ≤ x := Nat.div_le_self _ _
    have z2 : y / g ≤ y := Nat.div_le_self _ _
    have q3 : (x : Int) / (g : Int) = ((x / g : Nat) : Int) := rfl
    have q4 : (y : Int) / (g : Int) = ((y / g : Nat) : Int) := rfl
    generalize x / g = xg at *
    generalize y / g = yg at *
    have v1 : IntKind.u64.wrap (xg : Int) = xg := by rw [IntKind.wrap_u64]; omega
    have v2 : IntKind.u64.wrap (yg : Int) = yg := by rw [IntKind.wrap_u64]; omega
    rcases hr' with hr | ⟨hr, hr2⟩
    all_goals
      go_enter Tryd.func27, Tryd.ntmps27
      go_wp2_with (first | (go_at_call 58; ((with_reducible refine (A1.out _).mono ?_); rintro e w' ⟨rfl, rfl⟩)) | (go_at_call 58; ((with_reducible refine (A2.out _).mono ?_); rintro e w' ⟨rfl, rfl⟩)) | (go_at_call 57; ((with_reducible refine (G.out _).mono ?_); rintro e w' ⟨rfl, hb⟩; obtain ⟨hz, hc, hf⟩ := bcl hb (by first | (simp; rfl) | rfl))))
      (refine bodyPost_ret (v := .tuple #[.agg #[.int .i64 0, .int .i64 0], .int .i64 3]) (by simp only [results, Tryd.results27]; go_simp) rfl ⟨rfl, ?_⟩)
      (repeat (first | (with_reducible exact bl_refl _) | (with_reducible refine bl_drew ?_) | (with_reducible refine bl_alloc ?_ _) | (with_reducible refine bl_set' ?_ ?_; · (first | omega | (simp; done) | (simp; omega))) | (with_reducible refine bl_last (by assumption) ?_) | (with_reducible refine bl_drewN ?_ _)))
  · have hx : absF n / gF n d ≤ 1000000000 := by unfold xF at hr; omega
    have hy : absF d / gF n d ≤ 1000000000 := by unfold yF at hr; omega
    rw [mk_ok h0 (by omega) (by omega)]
    have hN : numF n d = if decide (n < 0) != decide (d < 0) then -((absF n / gF n d : Nat) : Int) else ((absF n / gF n d : Nat) : Int) := rfl
    clear hr
    generalize numF n d = N at *
    unfold yF
    generalize gF n d = g at *
    generalize absF n = x at *
    generalize absF d = y at *
    have G := Lib.hid G
    have A1 := Lib.hid A1
    have A2 := Lib.hid A2
    have q1 : (x : Int).tdiv (g : Int) = ((x / g : Nat) : Int) := by rw [Int.tdiv_eq_ediv_of_nonneg (by omega)]; rfl
    have q2 : (y : Int).tdiv (g : Int) = ((y / g : Nat) : Int) := by rw [Int.tdiv_eq_ediv_of_nonneg (by omega)]; rfl
    have z1 : x / g ≤ x := Nat.div_le_self _ _
    have z2 : y / g ≤ y := Nat.div_le_self _ _
    have q3 : (x : Int) / (g : Int) = ((x / g : Nat) : Int) := rfl
    have q4 : (y : Int) / (g : Int) = ((y / g : Nat) : Int) := rfl
    generalize x / g = xg at *
    generalize y / g = yg at *
    have v1 : IntKind.u64.wrap (xg : Int) = xg := by rw [IntKind.wrap_u64]; omega
    have v2 : IntKind.u64.wrap (yg : Int) = yg := by rw [IntKind.wrap_u64]; omega
    have u1 : IntKind.i64.wrap (xg : Int) = xg := by rw [IntKind.wrap_i64]; omega
    have u2 : IntKind.i64.wrap (yg : Int) = yg := by rw [IntKind.wrap_i64]; omega
    have hN' : (decide (n < 0) = true ∧ decide (d < 0) = true ∧ N = xg) ∨ (decide (n < 0) = true ∧ decide (d < 0) = false ∧ N = -(xg : Int)) ∨ (decide (n < 0) = false ∧ decide (d < 0) = true ∧ N = -(xg : Int)) ∨ (decide (n < 0) = false ∧ decide (d < 0) = false ∧ N = xg) := by
      cases hn : decide (n < 0) <;> cases hdn : decide (d < 0) <;> simp [hn, hdn] at hN <;> simp [hN]
    clear hN
    rcases hN' with ⟨hn, hdn, rfl⟩ | ⟨hn, hdn, rfl⟩ | ⟨hn, hdn, rfl⟩ | ⟨hn, hdn, rfl⟩
    all_goals
      go_enter Tryd.func27, Tryd.ntmps27
      go_wp2_with (first | (go_at_call 58; ((with_reducible refine (A1.out _).mono ?_); rintro e w' ⟨rfl, rfl⟩)) | (go_at_call 58; ((with_reducible refine (A2.out _).mono ?_); rintro e w' ⟨rfl, rfl⟩)) | (go_at_call 57; ((with_reducible refine (G.out _).mono ?_); rintro e w' ⟨rfl, hb⟩; obtain ⟨hz, hc, hf⟩ := bcl hb (by first | (simp; rfl) | rfl))))
      first | (refine bodyPost_ret (v := .tuple #[.agg #[.int .i64 xg, .int .i64 yg], .int .i64 0]) (by simp only [results, Tryd.results27]; go_simp) rfl ⟨rfl, ?_⟩) | (refine bodyPost_ret (v := .tuple #[.agg #[.int .i64 (-(xg : Int)), .int .i64 yg], .int .i64 0]) (by simp only [results, Tryd.results27]; go_simp) rfl ⟨rfl, ?_⟩)
      (repeat (first | (with_reducible exact bl_refl _) | (with_reducible refine bl_drew ?_) | (with_reducible refine bl_alloc ?_ _) | (with_reducible refine bl_set' ?_ ?_; · (first | omega | (simp; done) | (simp; omega))) | (with_reducible refine bl_last (by assumption) ?_) | (with_reducible refine bl_drewN ?_ _)))

def vR (n d : Int) : Bool := decide (1 ≤ d ∧ d ≤ 1000000000 ∧ -1000000000 ≤ n ∧ n ≤ 1000000000 ∧ Nat.gcd (absF n) (absF d) = 1)
theorem beq_dec (g : Nat) : ((g : Int) == 1) = decide (g = 1) := by
  rw [Bool.eq_iff_iff]
  simp
  omega

theorem v_ways (n d : Int) : (d < 1 ∧ vR n d = false) ∨ (1 ≤ d ∧ 1000000000 < d ∧ vR n d = false) ∨ (1 ≤ d ∧ d ≤ 1000000000 ∧ n < -1000000000 ∧ vR n d = false) ∨ (1 ≤ d ∧ d ≤ 1000000000 ∧ -1000000000 ≤ n ∧ 1000000000 < n ∧ vR n d = false) ∨
    (1 ≤ d ∧ d ≤ 1000000000 ∧ -1000000000 ≤ n ∧ n ≤ 1000000000 ∧ vR n d = (((Nat.gcd (absF n) (absF d) : Nat) : Int) == 1)) := by
  rw [beq_dec]
  unfold vR
  by_cases h1 : 1 ≤ d
  · by_cases h2 : d ≤ 1000000000
    · by_cases h3 : -1000000000 ≤ n
      · by_cases h4 : n ≤ 1000000000
        · simp [h1, h2, h3, h4]
        · simp [h1, h2, h3, h4]; omega
      · simp [h1, h2, h3]; omega
    · simp [h1, h2]; omega
  · simp [h1]; omega
theorem v_of {n d : Int} (h : vR n d = true) : 1 ≤ d ∧ d ≤ 1000000000 ∧ -1000000000 ≤ n ∧ n ≤ 1000000000 ∧ Nat.gcd (absF n) (absF d) = 1 := by simpa [vR] using h
end Go.Proofs.YtmjbcoapceoakaaDoor
