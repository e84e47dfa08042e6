/- BeatSet: the plain law and the walk. -/
import Derived.Test.YthlnfjllkmielaaBeatX
import Derived.Test.YthlnfjllkmielaaRatQ
namespace Go.Proofs.Ythlnfjllkmielaa
open Go Go.RowKit

theorem rt_v {n d : Int} (h : rtV n d = true) : vR n d = true := by
  unfold rtV at h
  simp only [Bool.and_eq_true] at h
  exact h.1
theorem seG_of {fn fd p q rn rd : Int} (h : seG fn fd p q rn rd = true) : sdV fn fd = true ∧ rtV rn rd = true ∧ ptV p = true ∧ ptV q = true := by simpa [seG] using h
/-- What Set returns, as an equation. -/
theorem se_spec {fn fd p q rn rd : Int} {above : Bool} (h : seE fn fd p q rn rd above = 0) :
    seG fn fd p q rn rd = true ∧ sdV (seX fn fd p q rn rd above) (seY fn fd p q rn rd above) = true ∧
      seX fn fd p q rn rd above * (q * fd * rd) = seN fn fd p rn rd above * seY fn fd p q rn rd above := by
  unfold seE at h
  split at h
  · rename_i hG
    split at h
    · rename_i hM
      unfold seX seY
      rw [if_pos hG, if_pos hG, if_pos hM, if_pos hM]
      unfold maE at hM
      simp only [Bool.and_eq_true, decide_eq_true_eq] at hM
      obtain ⟨_, _, h3⟩ := mk_spec hM.1
      exact ⟨hG, hM.2, h3⟩
    · cases h
  · cases h
theorem se_bad {fn fd p q rn rd : Int} {above : Bool} (h : ¬ seE fn fd p q rn rd above = 0) : seX fn fd p q rn rd above = 0 ∧ seY fn fd p q rn rd above = 0 := by
  unfold seE at h
  unfold seX seY
  split at h
  · split at h
    · exact absurd rfl h
    · rename_i hG hM
      rw [if_pos hG, if_pos hG, if_neg hM, if_neg hM]
      exact ⟨rfl, rfl⟩
  · rename_i hG
    rw [if_neg hG, if_neg hG]
    exact ⟨rfl, rfl⟩
theorem raG_mk {fn fd gn gd p q : Int} (h1 : sdV fn fd = true) (h2 : sdV gn gd = true) (h3 : ptV p = true) (h4 : ptV q = true) : raG fn fd gn gd p q = true := by simp [raG, h1, h2, h3, h4]
theorem raG_of {fn fd gn gd p q : Int} (h : raG fn fd gn gd p q = true) : (sdV fn fd = true ∧ sdV gn gd = true) ∧ ptV p = true ∧ ptV q = true := by simpa [raG] using h
/-- The rate is x / y if it has this value. -/
theorem ra_of {fn fd gn gd p q x y : Int} (hG : raG fn fd gn gd p q = true) (hv : rtV x y = true) (e : raN fn fd gn gd p q * y = x * (fd * gd)) : raX fn fd gn gd p q = x ∧ raY fn fd gn gd p q = y ∧ raE fn fd gn gd p q = 0 := by
  obtain ⟨⟨h1, h2⟩, _⟩ := raG_of hG
  have hd1 := (rt_of (sd_of h1).1).2.2.1
  have hd2 := (rt_of (sd_of h2).1).2.2.1
  obtain ⟨m1, m2, m3⟩ := mk_of (mul_ne (show 0 < fd by omega) (show 0 < gd by omega)) (rt_v hv) e
  have hM : maE rtV (raN fn fd gn gd p q) (fd * gd) = true := by
    unfold maE
    rw [m1, m2, m3, hv]
    rfl
  unfold raX raY raE maN maD maK
  rw [if_pos hG, if_pos hG, if_pos hG, if_pos hM, if_pos hM, if_pos hM]
  exact ⟨m2, m3, rfl⟩
theorem set_law {fn fd p q rn rd : Int} {above : Bool} (h : seE fn fd p q rn rd above = 0) :
    (raX fn fd (seX fn fd p q rn rd above) (seY fn fd p q rn rd above) p q = rn ∧ raY fn fd (seX fn fd p q rn rd above) (seY fn fd p q rn rd above) p q = rd ∧ raE fn fd (seX fn fd p q rn rd above) (seY fn fd p q rn rd above) p q = 0) ∧
      ((rn = 0 ∧ p * fn * seY fn fd p q rn rd above = q * seX fn fd p q rn rd above * fd) ∨ (rn ≠ 0 ∧ above = true ∧ p * fn * seY fn fd p q rn rd above < q * seX fn fd p q rn rd above * fd) ∨ (rn ≠ 0 ∧ above = false ∧ q * seX fn fd p q rn rd above * fd < p * fn * seY fn fd p q rn rd above)) := by
  obtain ⟨hG, hs, he⟩ := se_spec h
  obtain ⟨g1, g2, g3, g4⟩ := seG_of hG
  have r1 := rt_of (sd_of g1).1
  have r2 := rt_of g2
  have r3 := rt_of (sd_of hs).1
  have r3p := (sd_of hs).2
  unfold seN at he
  have hra := fun hN => ra_of (fn := fn) (fd := fd) (p := p) (q := q) (raG_mk g1 hs g3 g4) g2 hN
  unfold raN at hra
  generalize seX fn fd p q rn rd above = x at *
  generalize seY fn fd p q rn rd above = y at *
  have hC : 0 ≤ rn * fd * y := Int.mul_nonneg (Int.mul_nonneg r2.1 (by have := r1.2.2.1; omega)) (by have := r3.2.2.1; omega)
  have hrd : 0 < rd := by have := r2.2.2.1; omega
  cases above
  · simp only [Bool.false_eq_true, if_false] at he
    have e1 : (p * fn * y - q * x * fd) * rd = rn * fd * y := by grind
    have e2 : 0 ≤ p * fn * y - q * x * fd := by
      rcases Int.lt_or_le (p * fn * y - q * x * fd) 0 with g | g
      · have := Int.mul_neg_of_neg_of_pos g hrd
        omega
      · exact g
    refine ⟨hra ?_, ?_⟩
    · have e3 : ((p * fn * y - q * x * fd).natAbs : Int) = p * fn * y - q * x * fd := by omega
      rw [e3, e1]
      grind
    · by_cases h0 : rn = 0
      · refine Or.inl ⟨h0, ?_⟩
        rw [h0, Int.zero_mul, Int.zero_mul] at e1
        rcases Int.mul_eq_zero.1 e1 with g | g
        · omega
        · omega
      · refine Or.inr (Or.inr ⟨h0, rfl, ?_⟩)
        have hC2 : 0 < rn * fd * y := Int.mul_pos (Int.mul_pos (by have := r2.1; omega) (by have := r1.2.2.1; omega)) (by have := r3.2.2.1; omega)
        rcases Int.lt_or_le 0 (p * fn * y - q * x * fd) with g | g
        · omega
        · have : p * fn * y - q * x * fd = 0 := by omega
          rw [this, Int.zero_mul] at e1
          omega
  · simp only [if_true] at he
    have e1 : (q * x * fd - p * fn * y) * rd = rn * fd * y := by grind
    have e2 : 0 ≤ q * x * fd - p * fn * y := by
      rcases Int.lt_or_le (q * x * fd - p * fn * y) 0 with g | g
      · have := Int.mul_neg_of_neg_of_pos g hrd
        omega
      · exact g
    refine ⟨hra ?_, ?_⟩
    · have e3 : ((p * fn * y - q * x * fd).natAbs : Int) = q * x * fd - p * fn * y := by omega
      rw [e3, e1]
      grind
    · by_cases h0 : rn = 0
      · refine Or.inl ⟨h0, ?_⟩
        rw [h0, Int.zero_mul, Int.zero_mul] at e1
        rcases Int.mul_eq_zero.1 e1 with g | g
        · omega
        · omega
      · refine Or.inr (Or.inl ⟨h0, rfl, ?_⟩)
        have hC2 : 0 < rn * fd * y := Int.mul_pos (Int.mul_pos (by have := r2.1; omega) (by have := r1.2.2.1; omega)) (by have := r3.2.2.1; omega)
        rcases Int.lt_or_le 0 (q * x * fd - p * fn * y) with g | g
        · omega
        · have : q * x * fd - p * fn * y = 0 := by omega
          rw [this, Int.zero_mul] at e1
          omega
set_option maxRecDepth 100000 in
set_option maxHeartbeats 4000000 in
theorem walk_BeatSet (fn fd p q rn rd : Int) (above : Bool) (w : World) (_ : (Lit.int .i64 fn).wf = true) (_ : (Lit.int .i64 fd).wf = true) (_ : (Lit.int .i64 p).wf = true) (_ : (Lit.int .i64 q).wf = true) (_ : (Lit.int .i64 rn).wf = true) (_ : (Lit.int .i64 rd).wf = true) :
    Calls Try.prog 4 #[.agg #[.int .i64 fn, .int .i64 fd], .int .i64 p, .int .i64 q, .agg #[.int .i64 rn, .int .i64 rd], .bool above] w (Ret (.bool true) w) := by
  have HH := Lib.hid (fun w => head17_c w)
  have hS := fun w => Set_c fn fd p q rn rd above w
  simp only [seV_eq] at hS
  by_cases hE : seE fn fd p q rn rd above = 0
  case neg =>
    obtain ⟨x0, y0⟩ := se_bad hE
    rw [x0, y0] at hS
    have hE' : (seE fn fd p q rn rd above != 0) = true := by simpa using hE
    generalize seE fn fd p q rn rd above = E at *
    have HS := Lib.hid hS
    clear hS hE x0 y0
    go_enter Try.func4, Try.ntmps4
    go_wp2_with (first | (go_at_call 11; ((with_reducible refine (HH.out _).mono ?_); rintro e w' ⟨rfl, hb⟩; obtain ⟨hz, hc, hf⟩ := bcl hb (by first | (simp; rfl) | rfl))) | (go_at_call 14; ((with_reducible refine (HS.out _).mono ?_); rintro e w' ⟨rfl, hb⟩; obtain ⟨hz, hc, hf⟩ := bcl hb (by first | (simp; rfl) | rfl))))
    go_ret
    refine ⟨rfl, ?_⟩
    (repeat (first | (with_reducible exact bl_refl _) | (with_reducible refine bl_drew ?_) | (with_reducible refine bl_alloc ?_ _) | (with_reducible refine bl_set' ?_ ?_; · (first | omega | (simp; done) | (simp; omega))) | (with_reducible refine bl_last (by assumption) ?_) | (with_reducible refine bl_drewN ?_ _)))
  obtain ⟨⟨l1, l2, l3⟩, hw⟩ := set_law hE
  obtain ⟨hG, hs, _⟩ := se_spec hE
  obtain ⟨g1, g2, g3, g4⟩ := seG_of hG
  have hR := fun w => Rate_c fn fd (seX fn fd p q rn rd above) (seY fn fd p q rn rd above) p q w
  simp only [raV_eq, l1, l2, l3] at hR
  rw [hE] at hS
  have r1 := rt_of (sd_of g1).1
  have r3 := rt_of (sd_of hs).1
  have r4 := pt_of g3
  have r5 := pt_of g4
  clear l1 l2 l3 hE hG hs g1 g2 g3 g4
  generalize seX fn fd p q rn rd above = x at *
  generalize seY fn fd p q rn rd above = y at *
  obtain ⟨a1, a2, a3, a4⟩ := r1
  obtain ⟨b1, b2, b3, b4⟩ := r3
  obtain ⟨c1, c2⟩ := r4
  obtain ⟨d1, d2⟩ := r5
  have m0 := mul2_bd (A := 64) (B := 1000000000) (x := p) (y := fn) (by omega) (by omega) (by omega) (by omega)
  have m1 := mul3_bd (A := 64) (B := 1000000000) (C := 100000000) (x := p) (y := fn) (z := y) (by omega) (by omega) (by omega) (by omega) (by omega) (by omega)
  have m2 := mul2_bd (A := 64) (B := 1000000000) (x := q) (y := x) (by omega) (by omega) (by omega) (by omega)
  have m3 := mul3_bd (A := 64) (B := 1000000000) (C := 100000000) (x := q) (y := x) (z := fd) (by omega) (by omega) (by omega) (by omega) (by omega) (by omega)
  obtain ⟨O, hO⟩ : ∃ O : Int, O = p * fn * y := ⟨_, rfl⟩
  obtain ⟨T, hT⟩ : ∃ T : Int, T = q * x * fd := ⟨_, rfl⟩
  have q0 : IntKind.i64.wrap (p * fn) = p * fn := by rw [IntKind.wrap_i64]; omega
  have q1 : IntKind.i64.wrap (p * fn * y) = O := by rw [hO, IntKind.wrap_i64]; omega
  have q2 : IntKind.i64.wrap (q * x) = q * x := by rw [IntKind.wrap_i64]; omega
  have q3 : IntKind.i64.wrap (q * x * fd) = T := by rw [hT, IntKind.wrap_i64]; omega
  rw [← hO, ← hT] at hw
  clear m0 m1 m2 m3 hO hT a1 a2 a3 a4 b1 b2 b3 b4 c1 c2 d1 d2
  have HS := Lib.hid hS
  have HR := Lib.hid hR
  clear hS hR
  rcases hw with ⟨rfl, hw⟩ | ⟨h0, rfl, hw⟩ | ⟨h0, rfl, hw⟩
  · subst hw
    go_enter Try.func4, Try.ntmps4
    go_wp2_with (first | (go_at_call 11; ((with_reducible refine (HH.out _).mono ?_); rintro e w' ⟨rfl, hb⟩; obtain ⟨hz, hc, hf⟩ := bcl hb (by first | (simp; rfl) | rfl))) | (go_at_call 14; ((with_reducible refine (HS.out _).mono ?_); rintro e w' ⟨rfl, hb⟩; obtain ⟨hz, hc, hf⟩ := bcl hb (by first | (simp; rfl) | rfl))) | (go_at_call 12; ((with_reducible refine (HR.out _).mono ?_); rintro e w' ⟨rfl, hb⟩; obtain ⟨hz, hc, hf⟩ := bcl hb (by first | (simp; rfl) | rfl))))
    go_ret
    refine ⟨rfl, ?_⟩
    (repeat (first | (with_reducible exact bl_refl _) | (with_reducible refine bl_drew ?_) | (with_reducible refine bl_alloc ?_ _) | (with_reducible refine bl_set' ?_ ?_; · (first | omega | (simp; done) | (simp; omega))) | (with_reducible refine bl_last (by assumption) ?_) | (with_reducible refine bl_drewN ?_ _)))
  · have h0' : (rn == 0) = false := by simpa using h0
    have hd1 : decide (O < T) = true := decide_eq_true hw
    have hd2 : (T != O) = true := by simp; omega
    go_enter Try.func4, Try.ntmps4
    go_wp2_with (first | (go_at_call 11; ((with_reducible refine (HH.out _).mono ?_); rintro e w' ⟨rfl, hb⟩; obtain ⟨hz, hc, hf⟩ := bcl hb (by first | (simp; rfl) | rfl))) | (go_at_call 14; ((with_reducible refine (HS.out _).mono ?_); rintro e w' ⟨rfl, hb⟩; obtain ⟨hz, hc, hf⟩ := bcl hb (by first | (simp; rfl) | rfl))) | (go_at_call 12; ((with_reducible refine (HR.out _).mono ?_); rintro e w' ⟨rfl, hb⟩; obtain ⟨hz, hc, hf⟩ := bcl hb (by first | (simp; rfl) | rfl))))
    go_ret
    refine ⟨rfl, ?_⟩
    (repeat (first | (with_reducible exact bl_refl _) | (with_reducible refine bl_drew ?_) | (with_reducible refine bl_alloc ?_ _) | (with_reducible refine bl_set' ?_ ?_; · (first | omega | (simp; done) | (simp; omega))) | (with_reducible refine bl_last (by assumption) ?_) | (with_reducible refine bl_drewN ?_ _)))
  · have h0' : (rn == 0) = false := by simpa using h0
    have hd1 : decide (O < T) = false := decide_eq_false (by omega)
    have hd2 : (T != O) = true := by simp; omega
    go_enter Try.func4, Try.ntmps4
    go_wp2_with (first | (go_at_call 11; ((with_reducible refine (HH.out _).mono ?_); rintro e w' ⟨rfl, hb⟩; obtain ⟨hz, hc, hf⟩ := bcl hb (by first | (simp; rfl) | rfl))) | (go_at_call 14; ((with_reducible refine (HS.out _).mono ?_); rintro e w' ⟨rfl, hb⟩; obtain ⟨hz, hc, hf⟩ := bcl hb (by first | (simp; rfl) | rfl))) | (go_at_call 12; ((with_reducible refine (HR.out _).mono ?_); rintro e w' ⟨rfl, hb⟩; obtain ⟨hz, hc, hf⟩ := bcl hb (by first | (simp; rfl) | rfl))))
    go_ret
    refine ⟨rfl, ?_⟩
    (repeat (first | (with_reducible exact bl_refl _) | (with_reducible refine bl_drew ?_) | (with_reducible refine bl_alloc ?_ _) | (with_reducible refine bl_set' ?_ ?_; · (first | omega | (simp; done) | (simp; omega))) | (with_reducible refine bl_last (by assumption) ?_) | (with_reducible refine bl_drewN ?_ _)))
end Go.Proofs.Ythlnfjllkmielaa
