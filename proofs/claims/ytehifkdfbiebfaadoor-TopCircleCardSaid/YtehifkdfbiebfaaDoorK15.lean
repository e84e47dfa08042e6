/- Beat: Set and the reference's Set. Beat: Rate and the reference's Set and Rate. Bench: isRate, isFrequency; the reference's minus. -/
import Derived.Test.YtehifkdfbiebfaaDoorK14
namespace Go.Proofs.YtehifkdfbiebfaaDoor
open Go.RowKit

theorem mul3_bd {A B C : Nat} {x y z : Int} (h1 : 0 ≤ x) (h2 : x ≤ A) (h3 : 0 ≤ y) (h4 : y ≤ B) (h5 : 0 ≤ z) (h6 : z ≤ C) : 0 ≤ x * y * z ∧ x * y * z ≤ ((A * B * C : Nat) : Int) := by
  have h : (x * y * z).natAbs ≤ A * B * C := by
    rw [Int.natAbs_mul, Int.natAbs_mul]
    exact Nat.mul_le_mul (Nat.mul_le_mul (by omega) (by omega)) (by omega)
  have := Int.mul_nonneg (Int.mul_nonneg h1 h3) h5
  omega
theorem mul2_bd {A B : Nat} {x y : Int} (h1 : 0 ≤ x) (h2 : x ≤ A) (h3 : 0 ≤ y) (h4 : y ≤ B) : 0 ≤ x * y ∧ x * y ≤ ((A * B : Nat) : Int) := by
  have h : (x * y).natAbs ≤ A * B := by
    rw [Int.natAbs_mul]
    exact Nat.mul_le_mul (by omega) (by omega)
  have := Int.mul_nonneg h1 h3
  omega
def Rt (n d : Int) : Prop := 0 ≤ n ∧ n ≤ 1000000000 ∧ 1 ≤ d ∧ d ≤ 100000000
theorem rt_of {n d : Int} (h : rtV n d = true) : Rt n d := by
  rcases rt_ways n d with ⟨h1, hv⟩ | ⟨h1, h2, hv⟩ | ⟨h1, h2, h3, hv⟩ | ⟨h1, h2, h3, hv⟩
  · rw [h] at hv; cases hv
  · rw [h] at hv; cases hv
  · rw [h] at hv; cases hv
  · obtain ⟨a1, a2, a3, a4⟩ := rg_of h1
    exact ⟨h2, a2, a3, h3⟩
theorem sd_of {n d : Int} (h : sdV n d = true) : rtV n d = true ∧ 0 < n := by
  rcases sd_ways n d with ⟨h1, hv⟩ | ⟨h1, h2, hv⟩ | ⟨h1, h2, hv⟩
  · rw [h] at hv; cases hv
  · rw [h] at hv; cases hv
  · exact ⟨h1, h2⟩
theorem pt_of {p : Int} (h : ptV p = true) : 1 ≤ p ∧ p ≤ 64 := by
  rcases pt_ways p with ⟨h1, hv⟩ | ⟨h1, h2, hv⟩ | ⟨h1, h2, hv⟩
  · rw [h] at hv; cases hv
  · rw [h] at hv; cases hv
  · exact ⟨h1, h2⟩

def seG (fn fd p q rn rd : Int) : Bool := sdV fn fd && (rtV rn rd && (ptV p && ptV q))
def seN (fn fd p rn rd : Int) (above : Bool) : Int := p * fn * rd + (if above then rn * fd else -(rn * fd))
def seV (fn fd p q rn rd : Int) (above : Bool) : Value := if seG fn fd p q rn rd then maV sdV (seN fn fd p rn rd above) (q * fd * rd) else .tuple #[.agg #[.int .i64 0, .int .i64 0], .int .i64 1]
theorem maV_is (t : Int → Int → Bool) (n d : Int) : ∃ x y k : Int, maV t n d = .tuple #[.agg #[.int .i64 x, .int .i64 y], .int .i64 k] := ⟨_, _, _, rfl⟩

set_option maxHeartbeats 1000000 in
theorem Set_c (fn fd p q rn rd : Int) (above : Bool) (w : World) : Calls Tryd.prog 75 #[.agg #[.int .i64 fn, .int .i64 fd], .int .i64 p, .int .i64 q, .agg #[.int .i64 rn, .int .i64 rd], .bool above] w (Ret (seV fn fd p q rn rd above) w) := by
  cases h : seG fn fd p q rn rd
  · have hV : seV fn fd p q rn rd above = .tuple #[.agg #[.int .i64 0, .int .i64 0], .int .i64 1] := by simp [seV, h]
    rw [hV]
    clear hV
    unfold seG at h
    rcases vv_false h with h1 | ⟨h1, h2⟩
    · clear h
      go_enter Tryd.func75, Tryd.ntmps75
      go_wp2_with (first | (go_at_call 68; ((with_reducible refine (all1_sd fn fd _ _ (by go_simp) (by go_simp)).mono ?_); rintro e w' ⟨rfl, hb⟩; obtain ⟨hz, hc, hf⟩ := bcl hb (by first | (simp; rfl) | rfl))))
      (refine bodyPost_ret (v := .tuple #[.agg #[.int .i64 0, .int .i64 0], .int .i64 1]) (by simp only [results, Tryd.results75]; go_simp) rfl ⟨rfl, ?_⟩)
      (repeat (first | (with_reducible exact bl_refl _) | (with_reducible refine bl_drew ?_) | (with_reducible refine bl_alloc ?_ _) | (with_reducible refine bl_set' ?_ ?_; · (first | omega | (simp; done) | (simp; omega))) | (with_reducible refine bl_last (by assumption) ?_) | (with_reducible refine bl_drewN ?_ _)))
    rcases vv_false h2 with h3 | ⟨h3, h4⟩
    · clear h h2
      go_enter Tryd.func75, Tryd.ntmps75
      go_wp2_with (first | (go_at_call 68; ((with_reducible refine (all1_sd fn fd _ _ (by go_simp) (by go_simp)).mono ?_); rintro e w' ⟨rfl, hb⟩; obtain ⟨hz, hc, hf⟩ := bcl hb (by first | (simp; rfl) | rfl))) | (go_at_call 68; ((with_reducible refine (all1_rt rn rd _ _ (by go_simp) (by go_simp)).mono ?_); rintro e w' ⟨rfl, hb⟩; obtain ⟨hz, hc, hf⟩ := bcl hb (by first | (simp; rfl) | rfl))))
      (refine bodyPost_ret (v := .tuple #[.agg #[.int .i64 0, .int .i64 0], .int .i64 1]) (by simp only [results, Tryd.results75]; go_simp) rfl ⟨rfl, ?_⟩)
      (repeat (first | (with_reducible exact bl_refl _) | (with_reducible refine bl_drew ?_) | (with_reducible refine bl_alloc ?_ _) | (with_reducible refine bl_set' ?_ ?_; · (first | omega | (simp; done) | (simp; omega))) | (with_reducible refine bl_last (by assumption) ?_) | (with_reducible refine bl_drewN ?_ _)))
    · clear h h2
      go_enter Tryd.func75, Tryd.ntmps75
      go_wp2_with (first | (go_at_call 68; ((with_reducible refine (all1_sd fn fd _ _ (by go_simp) (by go_simp)).mono ?_); rintro e w' ⟨rfl, hb⟩; obtain ⟨hz, hc, hf⟩ := bcl hb (by first | (simp; rfl) | rfl))) | (go_at_call 68; ((with_reducible refine (all1_rt rn rd _ _ (by go_simp) (by go_simp)).mono ?_); rintro e w' ⟨rfl, hb⟩; obtain ⟨hz, hc, hf⟩ := bcl hb (by first | (simp; rfl) | rfl))) | (go_at_call 70; ((with_reducible refine (partials2_c p q _ _ (by go_simp) (by go_simp)).mono ?_); rintro e w' ⟨rfl, hb⟩; obtain ⟨hz, hc, hf⟩ := bcl hb (by first | (simp; rfl) | rfl))))
      (refine bodyPost_ret (v := .tuple #[.agg #[.int .i64 0, .int .i64 0], .int .i64 1]) (by simp only [results, Tryd.results75]; go_simp) rfl ⟨rfl, ?_⟩)
      (repeat (first | (with_reducible exact bl_refl _) | (with_reducible refine bl_drew ?_) | (with_reducible refine bl_alloc ?_ _) | (with_reducible refine bl_set' ?_ ?_; · (first | omega | (simp; done) | (simp; omega))) | (with_reducible refine bl_last (by assumption) ?_) | (with_reducible refine bl_drewN ?_ _)))
  · have hV : seV fn fd p q rn rd above = maV sdV (seN fn fd p rn rd above) (q * fd * rd) := by simp [seV, h]
    rw [hV]
    clear hV
    have h' : sdV fn fd = true ∧ rtV rn rd = true ∧ ptV p = true ∧ ptV q = true := by simpa [seG] using h
    obtain ⟨h1, h2, h3, h4⟩ := h'
    have h5 : (ptV p && ptV q) = true := by rw [h3, h4]; rfl
    clear h
    obtain ⟨h6, h7⟩ := sd_of h1
    obtain ⟨a1, a2, a3, a4⟩ := rt_of h6
    obtain ⟨b1, b2, b3, b4⟩ := rt_of h2
    obtain ⟨c1, c2⟩ := pt_of h3
    obtain ⟨d1, d2⟩ := pt_of h4
    obtain ⟨m0, m0'⟩ := mul2_bd (A := 64) (B := 1000000000) (x := p) (y := fn) (by omega) (by omega) (by omega) (by omega)
    obtain ⟨m1, m1'⟩ := mul3_bd (A := 64) (B := 1000000000) (C := 100000000) (x := p) (y := fn) (z := rd) (by omega) (by omega) (by omega) (by omega) (by omega) (by omega)
    obtain ⟨m2, m2'⟩ := mul2_bd (A := 1000000000) (B := 100000000) (x := rn) (y := fd) (by omega) (by omega) (by omega) (by omega)
    obtain ⟨m3, m3'⟩ := mul2_bd (A := 64) (B := 100000000) (x := q) (y := fd) (by omega) (by omega) (by omega) (by omega)
    obtain ⟨m4, m4'⟩ := mul3_bd (A := 64) (B := 100000000) (C := 100000000) (x := q) (y := fd) (z := rd) (by omega) (by omega) (by omega) (by omega) (by omega) (by omega)
    have q0 : IntKind.i64.wrap (p * fn) = p * fn := by rw [IntKind.wrap_i64]; omega
    have q1 : IntKind.i64.wrap (p * fn * rd) = p * fn * rd := by rw [IntKind.wrap_i64]; omega
    have q2 : IntKind.i64.wrap (rn * fd) = rn * fd := by rw [IntKind.wrap_i64]; omega
    have q3 : IntKind.i64.wrap (q * fd) = q * fd := by rw [IntKind.wrap_i64]; omega
    have q4 : IntKind.i64.wrap (q * fd * rd) = q * fd * rd := by rw [IntKind.wrap_i64]; omega
    have HM := fun w => made_sd (seN fn fd p rn rd above) (q * fd * rd) w (by unfold seN; cases above <;> constructor <;> simp <;> omega) (by constructor <;> omega)
    obtain ⟨x, y, k, hk⟩ := maV_is sdV (seN fn fd p rn rd above) (q * fd * rd)
    rw [hk] at HM ⊢
    clear hk
    cases above
    · have e1 : seN fn fd p rn rd false = p * fn * rd - rn * fd := by simp [seN]; omega
      rw [e1] at HM
      have q5 : IntKind.i64.wrap (p * fn * rd - rn * fd) = p * fn * rd - rn * fd := by rw [IntKind.wrap_i64]; omega
      have HM := Lib.hid HM
      go_enter Tryd.func75, Tryd.ntmps75
      go_wp2_with (first | (go_at_call 68; ((with_reducible refine (all1_sd fn fd _ _ (by go_simp) (by go_simp)).mono ?_); rintro e w' ⟨rfl, hb⟩; obtain ⟨hz, hc, hf⟩ := bcl hb (by first | (simp; rfl) | rfl))) | (go_at_call 68; ((with_reducible refine (all1_rt rn rd _ _ (by go_simp) (by go_simp)).mono ?_); rintro e w' ⟨rfl, hb⟩; obtain ⟨hz, hc, hf⟩ := bcl hb (by first | (simp; rfl) | rfl))) | (go_at_call 70; ((with_reducible refine (partials2_c p q _ _ (by go_simp) (by go_simp)).mono ?_); rintro e w' ⟨rfl, hb⟩; obtain ⟨hz, hc, hf⟩ := bcl hb (by first | (simp; rfl) | rfl))) | (go_at_call 71; ((with_reducible refine (HM.out _).mono ?_); rintro e w' ⟨rfl, hb⟩; obtain ⟨hz, hc, hf⟩ := bcl hb (by first | (simp; rfl) | rfl))))
      (refine bodyPost_ret (v := .tuple #[.agg #[.int .i64 x, .int .i64 y], .int .i64 k]) (by simp only [results, Tryd.results75]; go_simp) rfl ⟨rfl, ?_⟩)
      (repeat (first | (with_reducible exact bl_refl _) | (with_reducible refine bl_drew ?_) | (with_reducible refine bl_alloc ?_ _) | (with_reducible refine bl_set' ?_ ?_; · (first | omega | (simp; done) | (simp; omega))) | (with_reducible refine bl_last (by assumption) ?_) | (with_reducible refine bl_drewN ?_ _)))
    · have e1 : seN fn fd p rn rd true = p * fn * rd + rn * fd := by simp [seN]
      rw [e1] at HM
      have q5 : IntKind.i64.wrap (p * fn * rd + rn * fd) = p * fn * rd + rn * fd := by rw [IntKind.wrap_i64]; omega
      have HM := Lib.hid HM
      go_enter Tryd.func75, Tryd.ntmps75
      go_wp2_with (first | (go_at_call 68; ((with_reducible refine (all1_sd fn fd _ _ (by go_simp) (by go_simp)).mono ?_); rintro e w' ⟨rfl, hb⟩; obtain ⟨hz, hc, hf⟩ := bcl hb (by first | (simp; rfl) | rfl))) | (go_at_call 68; ((with_reducible refine (all1_rt rn rd _ _ (by go_simp) (by go_simp)).mono ?_); rintro e w' ⟨rfl, hb⟩; obtain ⟨hz, hc, hf⟩ := bcl hb (by first | (simp; rfl) | rfl))) | (go_at_call 70; ((with_reducible refine (partials2_c p q _ _ (by go_simp) (by go_simp)).mono ?_); rintro e w' ⟨rfl, hb⟩; obtain ⟨hz, hc, hf⟩ := bcl hb (by first | (simp; rfl) | rfl))) | (go_at_call 71; ((with_reducible refine (HM.out _).mono ?_); rintro e w' ⟨rfl, hb⟩; obtain ⟨hz, hc, hf⟩ := bcl hb (by first | (simp; rfl) | rfl))))
      (refine bodyPost_ret (v := .tuple #[.agg #[.int .i64 x, .int .i64 y], .int .i64 k]) (by simp only [results, Tryd.results75]; go_simp) rfl ⟨rfl, ?_⟩)
      (repeat (first | (with_reducible exact bl_refl _) | (with_reducible refine bl_drew ?_) | (with_reducible refine bl_alloc ?_ _) | (with_reducible refine bl_set' ?_ ?_; · (first | omega | (simp; done) | (simp; omega))) | (with_reducible refine bl_last (by assumption) ?_) | (with_reducible refine bl_drewN ?_ _)))
end Go.Proofs.YtehifkdfbiebfaaDoor
namespace Go.Proofs.YtehifkdfbiebfaaDoor
open Go.RowKit

def raG (fn fd gn gd p q : Int) : Bool := (sdV fn fd && sdV gn gd) && (ptV p && ptV q)
def raN (fn fd gn gd p q : Int) : Int := ((p * fn * gd - q * gn * fd).natAbs : Int)
def raV (fn fd gn gd p q : Int) : Value := if raG fn fd gn gd p q then maV rtV (raN fn fd gn gd p q) (fd * gd) else .tuple #[.agg #[.int .i64 0, .int .i64 0], .int .i64 1]

set_option maxHeartbeats 1000000 in
theorem Rate_c (fn fd gn gd p q : Int) (w : World) : Calls Tryd.prog 22 #[.agg #[.int .i64 fn, .int .i64 fd], .agg #[.int .i64 gn, .int .i64 gd], .int .i64 p, .int .i64 q] w (Ret (raV fn fd gn gd p q) w) := by
  cases h : raG fn fd gn gd p q
  · have hV : raV fn fd gn gd p q = .tuple #[.agg #[.int .i64 0, .int .i64 0], .int .i64 1] := by simp [raV, h]
    rw [hV]
    clear hV
    unfold raG at h
    rcases vv_false h with h1 | ⟨h1, h2⟩
    · clear h
      go_enter Tryd.func22, Tryd.ntmps22
      go_wp2_with (first | (go_at_call 68; ((with_reducible refine (all2_sd fn fd gn gd _ _ (by go_simp) (by go_simp) (by go_simp) (by go_simp)).mono ?_); rintro e w' ⟨rfl, hb⟩; obtain ⟨hz, hc, hf⟩ := bcl hb (by first | (simp; rfl) | rfl))))
      (refine bodyPost_ret (v := .tuple #[.agg #[.int .i64 0, .int .i64 0], .int .i64 1]) (by simp only [results, Tryd.results22]; go_simp) rfl ⟨rfl, ?_⟩)
      (repeat (first | (with_reducible exact bl_refl _) | (with_reducible refine bl_drew ?_) | (with_reducible refine bl_alloc ?_ _) | (with_reducible refine bl_set' ?_ ?_; · (first | omega | (simp; done) | (simp; omega))) | (with_reducible refine bl_last (by assumption) ?_) | (with_reducible refine bl_drewN ?_ _)))
    · clear h
      go_enter Tryd.func22, Tryd.ntmps22
      go_wp2_with (first | (go_at_call 68; ((with_reducible refine (all2_sd fn fd gn gd _ _ (by go_simp) (by go_simp) (by go_simp) (by go_simp)).mono ?_); rintro e w' ⟨rfl, hb⟩; obtain ⟨hz, hc, hf⟩ := bcl hb (by first | (simp; rfl) | rfl))) | (go_at_call 70; ((with_reducible refine (partials2_c p q _ _ (by go_simp) (by go_simp)).mono ?_); rintro e w' ⟨rfl, hb⟩; obtain ⟨hz, hc, hf⟩ := bcl hb (by first | (simp; rfl) | rfl))))
      (refine bodyPost_ret (v := .tuple #[.agg #[.int .i64 0, .int .i64 0], .int .i64 1]) (by simp only [results, Tryd.results22]; go_simp) rfl ⟨rfl, ?_⟩)
      (repeat (first | (with_reducible exact bl_refl _) | (with_reducible refine bl_drew ?_) | (with_reducible refine bl_alloc ?_ _) | (with_reducible refine bl_set' ?_ ?_; · (first | omega | (simp; done) | (simp; omega))) | (with_reducible refine bl_last (by assumption) ?_) | (with_reducible refine bl_drewN ?_ _)))
  · have hV : raV fn fd gn gd p q = maV rtV (raN fn fd gn gd p q) (fd * gd) := by simp [raV, h]
    rw [hV]
    clear hV
    have h' : (sdV fn fd = true ∧ sdV gn gd = true) ∧ ptV p = true ∧ ptV q = true := by simpa [raG] using h
    obtain ⟨⟨h1, h2⟩, h3, h4⟩ := h'
    have h5 : (ptV p && ptV q) = true := by rw [h3, h4]; rfl
    have h51 : (sdV fn fd && sdV gn gd) = true := by rw [h1, h2]; rfl
    clear h
    obtain ⟨h6, h7⟩ := sd_of h1
    obtain ⟨a1, a2, a3, a4⟩ := rt_of h6
    obtain ⟨h8, h9⟩ := sd_of h2
    obtain ⟨b1, b2, b3, b4⟩ := rt_of h8
    obtain ⟨c1, c2⟩ := pt_of h3
    obtain ⟨d1, d2⟩ := pt_of h4
    obtain ⟨m0, m0'⟩ := mul2_bd (A := 64) (B := 1000000000) (x := p) (y := fn) (by omega) (by omega) (by omega) (by omega)
    obtain ⟨m1, m1'⟩ := mul3_bd (A := 64) (B := 1000000000) (C := 100000000) (x := p) (y := fn) (z := gd) (by omega) (by omega) (by omega) (by omega) (by omega) (by omega)
    obtain ⟨m2, m2'⟩ := mul2_bd (A := 64) (B := 1000000000) (x := q) (y := gn) (by omega) (by omega) (by omega) (by omega)
    obtain ⟨m3, m3'⟩ := mul3_bd (A := 64) (B := 1000000000) (C := 100000000) (x := q) (y := gn) (z := fd) (by omega) (by omega) (by omega) (by omega) (by omega) (by omega)
    obtain ⟨m4, m4'⟩ := mul2_bd (A := 100000000) (B := 100000000) (x := fd) (y := gd) (by omega) (by omega) (by omega) (by omega)
    have q0 : IntKind.i64.wrap (p * fn) = p * fn := by rw [IntKind.wrap_i64]; omega
    have q1 : IntKind.i64.wrap (p * fn * gd) = p * fn * gd := by rw [IntKind.wrap_i64]; omega
    have q2 : IntKind.i64.wrap (q * gn) = q * gn := by rw [IntKind.wrap_i64]; omega
    have q3 : IntKind.i64.wrap (q * gn * fd) = q * gn * fd := by rw [IntKind.wrap_i64]; omega
    have q4 : IntKind.i64.wrap (fd * gd) = fd * gd := by rw [IntKind.wrap_i64]; omega
    have q5 : IntKind.i64.wrap (p * fn * gd - q * gn * fd) = p * fn * gd - q * gn * fd := by rw [IntKind.wrap_i64]; omega
    have HM := fun w => made_rt (raN fn fd gn gd p q) (fd * gd) w (by unfold raN; constructor <;> omega) (by constructor <;> omega)
    obtain ⟨x, y, k, hk⟩ := maV_is rtV (raN fn fd gn gd p q) (fd * gd)
    rw [hk] at HM ⊢
    clear hk
    rcases Int.lt_or_le (p * fn * gd - q * gn * fd) 0 with g | g
    · have e1 : raN fn fd gn gd p q = -(p * fn * gd - q * gn * fd) := by unfold raN; omega
      rw [e1] at HM
      have q6 : IntKind.i64.wrap (-(p * fn * gd - q * gn * fd)) = -(p * fn * gd - q * gn * fd) := by rw [IntKind.wrap_i64]; omega
      generalize hz : p * fn * gd - q * gn * fd = z at *
      have HM := Lib.hid HM
      go_enter Tryd.func22, Tryd.ntmps22
      go_wp2_with (first | (go_at_call 68; ((with_reducible refine (all2_sd fn fd gn gd _ _ (by go_simp) (by go_simp) (by go_simp) (by go_simp)).mono ?_); rintro e w' ⟨rfl, hb⟩; obtain ⟨hz, hc, hf⟩ := bcl hb (by first | (simp; rfl) | rfl))) | (go_at_call 70; ((with_reducible refine (partials2_c p q _ _ (by go_simp) (by go_simp)).mono ?_); rintro e w' ⟨rfl, hb⟩; obtain ⟨hz, hc, hf⟩ := bcl hb (by first | (simp; rfl) | rfl))) | (go_at_call 71; ((with_reducible refine (HM.out _).mono ?_); rintro e w' ⟨rfl, hb⟩; obtain ⟨hz, hc, hf⟩ := bcl hb (by first | (simp; rfl) | rfl))))
      (refine bodyPost_ret (v := .tuple #[.agg #[.int .i64 x, .int .i64 y], .int .i64 k]) (by simp only [results, Tryd.results22]; go_simp) rfl ⟨rfl, ?_⟩)
      (repeat (first | (with_reducible exact bl_refl _) | (with_reducible refine bl_drew ?_) | (with_reducible refine bl_alloc ?_ _) | (with_reducible refine bl_set' ?_ ?_; · (first | omega | (simp; done) | (simp; omega))) | (with_reducible refine bl_last (by assumption) ?_) | (with_reducible refine bl_drewN ?_ _)))
    · have e1 : raN fn fd gn gd p q = p * fn * gd - q * gn * fd := by unfold raN; omega
      rw [e1] at HM
      generalize hz : p * fn * gd - q * gn * fd = z at *
      have HM := Lib.hid HM
      go_enter Tryd.func22, Tryd.ntmps22
      go_wp2_with (first | (go_at_call 68; ((with_reducible refine (all2_sd fn fd gn gd _ _ (by go_simp) (by go_simp) (by go_simp) (by go_simp)).mono ?_); rintro e w' ⟨rfl, hb⟩; obtain ⟨hz, hc, hf⟩ := bcl hb (by first | (simp; rfl) | rfl))) | (go_at_call 70; ((with_reducible refine (partials2_c p q _ _ (by go_simp) (by go_simp)).mono ?_); rintro e w' ⟨rfl, hb⟩; obtain ⟨hz, hc, hf⟩ := bcl hb (by first | (simp; rfl) | rfl))) | (go_at_call 71; ((with_reducible refine (HM.out _).mono ?_); rintro e w' ⟨rfl, hb⟩; obtain ⟨hz, hc, hf⟩ := bcl hb (by first | (simp; rfl) | rfl))))
      (refine bodyPost_ret (v := .tuple #[.agg #[.int .i64 x, .int .i64 y], .int .i64 k]) (by simp only [results, Tryd.results22]; go_simp) rfl ⟨rfl, ?_⟩)
      (repeat (first | (with_reducible exact bl_refl _) | (with_reducible refine bl_drew ?_) | (with_reducible refine bl_alloc ?_ _) | (with_reducible refine bl_set' ?_ ?_; · (first | omega | (simp; done) | (simp; omega))) | (with_reducible refine bl_last (by assumption) ?_) | (with_reducible refine bl_drewN ?_ _)))

/-- The reference asks for a rate that is not 0: the same as a frequency. -/
theorem ma_sd (n d : Int) : ((mkE n d = 0 ∧ rtV (mkN n d) (mkD n d) = true ∧ mkN n d = 0) ∧ maV rtV n d = .tuple #[.agg #[.int .i64 0, .int .i64 (mkD n d)], .int .i64 0] ∧ maV sdV n d = .tuple #[.agg #[.int .i64 0, .int .i64 0], .int .i64 3]) ∨
    (maV rtV n d = .tuple #[.agg #[.int .i64 0, .int .i64 0], .int .i64 3] ∧ maV sdV n d = .tuple #[.agg #[.int .i64 0, .int .i64 0], .int .i64 3]) ∨
    (mkN n d ≠ 0 ∧ maV rtV n d = .tuple #[.agg #[.int .i64 (mkN n d), .int .i64 (mkD n d)], .int .i64 0] ∧ maV sdV n d = .tuple #[.agg #[.int .i64 (mkN n d), .int .i64 (mkD n d)], .int .i64 0]) := by
  by_cases he : mkE n d = 0
  · rcases sd_ways (mkN n d) (mkD n d) with ⟨h1, h2⟩ | ⟨h1, h2, h3⟩ | ⟨h1, h2, h3⟩
    · exact Or.inr (Or.inl ⟨ma_no (by simp [maE, h1]), ma_no (by simp [maE, h2])⟩)
    · have h4 := (rt_of h1).1
      have h5 : mkN n d = 0 := by omega
      refine Or.inl ⟨⟨he, h1, h5⟩, ?_, ma_no (by simp [maE, h3])⟩
      rw [ma_ok (by simp [maE, h1, he]), h5]
    · exact Or.inr (Or.inr ⟨by omega, ma_ok (by simp [maE, h1, he]), ma_ok (by simp [maE, h3, he])⟩)
  · exact Or.inr (Or.inl ⟨ma_no (by simp [maE, he]), ma_no (by simp [maE, he])⟩)

end Go.Proofs.YtehifkdfbiebfaaDoor
namespace Go.Proofs.YtehifkdfbiebfaaDoor
open Go.RowKit

theorem sd_big : sdV 1000000000 1 = true := by decide +kernel
theorem pt_one : ptV 1 = true := by decide
theorem maE_zero {t : Int → Int → Bool} (ht : t 0 1 = true) {d : Int} (hd : 1 ≤ d) : maE t 0 d = true := by
  have hg : gF 0 d = absF d := by simp [gF, absF]
  have hx : xF 0 d = 0 := by simp [xF, absF]
  have hy : yF 0 d = 1 := by
    unfold yF
    rw [hg]
    have : 0 < absF d := by unfold absF; omega
    simp [Nat.div_self this]
  have he : mkE 0 d = 0 := by
    unfold mkE
    rw [if_neg (by omega), hx, hy]
    simp
  have hn : mkN 0 d = 0 := by
    unfold mkN
    rw [if_pos he]
    simp [numF, hx]
  have hd : mkD 0 d = 1 := by
    unfold mkD
    rw [if_pos he, hy]
    rfl
  simp [maE, he, hn, hd, ht]
theorem maV_err (t : Int → Int → Bool) (n d : Int) : ∃ x y k : Int, (k = 0 ∨ k = 3) ∧ maV t n d = .tuple #[.agg #[.int .i64 x, .int .i64 y], .int .i64 k] := by
  unfold maV
  cases maE t n d
  · exact ⟨_, _, _, Or.inr rfl, rfl⟩
  · exact ⟨_, _, _, Or.inl rfl, rfl⟩

set_option maxHeartbeats 1000000 in
theorem isRate_c (n d : Int) (w : World) : Calls Tryd.prog 63 #[.agg #[.int .i64 n, .int .i64 d]] w (Ret (.bool (rtV n d)) w) := by
  have HS := fun w => Set_c 1000000000 1 1 1 n d true w
  cases h : rtV n d
  · have hG : seG 1000000000 1 1 1 n d = false := by simp [seG, h]
    have hV : seV 1000000000 1 1 1 n d true = .tuple #[.agg #[.int .i64 0, .int .i64 0], .int .i64 1] := by simp [seV, hG]
    rw [hV] at HS
    clear hV hG
    have HS := Lib.hid HS
    go_enter Tryd.func63, Tryd.ntmps63
    go_wp2_with (go_at_call 75; ((with_reducible refine (HS.out _).mono ?_); rintro e w' ⟨rfl, hb⟩; obtain ⟨hz, hc, hf⟩ := bcl hb (by first | (simp; rfl) | rfl)))
    go_ret
    refine ⟨rfl, ?_⟩
    (repeat (first | (with_reducible exact bl_refl _) | (with_reducible refine bl_drew ?_) | (with_reducible refine bl_alloc ?_ _) | (with_reducible refine bl_set' ?_ ?_; · (first | omega | (simp; done) | (simp; omega))) | (with_reducible refine bl_last (by assumption) ?_) | (with_reducible refine bl_drewN ?_ _)))
  · have hG : seG 1000000000 1 1 1 n d = true := by simp [seG, h, sd_big, pt_one]
    obtain ⟨x, y, k, hk, hm⟩ := maV_err sdV (seN 1000000000 1 1 n d true) (1 * 1 * d)
    have hV : seV 1000000000 1 1 1 n d true = .tuple #[.agg #[.int .i64 x, .int .i64 y], .int .i64 k] := by rw [← hm]; simp [seV, hG]
    rw [hV] at HS
    clear hV hG hm
    have HS := Lib.hid HS
    rcases hk with rfl | rfl
    all_goals
      go_enter Tryd.func63, Tryd.ntmps63
      go_wp2_with (go_at_call 75; ((with_reducible refine (HS.out _).mono ?_); rintro e w' ⟨rfl, hb⟩; obtain ⟨hz, hc, hf⟩ := bcl hb (by first | (simp; rfl) | rfl)))
      go_ret
      refine ⟨rfl, ?_⟩
      (repeat (first | (with_reducible exact bl_refl _) | (with_reducible refine bl_drew ?_) | (with_reducible refine bl_alloc ?_ _) | (with_reducible refine bl_set' ?_ ?_; · (first | omega | (simp; done) | (simp; omega))) | (with_reducible refine bl_last (by assumption) ?_) | (with_reducible refine bl_drewN ?_ _)))

set_option maxHeartbeats 1000000 in
theorem isFreq_c (n d : Int) (w : World) : Calls Tryd.prog 51 #[.agg #[.int .i64 n, .int .i64 d]] w (Ret (.bool (sdV n d)) w) := by
  have HS := fun w => Rate_c n d n d 1 1 w
  cases h : sdV n d
  · have hG : raG n d n d 1 1 = false := by simp [raG, h]
    have hV : raV n d n d 1 1 = .tuple #[.agg #[.int .i64 0, .int .i64 0], .int .i64 1] := by simp [raV, hG]
    rw [hV] at HS
    clear hV hG
    have HS := Lib.hid HS
    go_enter Tryd.func51, Tryd.ntmps51
    go_wp2_with (go_at_call 22; ((with_reducible refine (HS.out _).mono ?_); rintro e w' ⟨rfl, hb⟩; obtain ⟨hz, hc, hf⟩ := bcl hb (by first | (simp; rfl) | rfl)))
    go_ret
    refine ⟨rfl, ?_⟩
    (repeat (first | (with_reducible exact bl_refl _) | (with_reducible refine bl_drew ?_) | (with_reducible refine bl_alloc ?_ _) | (with_reducible refine bl_set' ?_ ?_; · (first | omega | (simp; done) | (simp; omega))) | (with_reducible refine bl_last (by assumption) ?_) | (with_reducible refine bl_drewN ?_ _)))
  · have hG : raG n d n d 1 1 = true := by simp [raG, h, pt_one]
    obtain ⟨a1, a2, a3, a4⟩ := rt_of (sd_of h).1
    have hd : 1 ≤ d * d := Int.mul_pos (by omega) (by omega)
    have hN : raN n d n d 1 1 = 0 := by simp [raN]
    have hV : raV n d n d 1 1 = .tuple #[.agg #[.int .i64 (mkN 0 (d * d)), .int .i64 (mkD 0 (d * d))], .int .i64 0] := by
      simp only [raV, hG, hN, if_true]
      exact ma_ok (maE_zero (by decide +kernel) hd)
    rw [hV] at HS
    clear hV hG
    generalize mkN 0 (d * d) = x at *
    generalize mkD 0 (d * d) = y at *
    have HS := Lib.hid HS
    go_enter Tryd.func51, Tryd.ntmps51
    go_wp2_with (go_at_call 22; ((with_reducible refine (HS.out _).mono ?_); rintro e w' ⟨rfl, hb⟩; obtain ⟨hz, hc, hf⟩ := bcl hb (by first | (simp; rfl) | rfl)))
    go_ret
    refine ⟨rfl, ?_⟩
    (repeat (first | (with_reducible exact bl_refl _) | (with_reducible refine bl_drew ?_) | (with_reducible refine bl_alloc ?_ _) | (with_reducible refine bl_set' ?_ ?_; · (first | omega | (simp; done) | (simp; omega))) | (with_reducible refine bl_last (by assumption) ?_) | (with_reducible refine bl_drewN ?_ _)))
end Go.Proofs.YtehifkdfbiebfaaDoor
