/- Rational: the deferred calls (caught, Make$1 ..), Make. Rational: Make and Valid, and the reference's. Rational: the plain laws: the lowest terms of a value are one. -/
import Derived.Test.YtehifkdfbiebfaaDoorK02
import Derived.Recover
namespace Go.Proofs.YtehifkdfbiebfaaDoor
open Go.RowKit

set_option maxRecDepth 100000 in
set_option maxHeartbeats 400000 in
theorem caught_nil (r e : Nat) (w : World) : Calls Tryd.prog 84 #[.pointer (some ⟨r, 0, none⟩), .pointer (some ⟨e, 0, none⟩), .nilIface] w fun en w' => en = .returned (.tuple #[]) ∧ w = w' := by
  go_enter Tryd.func84, Tryd.ntmps84
  go_wp2
  refine bodyPost_ret (results_none rfl _ _ _) rfl ⟨rfl, rfl⟩
theorem assert_errno (n : Int) (w : World) : (Instr.typeAssert (.iface 42 (.int .i64 n)) 20 42 true).run Tryd.prog w = .ok (.tuple #[.int .i64 n, .bool true]) w := by kernel_rfl
set_option maxRecDepth 100000 in
set_option maxHeartbeats 400000 in
theorem caught_some (r e : Nat) (n : Int) (w : World) (a b c : Value) (h1 : w.cell? ⟨r, 0, none⟩ = some a) (h2 : w.cell? ⟨r, 1, none⟩ = some b) (h3 : w.cell? ⟨e, 0, none⟩ = some c)
    (f1 : w.frozen? ⟨r, 0, none⟩ = false) (f2 : w.frozen? ⟨r, 1, none⟩ = false) (f3 : w.frozen? ⟨e, 0, none⟩ = false) (hne : r < e) :
    Calls Tryd.prog 84 #[.pointer (some ⟨r, 0, none⟩), .pointer (some ⟨e, 0, none⟩), .iface 42 (.int .i64 n)] w fun en w' => en = .returned (.tuple #[]) ∧ ((w.setCell ⟨r, 0, none⟩ (.int .i64 0)).setCell ⟨r, 1, none⟩ (.int .i64 0)).setCell ⟨e, 0, none⟩ (.int .i64 n) = w' := by
  have hta := assert_errno n
  go_enter Tryd.func84, Tryd.ntmps84
  go_wp2
  exact bodyPost_end (results_none rfl _ _ _) rfl ⟨rfl, rfl⟩

theorem make1_panic (r e : Nat) (n : Int) (older : List PanicEntry) (w : World) (a b c : Value) (h1 : w.cell? ⟨r, 0, none⟩ = some a) (h2 : w.cell? ⟨r, 1, none⟩ = some b) (h3 : w.cell? ⟨e, 0, none⟩ = some c)
    (f1 : w.frozen? ⟨r, 0, none⟩ = false) (f2 : w.frozen? ⟨r, 1, none⟩ = false) (f3 : w.frozen? ⟨e, 0, none⟩ = false) (hne : r < e) :
    CallsD Tryd.prog 83 #[.pointer (some ⟨r, 0, none⟩), .pointer (some ⟨e, 0, none⟩)] (.panicking ({ v := .iface 42 (.int .i64 n), recovered := false } :: older)) w fun en u' w' =>
      en = .returned (.tuple #[]) ∧ u' = .panicking ({ v := .iface 42 (.int .i64 n), recovered := true } :: older) ∧ w' = ((w.setCell ⟨r, 0, none⟩ (.int .i64 0)).setCell ⟨r, 1, none⟩ (.int .i64 0)).setCell ⟨e, 0, none⟩ (.int .i64 n) := by
  have C := caught_some r e n w a b c h1 h2 h3 f1 f2 f3 hne
  refine callsD_of_wpS Tryd.func83 rfl fun c₀ cs hu => ?_
  apply wpS_region
  simp [wpOpsS, go_sem, recoverD, hu, Tryd.ntmps83]
  refine C.mono ?_
  rintro en w' ⟨rfl, rfl⟩
  simp [bodyPostS, results, Tryd.results83]

theorem make1_idle (r e : Nat) (w : World) :
    CallsD Tryd.prog 83 #[.pointer (some ⟨r, 0, none⟩), .pointer (some ⟨e, 0, none⟩)] .returning w fun en u' w' => en = .returned (.tuple #[]) ∧ u' = .returning ∧ w' = w := by
  have C := caught_nil r e w
  refine callsD_of_wpS Tryd.func83 rfl fun c₀ cs hu => ?_
  apply wpS_region
  simp [wpOpsS, go_sem, recoverD, hu, Tryd.ntmps83]
  refine C.mono ?_
  rintro en w' ⟨rfl, rfl⟩
  cases c₀
  simp_all [bodyPostS, results, Tryd.results83]


set_option maxRecDepth 100000 in
set_option maxHeartbeats 1000000 in
theorem Make_fails (n d k : Int) (w : World) (hR : ∀ w, Calls Tryd.prog 85 #[.int .i64 n, .int .i64 d] w (Fails k w)) :
    Calls Tryd.prog 31 #[.int .i64 n, .int .i64 d] w (Ret (.tuple #[.agg #[.int .i64 0, .int .i64 0], .int .i64 k]) w) := by
  have HR := Lib.hid hR
  clear hR
  have hmf : ∀ (fn : Fn) (first cap : Array Value) (w : World), (Instr.makeFunc fn first cap).run Tryd.prog w = .ok (.func fn first cap) w := fun _ _ _ _ => rfl
  go_enter_defers Tryd.func31, Tryd.ntmps31
  go_wp2_with (go_at_call 85; refine (HR.out _).mono ?_; rintro e w' ⟨rfl, hb⟩; obtain ⟨hz, hc, hf⟩ := bcl hb (by first | (simp; rfl) | rfl))
  refine leaves_cons (f := 83) (args := #[.pointer (some ⟨w.heap.size, 0, none⟩), .pointer (some ⟨w.heap.size + 1, 0, none⟩)]) (by simp) (by simp [go_sem]) ?_
  refine (make1_panic w.heap.size (w.heap.size + 1) k [] _ (.int .i64 0) (.int .i64 0) (.int .i64 0) ?_ ?_ ?_ ?_ ?_ ?_ (by omega)).mono ?_
  · go_simp
  · go_simp
  · go_simp
  · go_simp
  · go_simp
  · go_simp
  rintro e u' w'' ⟨rfl, rfl, rfl⟩
  refine ⟨.tuple #[.agg #[.int .i64 0, .int .i64 0], .int .i64 k], ?_, ?_⟩
  · simp only [results, Tryd.results31]
    go_simp
  · refine ⟨rfl, ?_⟩
    (repeat (first | (with_reducible exact bl_refl _) | (with_reducible refine bl_drew ?_) | (with_reducible refine bl_alloc ?_ _) | (with_reducible refine bl_set' ?_ ?_; · (first | omega | (simp; done) | (simp; omega))) | (with_reducible refine bl_last (by assumption) ?_) | (with_reducible refine bl_drewN ?_ _)))

set_option maxRecDepth 100000 in
set_option maxHeartbeats 1000000 in
theorem Make_gives (n d x y : Int) (w : World) (hR : ∀ w, Calls Tryd.prog 85 #[.int .i64 n, .int .i64 d] w (Ret (.agg #[.int .i64 x, .int .i64 y]) w)) :
    Calls Tryd.prog 31 #[.int .i64 n, .int .i64 d] w (Ret (.tuple #[.agg #[.int .i64 x, .int .i64 y], .int .i64 0]) w) := by
  have HR := Lib.hid hR
  clear hR
  have hmf : ∀ (fn : Fn) (first cap : Array Value) (w : World), (Instr.makeFunc fn first cap).run Tryd.prog w = .ok (.func fn first cap) w := fun _ _ _ _ => rfl
  go_enter_defers Tryd.func31, Tryd.ntmps31
  go_wp2_with (go_at_call 85; refine (HR.out _).mono ?_; rintro e w' ⟨rfl, hb⟩; obtain ⟨hz, hc, hf⟩ := bcl hb (by first | (simp; rfl) | rfl))
  refine leaves_cons (f := 83) (args := #[.pointer (some ⟨w.heap.size, 0, none⟩), .pointer (some ⟨w.heap.size + 1, 0, none⟩)]) (by simp) (by simp [go_sem]) ?_
  refine (make1_idle w.heap.size (w.heap.size + 1) _).mono ?_
  rintro e u' w'' ⟨rfl, rfl, rfl⟩
  refine ⟨.tuple #[.agg #[.int .i64 x, .int .i64 y], .int .i64 0], ?_, ?_⟩
  · simp only [results, Tryd.results31]
    go_simp
  · refine ⟨rfl, ?_⟩
    (repeat (first | (with_reducible exact bl_refl _) | (with_reducible refine bl_drew ?_) | (with_reducible refine bl_alloc ?_ _) | (with_reducible refine bl_set' ?_ ?_; · (first | omega | (simp; done) | (simp; omega))) | (with_reducible refine bl_last (by assumption) ?_) | (with_reducible refine bl_drewN ?_ _)))
end Go.Proofs.YtehifkdfbiebfaaDoor
namespace Go.Proofs.YtehifkdfbiebfaaDoor
open Go.RowKit

def mkE (n d : Int) : Int := if d = 0 then 7 else if 1000000000 < xF n d ∨ 1000000000 < yF n d then 3 else 0
def mkN (n d : Int) : Int := if mkE n d = 0 then numF n d else 0
def mkD (n d : Int) : Int := if mkE n d = 0 then yF n d else 0
def mkV (n d : Int) : Value := .tuple #[.agg #[.int .i64 (mkN n d), .int .i64 (mkD n d)], .int .i64 (mkE n d)]
theorem mk_zero (n : Int) : mkV n 0 = .tuple #[.agg #[.int .i64 0, .int .i64 0], .int .i64 7] := by simp [mkV, mkN, mkD, mkE]
theorem mk_range {n d : Int} (hd : d ≠ 0) (h : 1000000000 < xF n d ∨ 1000000000 < yF n d) : mkV n d = .tuple #[.agg #[.int .i64 0, .int .i64 0], .int .i64 3] := by simp [mkV, mkN, mkD, mkE, hd, h]
theorem mk_ok {n d : Int} (hd : d ≠ 0) (hx : xF n d ≤ 1000000000) (hy : yF n d ≤ 1000000000) : mkV n d = .tuple #[.agg #[.int .i64 (numF n d), .int .i64 (yF n d)], .int .i64 0] := by
  have h : ¬ (1000000000 < xF n d ∨ 1000000000 < yF n d) := by omega
  simp [mkV, mkN, mkD, mkE, hd, h]
def I64 (n : Int) : Prop := -9223372036854775808 ≤ n ∧ n ≤ 9223372036854775807

theorem Make_c (n d : Int) (w : World) (hn : I64 n) (hd : I64 d) : Calls Tryd.prog 31 #[.int .i64 n, .int .i64 d] w (Ret (mkV n d) w) := by
  by_cases h0 : d = 0
  · subst h0
    rw [mk_zero]
    exact Make_fails n 0 7 w (reduced_zero n)
  by_cases hr : 1000000000 < xF n d ∨ 1000000000 < yF n d
  · rw [mk_range h0 hr]
    exact Make_fails n d 3 w (fun w => reduced_range n d w hn.1 hn.2 hd.1 hd.2 h0 hr)
  · rw [mk_ok h0 (by omega) (by omega)]
    exact Make_gives n d _ _ w (fun w => reduced_ok n d w hn.1 hn.2 hd.1 hd.2 h0 (by omega) (by omega))



def vR (n d : Int) : Bool := decide (1 ≤ d ∧ d ≤ 1000000000 ∧ -1000000000 ≤ n ∧ n ≤ 1000000000 ∧ Nat.gcd (absF n) (absF d) = 1)
theorem beq_dec (g : Nat) : ((g : Int) == 1) = decide (g = 1) := by
  rw [Bool.eq_iff_iff]
  simp
  omega

theorem v_ways (n d : Int) : (d < 1 ∧ vR n d = false) ∨ (1 ≤ d ∧ 1000000000 < d ∧ vR n d = false) ∨ (1 ≤ d ∧ d ≤ 1000000000 ∧ n < -1000000000 ∧ vR n d = false) ∨ (1 ≤ d ∧ d ≤ 1000000000 ∧ -1000000000 ≤ n ∧ 1000000000 < n ∧ vR n d = false) ∨
    (1 ≤ d ∧ d ≤ 1000000000 ∧ -1000000000 ≤ n ∧ n ≤ 1000000000 ∧ vR n d = (((Nat.gcd (absF n) (absF d) : Nat) : Int) == 1)) := by
  rw [beq_dec]
  unfold vR
  by_cases h1 : 1 ≤ d
  · by_cases h2 : d ≤ 1000000000
    · by_cases h3 : -1000000000 ≤ n
      · by_cases h4 : n ≤ 1000000000
        · simp [h1, h2, h3, h4]
        · simp [h1, h2, h3, h4]; omega
      · simp [h1, h2, h3]; omega
    · simp [h1, h2]; omega
  · simp [h1]; omega
theorem v_of {n d : Int} (h : vR n d = true) : 1 ≤ d ∧ d ≤ 1000000000 ∧ -1000000000 ≤ n ∧ n ≤ 1000000000 ∧ Nat.gcd (absF n) (absF d) = 1 := by simpa [vR] using h
end Go.Proofs.YtehifkdfbiebfaaDoor
namespace Go.Proofs.YtehifkdfbiebfaaDoor
open Go.RowKit

/-- In lowest terms, whatever the size. -/
def Low (n d : Int) : Prop := 1 ≤ d ∧ Nat.gcd (absF n) (absF d) = 1
theorem abs_mul (a b : Int) : absF (a * b) = absF a * absF b := Int.natAbs_mul a b
theorem low_eq {n d x y : Int} (h : Low n d) (k : Low x y) (e : n * y = x * d) : n = x ∧ d = y := by
  obtain ⟨h1, h2⟩ := h
  obtain ⟨k1, k2⟩ := k
  have e' : absF n * absF y = absF x * absF d := by rw [← abs_mul, ← abs_mul, e]
  have d1 : absF d ∣ absF y := by
    have : absF d ∣ absF n * absF y := ⟨absF x, by rw [e', Nat.mul_comm]⟩
    exact Nat.Coprime.dvd_of_dvd_mul_left (by rw [Nat.coprime_comm]; exact h2) this
  have d2 : absF y ∣ absF d := by
    have : absF y ∣ absF x * absF d := ⟨absF n, by rw [← e', Nat.mul_comm]⟩
    exact Nat.Coprime.dvd_of_dvd_mul_left (by rw [Nat.coprime_comm]; exact k2) this
  have hdy : absF d = absF y := Nat.dvd_antisymm d1 d2
  have hd : d = y := by
    unfold absF at hdy
    omega
  subst hd
  exact ⟨Int.eq_of_mul_eq_mul_right (by omega) e, rfl⟩

theorem num_low {n d : Int} (hd : d ≠ 0) : Low (numF n d) (yF n d) ∧ numF n d * d = n * (yF n d : Int) ∧ absF (numF n d) = xF n d := by
  have hg := gF_pos (n := n) hd
  have hx : absF n = xF n d * gF n d := (Nat.div_mul_cancel (Nat.gcd_dvd_left _ _)).symm
  have hy : absF d = yF n d * gF n d := (Nat.div_mul_cancel (Nat.gcd_dvd_right _ _)).symm
  have hc : Nat.gcd (xF n d) (yF n d) = 1 := Nat.coprime_div_gcd_div_gcd hg
  have hy1 : 1 ≤ yF n d := by
    rcases Nat.eq_zero_or_pos (yF n d) with h0 | h0
    · rw [h0] at hy
      unfold absF at hy
      omega
    · exact h0
  have ha : absF (numF n d) = xF n d := by
    unfold numF absF
    split <;> omega
  refine ⟨⟨by omega, ?_⟩, ?_, ha⟩
  · rw [ha]
    exact hc
  · have hx' : (absF n : Int) = (xF n d : Int) * (gF n d : Int) := by rw [hx]; exact Int.natCast_mul _ _
    have hy' : (absF d : Int) = (yF n d : Int) * (gF n d : Int) := by rw [hy]; exact Int.natCast_mul _ _
    unfold numF
    generalize (xF n d : Int) = x at *
    generalize (yF n d : Int) = y at *
    generalize (gF n d : Int) = g at *
    unfold absF at hx' hy'
    by_cases h1 : n < 0 <;> by_cases h2 : d < 0 <;> simp only [h1, h2, decide_true, decide_false]
    · have e1 : n = -(x * g) := by omega
      have e2 : d = -(y * g) := by omega
      rw [if_neg (by decide)]
      rw [e1, e2]
      grind
    · have e1 : n = -(x * g) := by omega
      have e2 : d = (y * g) := by omega
      rw [if_pos (by decide)]
      rw [e1, e2]
      grind
    · have e1 : n = (x * g) := by omega
      have e2 : d = -(y * g) := by omega
      rw [if_pos (by decide)]
      rw [e1, e2]
      grind
    · have e1 : n = (x * g) := by omega
      have e2 : d = (y * g) := by omega
      rw [if_neg (by decide)]
      rw [e1, e2]
      grind

theorem low_of {n d : Int} (h : vR n d = true) : Low n d := ⟨(v_of h).1, (v_of h).2.2.2.2⟩
theorem v_mk {n d : Int} (h : Low n d) (h1 : d ≤ 1000000000) (h2 : absF n ≤ 1000000000) : vR n d = true := by
  unfold vR
  unfold absF at h2
  exact decide_eq_true ⟨h.1, h1, by omega, by omega, h.2⟩
theorem vR_eq {a b c d : Int} (h : vR a b = true) (k : vR c d = true) (e : a * d = c * b) : a = c ∧ b = d := low_eq (low_of h) (low_of k) e
theorem mk_parts {n d : Int} (h : mkE n d = 0) : d ≠ 0 ∧ xF n d ≤ 1000000000 ∧ yF n d ≤ 1000000000 ∧ mkN n d = numF n d ∧ mkD n d = yF n d := by
  have hn : mkN n d = numF n d := by unfold mkN; rw [if_pos h]
  have hd : mkD n d = yF n d := by unfold mkD; rw [if_pos h]
  unfold mkE at h
  split at h
  · omega
  · rename_i h0
    split at h
    · omega
    · exact ⟨h0, by omega, by omega, hn, hd⟩
/-- What Make returns is a number, and has the value. -/
theorem mk_spec {n d : Int} (h : mkE n d = 0) : d ≠ 0 ∧ vR (mkN n d) (mkD n d) = true ∧ mkN n d * d = n * mkD n d := by
  obtain ⟨h0, h1, h2, h3, h4⟩ := mk_parts h
  obtain ⟨k1, k2, k3⟩ := num_low (n := n) h0
  rw [h3, h4]
  exact ⟨h0, v_mk k1 (by omega) (by omega), k2⟩
/-- Make returns the number that has the value. -/
theorem mk_of {n d x y : Int} (hd : d ≠ 0) (h : vR x y = true) (e : n * y = x * d) : mkE n d = 0 ∧ mkN n d = x ∧ mkD n d = y := by
  obtain ⟨k1, k2, k3⟩ := num_low (n := n) hd
  have he : numF n d * y = x * (yF n d : Int) := by
    apply Int.eq_of_mul_eq_mul_right hd
    calc numF n d * y * d = numF n d * d * y := by rw [Int.mul_right_comm]
      _ = n * (yF n d : Int) * y := by rw [k2]
      _ = n * y * (yF n d : Int) := by rw [Int.mul_right_comm]
      _ = x * d * (yF n d : Int) := by rw [e]
      _ = x * (yF n d : Int) * d := by rw [Int.mul_right_comm]
  obtain ⟨e1, e2⟩ := low_eq k1 (low_of h) he
  obtain ⟨v1, v2, v3, v4, v5⟩ := v_of h
  have hE : mkE n d = 0 := by
    unfold mkE
    rw [if_neg hd, if_neg]
    rw [e1] at k3
    unfold absF at k3
    omega
  refine ⟨hE, ?_, ?_⟩
  · unfold mkN; rw [if_pos hE]; exact e1
  · unfold mkD; rw [if_pos hE]; exact e2
/-- What Make returns goes by the value alone. -/
theorem mk_congr {n d n' d' : Int} (hd : d ≠ 0) (hd' : d' ≠ 0) (e : n * d' = n' * d) : mkE n d = mkE n' d' ∧ mkN n d = mkN n' d' ∧ mkD n d = mkD n' d' := by
  obtain ⟨k1, k2, k3⟩ := num_low (n := n) hd
  obtain ⟨l1, l2, l3⟩ := num_low (n := n') hd'
  have he : numF n d * (yF n' d' : Int) = numF n' d' * (yF n d : Int) := by
    apply Int.eq_of_mul_eq_mul_right hd
    apply Int.eq_of_mul_eq_mul_right hd'
    calc numF n d * (yF n' d' : Int) * d * d' = (numF n d * d) * ((yF n' d' : Int) * d') := by rw [Int.mul_right_comm (numF n d), Int.mul_assoc]
      _ = n * (yF n d : Int) * ((yF n' d' : Int) * d') := by rw [k2]
      _ = (n * d') * ((yF n d : Int) * (yF n' d' : Int)) := by grind
      _ = n' * d * ((yF n d : Int) * (yF n' d' : Int)) := by rw [e]
      _ = (n' * (yF n' d' : Int)) * ((yF n d : Int) * d) := by grind
      _ = (numF n' d' * d') * ((yF n d : Int) * d) := by rw [l2]
      _ = numF n' d' * (yF n d : Int) * d * d' := by grind
  obtain ⟨e1, e2⟩ := low_eq k1 l1 he
  have ex : xF n d = xF n' d' := by rw [← k3, ← l3, e1]
  have ey : yF n d = yF n' d' := by omega
  have hE : mkE n d = mkE n' d' := by
    unfold mkE
    rw [if_neg hd, if_neg hd', ex, ey]
  refine ⟨hE, ?_, ?_⟩
  · unfold mkN; rw [hE, e1]
  · unfold mkD; rw [hE, e2]
end Go.Proofs.YtehifkdfbiebfaaDoor
