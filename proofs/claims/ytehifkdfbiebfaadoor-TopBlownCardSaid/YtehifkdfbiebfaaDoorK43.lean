/- Rational: Make and Valid, and the reference's. -/
import Derived.Test.YtehifkdfbiebfaaDoorK07
namespace Go.Proofs.YtehifkdfbiebfaaDoor
open Go.RowKit

def mkE (n d : Int) : Int := if d = 0 then 7 else if 1000000000 < xF n d ∨ 1000000000 < yF n d then 3 else 0
def mkN (n d : Int) : Int := if mkE n d = 0 then numF n d else 0
def mkD (n d : Int) : Int := if mkE n d = 0 then yF n d else 0
def mkV (n d : Int) : Value := .tuple #[.agg #[.int .i64 (mkN n d), .int .i64 (mkD n d)], .int .i64 (mkE n d)]
theorem mk_zero (n : Int) : mkV n 0 = .tuple #[.agg #[.int .i64 0, .int .i64 0], .int .i64 7] := by simp [mkV, mkN, mkD, mkE]
theorem mk_range {n d : Int} (hd : d ≠ 0) (h : 1000000000 < xF n d ∨ 1000000000 < yF n d) : mkV n d = .tuple #[.agg #[.int .i64 0, .int .i64 0], .int .i64 3] := by simp [mkV, mkN, mkD, mkE, hd, h]
theorem mk_ok {n d : Int} (hd : d ≠ 0) (hx : xF n d ≤ 1000000000) (hy : yF n d ≤ 1000000000) : mkV n d = .tuple #[.agg #[.int .i64 (numF n d), .int .i64 (yF n d)], .int .i64 0] := by
  have h : ¬ (1000000000 < xF n d ∨ 1000000000 < yF n d) := by omega
  simp [mkV, mkN, mkD, mkE, hd, h]
def I64 (n : Int) : Prop := -9223372036854775808 ≤ n ∧ n ≤ 9223372036854775807

theorem Make_c (n d : Int) (w : World) (hn : I64 n) (hd : I64 d) : Calls Tryd.prog 31 #[.int .i64 n, .int .i64 d] w (Ret (mkV n d) w) := by
  by_cases h0 : d = 0
  · subst h0
    rw [mk_zero]
    exact Make_fails n 0 7 w (reduced_zero n)
  by_cases hr : 1000000000 < xF n d ∨ 1000000000 < yF n d
  · rw [mk_range h0 hr]
    exact Make_fails n d 3 w (fun w => reduced_range n d w hn.1 hn.2 hd.1 hd.2 h0 hr)
  · rw [mk_ok h0 (by omega) (by omega)]
    exact Make_gives n d _ _ w (fun w => reduced_ok n d w hn.1 hn.2 hd.1 hd.2 h0 (by omega) (by omega))



def vR (n d : Int) : Bool := decide (1 ≤ d ∧ d ≤ 1000000000 ∧ -1000000000 ≤ n ∧ n ≤ 1000000000 ∧ Nat.gcd (absF n) (absF d) = 1)
theorem beq_dec (g : Nat) : ((g : Int) == 1) = decide (g = 1) := by
  rw [Bool.eq_iff_iff]
  simp
  omega

theorem v_ways (n d : Int) : (d < 1 ∧ vR n d = false) ∨ (1 ≤ d ∧ 1000000000 < d ∧ vR n d = false) ∨ (1 ≤ d ∧ d ≤ 1000000000 ∧ n < -1000000000 ∧ vR n d = false) ∨ (1 ≤ d ∧ d ≤ 1000000000 ∧ -1000000000 ≤ n ∧ 1000000000 < n ∧ vR n d = false) ∨
    (1 ≤ d ∧ d ≤ 1000000000 ∧ -1000000000 ≤ n ∧ n ≤ 1000000000 ∧ vR n d = (((Nat.gcd (absF n) (absF d) : Nat) : Int) == 1)) := by
  rw [beq_dec]
  unfold vR
  by_cases h1 : 1 ≤ d
  · by_cases h2 : d ≤ 1000000000
    · by_cases h3 : -1000000000 ≤ n
      · by_cases h4 : n ≤ 1000000000
        · simp [h1, h2, h3, h4]
        · simp [h1, h2, h3, h4]; omega
      · simp [h1, h2, h3]; omega
    · simp [h1, h2]; omega
  · simp [h1]; omega
theorem v_of {n d : Int} (h : vR n d = true) : 1 ≤ d ∧ d ≤ 1000000000 ∧ -1000000000 ≤ n ∧ n ≤ 1000000000 ∧ Nat.gcd (absF n) (absF d) = 1 := by simpa [vR] using h
end Go.Proofs.YtehifkdfbiebfaaDoor
