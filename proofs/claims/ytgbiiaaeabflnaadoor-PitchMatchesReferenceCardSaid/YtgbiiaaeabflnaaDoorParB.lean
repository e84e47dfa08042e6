/- Pitch: what Parse computes. -/
import Derived.Test.YtgbiiaaeabflnaaDoorParA
namespace Go.Proofs.YtgbiiaaeabflnaaDoor
open Go Go.RowKit

/-- A term: its prime, its exponent over a number, the rest. -/
def stQ (l : List UInt8) : Nat := numN 3 0 l
def stX (l : List UInt8) : Bool := cutB 94 (numR 3 l)
def stL (l : List UInt8) : List UInt8 := cutR 94 (numR 3 l)
def stM (l : List UInt8) : Bool := cutB 45 (stL l)
def stL3 (l : List UInt8) : List UInt8 := cutR 45 (stL l)
def stL4 (l : List UInt8) : List UInt8 := numR 3 (stL3 l)
def stE (l : List UInt8) : Int := if stX l then (if stM l then -(numN 3 0 (stL3 l) : Int) else (numN 3 0 (stL3 l) : Int)) else 1
def stD (l : List UInt8) : Int := if stX l then (if cutB 47 (stL4 l) then (numN 3 0 (cutR 47 (stL4 l)) : Int) else 1) else 1
def stR (l : List UInt8) : List UInt8 := if stX l then (if cutB 47 (stL4 l) then numR 3 (cutR 47 (stL4 l)) else cutR 47 (stL4 l)) else stL l
theorem stL_len (l : List UInt8) : (stL l).length ≤ l.length := Nat.le_trans (cutR_len _ _) (numR_len _ _)
theorem stL3_len (l : List UInt8) : (stL3 l).length ≤ l.length := Nat.le_trans (cutR_len _ _) (stL_len l)
theorem stL4_len (l : List UInt8) : (stL4 l).length ≤ l.length := Nat.le_trans (numR_len _ _) (stL3_len l)
theorem stR_len (l : List UInt8) : (stR l).length ≤ l.length := by
  unfold stR
  split
  · split
    · exact Nat.le_trans (numR_len _ _) (Nat.le_trans (cutR_len _ _) (stL4_len l))
    · exact Nat.le_trans (cutR_len _ _) (stL4_len l)
  · exact stL_len l
theorem num_le (l : List UInt8) : numN 3 0 l ≤ 1000 := numN_le 3 0 l
theorem stE_bd (l : List UInt8) : -1000 ≤ stE l ∧ stE l ≤ 1000 := by
  have := num_le (stL3 l)
  unfold stE
  split
  · split <;> omega
  · omega
theorem stD_bd (l : List UInt8) : 0 ≤ stD l ∧ stD l ≤ 1000 := by
  have := num_le (cutR 47 (stL4 l))
  unfold stD
  split
  · split <;> omega
  · omega
def stOK (l : List UInt8) : Bool := decide (1 ≤ stD l) && decide ((stE l * 12).tmod (stD l) = 0)
def stV (l : List UInt8) : Int := (stE l * 12).tdiv (stD l)
/-- The exponents, the first k primes looked at. -/
def stU (l : List UInt8) (E : Nat → Int) (k : Nat) : Nat → Int := fun i => if i < k ∧ prm i = stQ l then stV l else E i
theorem stU_zero (l : List UInt8) (E : Nat → Int) : stU l E 0 = E := by
  funext i
  unfold stU
  rw [if_neg (by omega)]
theorem stU_yes {l : List UInt8} {E : Nat → Int} {k : Nat} (h : prm k = stQ l) : upd6 (stU l E k) k (stV l) = stU l E (k + 1) := by
  funext i
  unfold upd6 stU
  by_cases e : i = k
  · subst e
    rw [if_pos rfl, if_pos ⟨by omega, h⟩]
  · rw [if_neg e]
    by_cases g : i < k ∧ prm i = stQ l
    · rw [if_pos g, if_pos ⟨by omega, g.2⟩]
    · rw [if_neg g, if_neg (fun hh => g ⟨by omega, hh.2⟩)]
theorem stU_no {l : List UInt8} {E : Nat → Int} {k : Nat} (h : ¬ prm k = stQ l) : stU l E (k + 1) = stU l E k := by
  funext i
  unfold stU
  by_cases g : i < k ∧ prm i = stQ l
  · rw [if_pos g, if_pos ⟨by omega, g.2⟩]
  · rw [if_neg g, if_neg (fun hh => by
      by_cases e : i = k
      · subst e; exact h hh.2
      · exact g ⟨by omega, hh.2⟩)]
/-- What the loop of Parse leaves. -/
def parF : Nat → List UInt8 → (Nat → Int) → Option (Nat → Int)
  | 0, _, _ => none
  | f + 1, l, E => if stOK l then (if cutB 42 (stR l) then parF f (cutR 42 (stR l)) (stU l E 6) else some (stU l E 6)) else none
def par (l : List UInt8) : Option (Nat → Int) := parF (l.length + 1) l (fun _ => 0)
def parOK (l : List UInt8) (E : Nat → Int) : Bool := pV (E 0) (E 1) (E 2) (E 3) (E 4) (E 5) 576 && decide (textB (pex (E 0) (E 1) (E 2) (E 3) (E 4) (E 5)) = l)
def zP : Value := .tuple #[.agg #[.int .i64 0, .int .i64 0, .int .i64 0, .int .i64 0, .int .i64 0, .int .i64 0], .int .i64 8]
/-- What Parse returns. -/
def parV (l : List UInt8) : Value := match par l with
  | none => zP
  | some E => if parOK l E then .tuple #[.agg (cell6 E), .int .i64 0] else zP
theorem stV_bd (l : List UInt8) : -12000 ≤ stV l ∧ stV l ≤ 12000 := by
  have := stE_bd l
  have h1 : ((stE l * 12).tdiv (stD l)).natAbs ≤ (stE l * 12).natAbs := by rw [Int.natAbs_tdiv]; exact Nat.div_le_self _ _
  unfold stV
  omega
end Go.Proofs.YtgbiiaaeabflnaaDoor
