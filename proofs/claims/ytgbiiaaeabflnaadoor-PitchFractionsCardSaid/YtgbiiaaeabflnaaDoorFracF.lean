/- PitchFractions: the plain law. -/
import Derived.Test.YtgbiiaaeabflnaaDoorPitR
import Derived.Test.YtgbiiaaeabflnaaDoorPitL
namespace Go.Proofs.YtgbiiaaeabflnaaDoor
open Go Go.RowKit

def prH8 (i : Nat) : Nat := [1 * 48, 2 * 48, 3 * 48, 3 * 48, 4 * 48, 4 * 48].getD i 0
theorem sg_le8 {s a b c d e f : Int} (hs : s = 1 ∨ s = -1) (hp : pV a b c d e f 48 = true) : ∀ i, i < 6 → pwF (prm i) (sgE s a b c d e f i) ≤ 2 ^ prH8 i := by
  intro i hi
  have hb : sgE s a b c d e f i ≤ 48 := by
    obtain ⟨h1, h2, h3, h4, h5, h6⟩ := pV_of hp
    have hx : -48 ≤ pex a b c d e f i ∧ pex a b c d e f i ≤ 48 := by
      rcases lt6 hi with rfl | rfl | rfl | rfl | rfl | rfl
      · exact wi_of h1
      · exact wi_of h2
      · exact wi_of h3
      · exact wi_of h4
      · exact wi_of h5
      · exact wi_of h6
    unfold sgE
    rcases hs with rfl | rfl <;> omega
  generalize sgE s a b c d e f i = g at *
  rcases lt6 hi with rfl | rfl | rfl | rfl | rfl | rfl
  · exact pwF_le2 (k := prH8 0) (b := 2) (c := 1) (E := 48) (by decide) (by omega) rfl
  · exact pwF_le2 (k := prH8 1) (b := 3) (c := 2) (E := 48) (by decide) (by omega) rfl
  · exact pwF_le2 (k := prH8 2) (b := 5) (c := 3) (E := 48) (by decide) (by omega) rfl
  · exact pwF_le2 (k := prH8 3) (b := 7) (c := 3) (E := 48) (by decide) (by omega) rfl
  · exact pwF_le2 (k := prH8 4) (b := 11) (c := 4) (E := 48) (by decide) (by omega) rfl
  · exact pwF_le2 (k := prH8 5) (b := 13) (c := 4) (E := 48) (by decide) (by omega) rfl
theorem up_le8 {a b c d e f : Int} (hp : pV a b c d e f 48 = true) : upN a b c d e f ≤ 2 ^ 816 := by
  have := prodF_le (sg_le8 (Or.inl rfl) hp) 6 (Nat.le_refl _)
  rw [show sumF prH8 6 = 816 from rfl] at this
  exact this
theorem dn_le8 {a b c d e f : Int} (hp : pV a b c d e f 48 = true) : dnN a b c d e f ≤ 2 ^ 816 := by
  have := prodF_le (sg_le8 (Or.inr rfl) hp) 6 (Nat.le_refl _)
  rw [show sumF prH8 6 = 816 from rfl] at this
  exact this
theorem mul_capk {x y k : Nat} (hx : x ≤ 2 ^ k) (hy : y ≤ 2 ^ k) (hk : k + k < 20480) : x * y < Cap :=
  lt_big (k := k + k) (by rw [Nat.pow_add]; exact Nat.mul_le_mul hx hy) hk
theorem mul_cap8 {x y : Nat} (hx : x ≤ 2 ^ 816) (hy : y ≤ 2 ^ 816) : x * y < Cap := mul_capk hx hy (by decide)
theorem pw_min (P α β : Nat) : P ^ α = P ^ (min α β) * pwF P ((α : Int) - (β : Int)) ∧ P ^ β = P ^ (min α β) * pwF P (-((α : Int) - (β : Int))) := by
  rw [pwF_toNat, pwF_toNat, ← Nat.pow_add, ← Nat.pow_add]
  constructor
  · congr 1; omega
  · congr 1; omega
theorem ratio_spec {n d : Nat} (hn : 1 ≤ n) (hd : 1 ≤ d) : ∀ k, k ≤ 6 → ∃ m, n = chN n k * (m * prodF prm (raE3 n d) k) ∧ d = chN d k * (m * prodF prm (fun i => -raE3 n d i) k)
  | 0, _ => ⟨1, by simp [chN, prodF], by simp [chN, prodF]⟩
  | k + 1, hk => by
    obtain ⟨m, h1, h2⟩ := ratio_spec hn hd k (by omega)
    have hp := (prm_pos (show k < 6 by omega)).1
    have g1 := (val_spec hp (chN_pos hn k (by omega)).1).1
    have g2 := (val_spec hp (chN_pos hd k (by omega)).1).1
    obtain ⟨p1, p2⟩ := pw_min (prm k) (val (prm k) (chN n k)) (val (prm k) (chN d k))
    refine ⟨m * prm k ^ min (val (prm k) (chN n k)) (val (prm k) (chN d k)), ?_, ?_⟩
    · show n = cof (prm k) (chN n k) * (_ * (prodF prm (raE3 n d) k * pwF (prm k) ((val (prm k) (chN n k) : Int) - (val (prm k) (chN d k) : Int))))
      rw [p1] at g1
      generalize cof (prm k) (chN n k) = c at *
      generalize prm k ^ min (val (prm k) (chN n k)) (val (prm k) (chN d k)) = u at *
      generalize pwF (prm k) ((val (prm k) (chN n k) : Int) - (val (prm k) (chN d k) : Int)) = v at *
      generalize prodF prm (raE3 n d) k = t at *
      generalize chN n k = y at *
      rw [h1, g1]
      grind
    · show d = cof (prm k) (chN d k) * (_ * (prodF prm (fun i => -raE3 n d i) k * pwF (prm k) (-((val (prm k) (chN n k) : Int) - (val (prm k) (chN d k) : Int)))))
      rw [p2] at g2
      generalize cof (prm k) (chN d k) = c at *
      generalize prm k ^ min (val (prm k) (chN n k)) (val (prm k) (chN d k)) = u at *
      generalize pwF (prm k) (-((val (prm k) (chN n k) : Int) - (val (prm k) (chN d k) : Int))) = v at *
      generalize prodF prm (fun i => -raE3 n d i) k = t at *
      generalize chN d k = y at *
      rw [h2, g2]
      grind
theorem prod_pex (f : Nat → Nat) (E : Nat → Int) : prodF f (pex (E 0) (E 1) (E 2) (E 3) (E 4) (E 5)) 6 = prodF f E 6 := rfl
theorem prod_nex (f : Nat → Nat) (E : Nat → Int) : prodF f (fun i => -pex (E 0) (E 1) (E 2) (E 3) (E 4) (E 5) i) 6 = prodF f (fun i => -E i) 6 := rfl
theorem ra_bd {n d : Nat} (hn : 1 ≤ n) (hn2 : n ≤ 1000000000) (hd : 1 ≤ d) (hd2 : d ≤ 1000000000) {i : Nat} (hi : i < 6) : wi (raE3 n d i) 48 = true := by
  have hp := (prm_pos hi).1
  obtain ⟨c1, c2⟩ := chN_pos hn i (by omega)
  obtain ⟨c3, c4⟩ := chN_pos hd i (by omega)
  have v1 := val_lt (m := 30) hp c1 (by omega)
  have v2 := val_lt (m := 30) hp c3 (by omega)
  unfold raE3
  exact wi_mk (by omega) (by omega)
/-- What Ratio returns, with what its fraction is. -/
theorem ra_frac (n d : Int) : ∃ a b c p q r e : Int, raP n d = .tuple #[.agg #[.int .i64 a, .int .i64 b, .int .i64 c, .int .i64 p, .int .i64 q, .int .i64 r], .int .i64 e] ∧
    (e = 0 → pV a b c p q r 48 = true ∧ ∃ N D : Nat, n = (N : Int) ∧ d = (D : Int) ∧ 1 ≤ N ∧ N ≤ 1000000000 ∧ 1 ≤ D ∧ D ≤ 1000000000 ∧ upN a b c p q r ≤ N ∧ dnN a b c p q r ≤ D ∧ upN a b c p q r * D = dnN a b c p q r * N ∧ N % upN a b c p q r = 0) := by
  unfold raP
  cases hG : rtG n d with
  | false => exact ⟨0, 0, 0, 0, 0, 0, 1, by simp, fun h => by cases h⟩
  | true =>
    obtain ⟨h1, h2, h3, h4⟩ := rtG_of hG
    rw [if_pos rfl]
    by_cases hc : chN n.toNat 6 = chN d.toNat 6
    · rw [if_pos hc]
      obtain ⟨N, rfl⟩ : ∃ N : Nat, n = (N : Int) := ⟨n.toNat, by omega⟩
      obtain ⟨D, rfl⟩ : ∃ D : Nat, d = (D : Int) := ⟨d.toNat, by omega⟩
      rw [Int.toNat_natCast, Int.toNat_natCast] at *
      refine ⟨_, _, _, _, _, _, 0, rfl, fun _ => ⟨?_, N, D, rfl, rfl, by omega, by omega, by omega, by omega, ?_⟩⟩
      · unfold pV
        rw [ra_bd (by omega) (by omega) (by omega) (by omega) (by omega), ra_bd (by omega) (by omega) (by omega) (by omega) (by omega), ra_bd (by omega) (by omega) (by omega) (by omega) (by omega), ra_bd (by omega) (by omega) (by omega) (by omega) (by omega), ra_bd (by omega) (by omega) (by omega) (by omega) (by omega), ra_bd (by omega) (by omega) (by omega) (by omega) (by omega)]
        rfl
      · obtain ⟨m, g1, g2⟩ := ratio_spec (n := N) (d := D) (by omega) (by omega) 6 (Nat.le_refl _)
        have c1 := (chN_pos (n := N) (by omega) 6 (Nat.le_refl _)).1
        have u0 := up_pos (raE3 N D 0) (raE3 N D 1) (raE3 N D 2) (raE3 N D 3) (raE3 N D 4) (raE3 N D 5)
        have d0 := dn_pos (raE3 N D 0) (raE3 N D 1) (raE3 N D 2) (raE3 N D 3) (raE3 N D 4) (raE3 N D 5)
        have eu : upN (raE3 N D 0) (raE3 N D 1) (raE3 N D 2) (raE3 N D 3) (raE3 N D 4) (raE3 N D 5) = prodF prm (raE3 N D) 6 := by
          unfold upN
          rw [sgE_one, prod_pex]
        have ed : dnN (raE3 N D 0) (raE3 N D 1) (raE3 N D 2) (raE3 N D 3) (raE3 N D 4) (raE3 N D 5) = prodF prm (fun i => -raE3 N D i) 6 := by
          unfold dnN
          rw [sgE_neg, prod_nex]
        rw [← eu] at g1
        rw [← ed, ← hc] at g2
        generalize upN (raE3 N D 0) (raE3 N D 1) (raE3 N D 2) (raE3 N D 3) (raE3 N D 4) (raE3 N D 5) = U at *
        generalize dnN (raE3 N D 0) (raE3 N D 1) (raE3 N D 2) (raE3 N D 3) (raE3 N D 4) (raE3 N D 5) = V at *
        generalize chN N 6 = c at *
        clear eu ed hc
        have m1 : 1 ≤ m := by
          rcases Nat.eq_zero_or_pos m with h | h
          · rw [h] at g1; simp at g1; omega
          · exact h
        have k1 : 1 ≤ c * m := Nat.mul_pos c1 m1
        have f1 : N = c * m * U := by rw [Nat.mul_assoc]; exact g1
        have f2 : D = c * m * V := by rw [Nat.mul_assoc]; exact g2
        refine ⟨?_, ?_, ?_, ?_⟩
        · rw [f1]; exact Nat.le_mul_of_pos_left _ k1
        · rw [f2]; exact Nat.le_mul_of_pos_left _ k1
        · rw [f1, f2]; generalize c * m = t; grind
        · rw [f1]; exact Nat.mul_mod_left _ _
    · rw [if_neg hc]
      exact ⟨0, 0, 0, 0, 0, 0, 9, by simp, fun h => by cases h⟩
end Go.Proofs.YtgbiiaaeabflnaaDoor
