/- Horns: the plain laws of the best blow. -/
import Derived.Test.YtehifkdfbiebfaaDoorK39
import Derived.Test.YtehifkdfbiebfaaDoorK40
namespace Go.Proofs.YtehifkdfbiebfaaDoor
open Go Go.RowKit

def lgLn (i : Nat) : Nat := [1000000000, 1584962500, 2321928094, 2807354922, 3459431618, 3700439718].getD i 0
def lgHn (i : Nat) : Nat := [1000000000, 1584962501, 2321928095, 2807354923, 3459431619, 3700439719].getD i 0
theorem lgLn_eq {i : Nat} (h : i < 6) : (lgLn i : Int) = lgL i := by
  rcases lt6 h with rfl | rfl | rfl | rfl | rfl | rfl <;> rfl
theorem lgHn_eq {i : Nat} (h : i < 6) : (lgHn i : Int) = lgH i := by
  rcases lt6 h with rfl | rfl | rfl | rfl | rfl | rfl <;> rfl
theorem log_all : ∃ N : Nat, N ≠ 0 ∧ ∀ i, i < 6 → 2 ^ lgLn i ≤ prm i ^ N ∧ prm i ^ N ≤ 2 ^ lgHn i := by
  obtain ⟨N, hN⟩ : ∃ N : Nat, N = 1000000000 := ⟨_, rfl⟩
  refine ⟨N, by omega, fun i hi => ?_⟩
  have e0 : lgLn 0 = N := by rw [hN]; rfl
  have e1 : lgHn 0 = N := by rw [hN]; rfl
  rcases lt6 hi with rfl | rfl | rfl | rfl | rfl | rfl
  · rw [e0, e1]
    exact ⟨Nat.le_refl _, Nat.le_refl _⟩
  · exact logB_spec (p := 3) (k := N) (a := lgLn 1) (b := lgHn 1) (by rw [hN]; exact log3)
  · exact logB_spec (p := 5) (k := N) (a := lgLn 2) (b := lgHn 2) (by rw [hN]; exact log5)
  · exact logB_spec (p := 7) (k := N) (a := lgLn 3) (b := lgHn 3) (by rw [hN]; exact log7)
  · exact logB_spec (p := 11) (k := N) (a := lgLn 4) (b := lgHn 4) (by rw [hN]; exact log11)
  · exact logB_spec (p := 13) (k := N) (a := lgLn 5) (b := lgHn 5) (by rw [hN]; exact log13)
/-- A sum over the positive exponents. -/
def spF (q : Nat → Nat) (f : Nat → Int) : Nat → Nat
  | 0 => 0
  | k + 1 => spF q f k + (f k).toNat * q k
theorem prod_up {N : Nat} {q : Nat → Nat} {f : Nat → Int} : ∀ k, (∀ i, i < k → prm i ^ N ≤ 2 ^ q i) → prodF prm f k ^ N ≤ 2 ^ spF q f k
  | 0, _ => by simp [prodF, spF]
  | k + 1, h => by
    show (prodF prm f k * pwF (prm k) (f k)) ^ N ≤ 2 ^ (spF q f k + (f k).toNat * q k)
    rw [pwF_toNat, Nat.mul_pow, Nat.pow_add]
    refine Nat.mul_le_mul (prod_up k (fun i hi => h i (by omega))) ?_
    rw [← Nat.pow_mul, Nat.mul_comm, Nat.pow_mul, Nat.mul_comm (f k).toNat, Nat.pow_mul]
    exact Nat.pow_le_pow_left (h k (by omega)) _
theorem prod_dn {N : Nat} {q : Nat → Nat} {f : Nat → Int} : ∀ k, (∀ i, i < k → 2 ^ q i ≤ prm i ^ N) → 2 ^ spF q f k ≤ prodF prm f k ^ N
  | 0, _ => by simp [prodF, spF]
  | k + 1, h => by
    show 2 ^ (spF q f k + (f k).toNat * q k) ≤ (prodF prm f k * pwF (prm k) (f k)) ^ N
    rw [pwF_toNat, Nat.mul_pow, Nat.pow_add]
    refine Nat.mul_le_mul (prod_dn k (fun i hi => h i (by omega))) ?_
    have e1 : 2 ^ ((f k).toNat * q k) = (2 ^ q k) ^ (f k).toNat := by rw [Nat.mul_comm, Nat.pow_mul]
    have e2 : (prm k ^ (f k).toNat) ^ N = (prm k ^ N) ^ (f k).toNat := by rw [← Nat.pow_mul, ← Nat.pow_mul, Nat.mul_comm]
    rw [e1, e2]
    exact Nat.pow_le_pow_left (h k (by omega)) _
theorem szH_parts (f : Nat → Int) : ∀ k, k ≤ 6 → szH f k = (spF lgHn f k : Int) - (spF lgLn (fun i => -f i) k : Int)
  | 0, _ => rfl
  | k + 1, hk => by
    have ih := szH_parts f k (by omega)
    have e1 := lgLn_eq (show k < 6 by omega)
    have e2 := lgHn_eq (show k < 6 by omega)
    show szH f k + f k * (if f k < 0 then lgL k else lgH k) = ((spF lgHn f k + (f k).toNat * lgHn k : Nat) : Int) - ((spF lgLn (fun i => -f i) k + (-f k).toNat * lgLn k : Nat) : Int)
    rw [ih, ← e1, ← e2]
    push_cast
    by_cases h : f k < 0
    · rw [if_pos h]
      have h1 : ((f k).toNat : Int) = 0 := by omega
      have h2 : ((-f k).toNat : Int) = -f k := by omega
      rw [h1, h2]
      generalize (lgLn k : Int) = y
      generalize f k = x
      grind
    · rw [if_neg h]
      have h1 : ((f k).toNat : Int) = f k := by omega
      have h2 : ((-f k).toNat : Int) = 0 := by omega
      rw [h1, h2]
      generalize (lgHn k : Int) = y
      generalize f k = x
      grind
theorem szL_neg (f : Nat → Int) : ∀ k, szL (fun i => -f i) k = -szH f k
  | 0 => rfl
  | k + 1 => by
    show szL (fun i => -f i) k + -f k * (if -f k < 0 then lgH k else lgL k) = -(szH f k + f k * (if f k < 0 then lgL k else lgH k))
    rw [szL_neg f k]
    by_cases h : f k = 0
    · rw [h]; simp
    · by_cases h2 : f k < 0
      · rw [if_pos h2, if_neg (by omega)]
        grind
      · rw [if_neg h2, if_pos (by omega)]
        grind
theorem szH_neg (f : Nat → Int) (k : Nat) : szH (fun i => -f i) k = -szL f k := by
  have h := szL_neg (fun i => -f i) k
  rw [show (fun i => - -f i) = f from funext fun i => Int.neg_neg _] at h
  omega
/-- At least 1: the size does not end below 0. -/
theorem szH_pos {f : Nat → Int} (h : dnN (f 0) (f 1) (f 2) (f 3) (f 4) (f 5) ≤ upN (f 0) (f 1) (f 2) (f 3) (f 4) (f 5)) : 0 ≤ szH f 6 := by
  obtain ⟨N, hN, hl⟩ := log_all
  have hx : ∀ i, i < 6 → pex (f 0) (f 1) (f 2) (f 3) (f 4) (f 5) i = f i := fun i hi => by
    rcases lt6 hi with rfl | rfl | rfl | rfl | rfl | rfl <;> rfl
  have e1 : upN (f 0) (f 1) (f 2) (f 3) (f 4) (f 5) = prodF prm f 6 := by
    unfold upN
    rw [sgE_one]
    have := prodF_mul (fb := prm) (fe := f) (ge := pex (f 0) (f 1) (f 2) (f 3) (f 4) (f 5)) (k := 1) 6 (fun i hi => by rw [hx i hi]; exact (Int.mul_one _).symm)
    rw [this, Nat.pow_one]
  have e2 : dnN (f 0) (f 1) (f 2) (f 3) (f 4) (f 5) = prodF prm (fun i => -f i) 6 := by
    unfold dnN
    rw [sgE_neg]
    have := prodF_mul (fb := prm) (fe := fun i => -f i) (ge := fun i => -pex (f 0) (f 1) (f 2) (f 3) (f 4) (f 5) i) (k := 1) 6 (fun i hi => by simp only [hx i hi]; exact (Int.mul_one _).symm)
    rw [this, Nat.pow_one]
  rw [e1, e2] at h
  have h1 := prod_up (f := f) 6 (fun i hi => (hl i hi).2)
  have h2 := prod_dn (f := fun i => -f i) 6 (fun i hi => (hl i hi).1)
  have h3 := Nat.le_trans h2 (Nat.le_trans (Nat.pow_le_pow_left h N) h1)
  have h4 : spF lgLn (fun i => -f i) 6 ≤ spF lgHn f 6 := (Nat.pow_le_pow_iff_right (by omega)).1 h3
  rw [szH_parts f 6 (Nat.le_refl _)]
  omega
/-- The size of a quotient lies within the difference of the sizes. -/
theorem szH_sub (f g : Nat → Int) : ∀ k, k ≤ 6 → szH (fun i => f i - g i) k ≤ szH f k - szL g k
  | 0, _ => by
    show (0 : Int) ≤ 0 - 0
    omega
  | k + 1, hk => by
    have ih := szH_sub f g k (by omega)
    have hb := lg_bd k
    show szH (fun i => f i - g i) k + (f k - g k) * (if f k - g k < 0 then lgL k else lgH k) ≤ szH f k + f k * (if f k < 0 then lgL k else lgH k) - (szL g k + g k * (if g k < 0 then lgH k else lgL k))
    have key : (f k - g k) * (if f k - g k < 0 then lgL k else lgH k) ≤ f k * (if f k < 0 then lgL k else lgH k) - g k * (if g k < 0 then lgH k else lgL k) := by
      have hab : lgL k ≤ lgH k := hb.2.1
      generalize f k = x
      generalize g k = y
      generalize lgL k = a at *
      generalize lgH k = b at *
      obtain ⟨d, rfl⟩ : ∃ d, b = a + d := ⟨b - a, by omega⟩
      have hd : 0 ≤ d := by omega
      by_cases h1 : x < 0 <;> by_cases h2 : y < 0 <;> by_cases h3 : x - y < 0 <;> simp only [h1, h2, h3, if_true, if_false] <;> first
        | omega
        | (have e1 := Int.mul_nonneg hd (show 0 ≤ -x by omega); have e2 := Int.mul_nonneg hd (show 0 ≤ -y by omega); have e3 := Int.mul_nonneg hd (show 0 ≤ y - x by omega); grind)
        | (have e1 := Int.mul_nonneg hd (show 0 ≤ -x by omega); have e2 := Int.mul_nonneg hd (show 0 ≤ -y by omega); have e3 := Int.mul_nonneg hd (show 0 ≤ x - y by omega); grind)
        | (have e1 := Int.mul_nonneg hd (show 0 ≤ -x by omega); have e2 := Int.mul_nonneg hd (show 0 ≤ y by omega); have e3 := Int.mul_nonneg hd (show 0 ≤ y - x by omega); grind)
        | (have e1 := Int.mul_nonneg hd (show 0 ≤ x by omega); have e2 := Int.mul_nonneg hd (show 0 ≤ -y by omega); have e3 := Int.mul_nonneg hd (show 0 ≤ x - y by omega); grind)
        | (have e1 := Int.mul_nonneg hd (show 0 ≤ x by omega); have e2 := Int.mul_nonneg hd (show 0 ≤ y by omega); have e3 := Int.mul_nonneg hd (show 0 ≤ x - y by omega); grind)
        | (have e1 := Int.mul_nonneg hd (show 0 ≤ x by omega); have e2 := Int.mul_nonneg hd (show 0 ≤ y by omega); have e3 := Int.mul_nonneg hd (show 0 ≤ y - x by omega); grind)
    omega
/-- The least and the greatest absolute value of the numbers of a size. -/
def farA (l h : Int) : Int := if l ≤ 0 ∧ 0 ≤ h then 0 else max l (-h)
def farB (l h : Int) : Int := max h (-l)
theorem pc_same {a b : Nat → Int} (h : gpG a b = true) : pcE6 a b = 0 ∧ pcN6 a b = cmP (a 0) (a 1) (a 2) (a 3) (a 4) (a 5) (b 0) (b 1) (b 2) (b 3) (b 4) (b 5) := by
  have hc : cbG (a 0) (a 1) (a 2) (a 3) (a 4) (a 5) (b 0) (b 1) (b 2) (b 3) (b 4) (b 5) = true := h
  unfold pcE6 pcN6 pcE pcN
  rw [hc]
  exact ⟨rfl, rfl⟩
theorem cm_pos {f g : Nat → Int} (h : 0 ≤ cmP (f 0) (f 1) (f 2) (f 3) (f 4) (f 5) (g 0) (g 1) (g 2) (g 3) (g 4) (g 5)) : 0 ≤ szH (fun i => f i - g i) 6 := by
  refine szH_pos (f := fun i => f i - g i) ?_
  unfold cmP at h
  rcases ordZ_ways ((upN (f 0 - g 0) (f 1 - g 1) (f 2 - g 2) (f 3 - g 3) (f 4 - g 4) (f 5 - g 5) : Nat) : Int) ((dnN (f 0 - g 0) (f 1 - g 1) (f 2 - g 2) (f 3 - g 3) (f 4 - g 4) (f 5 - g 5) : Nat) : Int) with ⟨_, e⟩ | ⟨e, _⟩ | ⟨e, _⟩
  · omega
  · show dnN (f 0 - g 0) (f 1 - g 1) (f 2 - g 2) (f 3 - g 3) (f 4 - g 4) (f 5 - g 5) ≤ upN (f 0 - g 0) (f 1 - g 1) (f 2 - g 2) (f 3 - g 3) (f 4 - g 4) (f 5 - g 5)
    omega
  · show dnN (f 0 - g 0) (f 1 - g 1) (f 2 - g 2) (f 3 - g 3) (f 4 - g 4) (f 5 - g 5) ≤ upN (f 0 - g 0) (f 1 - g 1) (f 2 - g 2) (f 3 - g 3) (f 4 - g 4) (f 5 - g 5)
    omega
theorem dv_ok {a b : Nat → Int} (h : dvE a b = 0) : gpG a b = true ∧ (∀ i, dvF a b i = a i - b i) ∧ pV6 (dvF a b) 576 = true := by
  have h0 := h
  unfold dvE cbE at h
  cases hc : cbG (a 0) (a 1) (a 2) (a 3) (a 4) (a 5) (b 0) (b 1) (b 2) (b 3) (b 4) (b 5)
  · rw [hc] at h; simp at h
  · rw [hc] at h
    cases hs : cbS (-1) (a 0) (a 1) (a 2) (a 3) (a 4) (a 5) (b 0) (b 1) (b 2) (b 3) (b 4) (b 5)
    · rw [hs] at h; simp at h
    · have e : ∀ i, dvF a b i = a i - b i := fun i => by
        unfold dvF cb
        rw [if_pos h0]
        omega
      refine ⟨hc, e, ?_⟩
      unfold pV6
      rw [e, e, e, e, e, e]
      unfold cbS at hs
      rw [← hs]
      congr 1 <;> omega
/-- The distance: the quotient or its inverse, whichever is at least 1. -/
theorem ds_ok {s a : Nat → Int} (h : dsE s a = 0) : gpG a s = true ∧ gpG s a = true ∧ pV6 (dsF s a) 576 = true ∧ 0 ≤ szH (dsF s a) 6 ∧ ((∀ i, dsF s a i = a i - s i) ∨ (∀ i, dsF s a i = s i - a i)) := by
  unfold dsE at h
  by_cases hs : swB s a = true
  · rw [if_pos hs] at h
    obtain ⟨h1, h2, h3⟩ := dv_ok h
    have e : ∀ i, dsF s a i = a i - s i := fun i => by unfold dsF; rw [if_pos hs, h2]
    have ef : dsF s a = dvF a s := funext fun i => by unfold dsF; rw [if_pos hs]
    have h4 : gpG s a = true := by
      unfold gpG at h1 ⊢
      rw [Bool.and_comm]
      exact h1
    obtain ⟨g1, g2⟩ := pc_same h4
    unfold swB at hs
    rw [g1, g2] at hs
    simp only [ne_eq, not_true, decide_false, Bool.false_or, decide_eq_true_eq] at hs
    refine ⟨h1, h4, by rw [ef]; exact h3, ?_, .inl e⟩
    have := cm_pos (f := a) (g := s) (by rw [cmP_anti]; omega)
    rwa [show dsF s a = (fun i => a i - s i) from funext e]
  · have hs' : swB s a = false := by simpa using hs
    rw [if_neg hs] at h
    obtain ⟨h1, h2, h3⟩ := dv_ok h
    have e : ∀ i, dsF s a i = s i - a i := fun i => by unfold dsF; rw [if_neg hs, h2]
    have ef : dsF s a = dvF s a := funext fun i => by unfold dsF; rw [if_neg hs]
    have h4 : gpG a s = true := by
      unfold gpG at h1 ⊢
      rw [Bool.and_comm]
      exact h1
    obtain ⟨g1, g2⟩ := pc_same h1
    unfold swB at hs'
    rw [g1, g2] at hs'
    simp only [ne_eq, not_true, decide_false, Bool.false_or, decide_eq_false_iff_not] at hs'
    refine ⟨h4, h1, by rw [ef]; exact h3, ?_, .inr e⟩
    have := cm_pos (f := s) (g := a) (by omega)
    rwa [show dsF s a = (fun i => s i - a i) from funext e]
theorem far_of {s a : Nat → Int} (h : dsE s a = 0) : farA (gpL a s) (gpH a s) = max 0 (szL (dsF s a) 6) ∧ szH (dsF s a) 6 ≤ farB (gpL a s) (gpH a s) ∧ 0 ≤ szH (dsF s a) 6 := by
  obtain ⟨h1, _, _, h4, h5⟩ := ds_ok h
  have el : gpL a s = szL (dfF a s) 6 := by unfold gpL; rw [if_pos h1]
  have eh : gpH a s = szH (dfF a s) 6 := by unfold gpH; rw [if_pos h1]
  rw [el, eh]
  rcases h5 with h5 | h5
  · have e : dsF s a = dfF a s := funext h5
    rw [e] at h4 ⊢
    generalize szL (dfF a s) 6 = l
    generalize szH (dfF a s) 6 = h at *
    unfold farA farB
    refine ⟨?_, by omega, h4⟩
    split <;> omega
  · have e : dfF a s = (fun i => -dsF s a i) := funext fun i => by show a i - s i = _; rw [h5]; omega
    rw [e, szL_neg, szH_neg]
    generalize szL (dsF s a) 6 = l
    generalize szH (dsF s a) 6 = h at *
    unfold farA farB
    refine ⟨?_, by omega, h4⟩
    split <;> omega
/-- None is surely nearer. -/
theorem best_near {s t a : Nat → Int} (hs : dsE s a = 0) (ht : dsE t a = 0) (h : 0 ≤ pcN6 (dsF t a) (dsF s a)) : farA (gpL a s) (gpH a s) ≤ farB (gpL a t) (gpH a t) := by
  obtain ⟨e1, _, _⟩ := far_of hs
  obtain ⟨_, e2, e3⟩ := far_of ht
  obtain ⟨_, _, p1, _⟩ := ds_ok hs
  obtain ⟨_, _, p2, _⟩ := ds_ok ht
  have hg : gpG (dsF t a) (dsF s a) = true := by unfold gpG; rw [p1, p2]; rfl
  rw [(pc_same hg).2] at h
  have h1 := cm_pos h
  have h2 := szH_sub (dsF t a) (dsF s a) 6 (Nat.le_refl _)
  rw [e1]
  omega
/-- What Best's fold hands back. -/
theorem bsFo_spec {bs : Nat → Int} {g : Nat → Nat → Int} {n : Nat} {a : Nat → Int} : ∀ (l S : List Nat) (st st' : Option Nat), l.foldl (bsSt bs g n a) (some st) = some st' →
    ((∀ m ∈ S, dsE (sndF bs g n m) a = 0) ∧ (∀ b, st = some b → b ∈ S ∧ ∀ m ∈ S, 0 ≤ pcN6 (dsF (sndF bs g n m) a) (dsF (sndF bs g n b) a)) ∧ (st = none → S = [])) →
    ((∀ m ∈ S ++ l, dsE (sndF bs g n m) a = 0) ∧ (∀ b, st' = some b → b ∈ S ++ l ∧ ∀ m ∈ S ++ l, 0 ≤ pcN6 (dsF (sndF bs g n m) a) (dsF (sndF bs g n b) a)) ∧ (st' = none → S ++ l = []))
  | [], S, st, st', h, hS => by
    obtain rfl : st = st' := Option.some.inj h
    rw [List.append_nil]
    exact hS
  | m :: l, S, st, st', h, ⟨h1, h2, h3⟩ => by
    rw [List.foldl_cons] at h
    by_cases hd : dsE (sndF bs g n m) a = 0
    · rw [bsSt_ok hd] at h
      have hm1 : ∀ x ∈ S ++ [m], dsE (sndF bs g n x) a = 0 := fun x hx => by
        rcases List.mem_append.1 hx with hx | hx
        · exact h1 x hx
        · rw [List.mem_singleton.1 hx]; exact hd
      have hv : ∀ x ∈ S ++ [m], pV6 (dsF (sndF bs g n x) a) 576 = true := fun x hx => (ds_ok (hm1 x hx)).2.2.1
      have hself : ∀ x ∈ S ++ [m], 0 ≤ pcN6 (dsF (sndF bs g n x) a) (dsF (sndF bs g n x) a) := fun x hx => by
        rw [(pc_same (by unfold gpG; rw [hv x hx]; rfl)).2, cmP_zero.2 ⟨rfl, rfl, rfl, rfl, rfl, rfl⟩]
        exact Int.le_refl _
      have hap : S ++ (m :: l) = (S ++ [m]) ++ l := by simp
      rw [hap]
      cases st with
      | none =>
        refine bsFo_spec l (S ++ [m]) (some m) st' h ⟨hm1, fun b hb => ?_, fun hc => by cases hc⟩
        obtain rfl := Option.some.inj hb
        refine ⟨by simp, fun x hx => ?_⟩
        rw [h3 rfl] at hx
        obtain rfl : x = m := by simpa using hx
        exact hself _ (by simp)
      | some b =>
        obtain ⟨hbS, hb2⟩ := h2 b rfl
        by_cases hc : pcN6 (dsF (sndF bs g n m) a) (dsF (sndF bs g n b) a) < 0
        · simp only [if_pos hc] at h
          refine bsFo_spec l (S ++ [m]) (some m) st' h ⟨hm1, fun b' hb' => ?_, fun hc => by cases hc⟩
          obtain rfl := Option.some.inj hb'
          refine ⟨by simp, fun x hx => ?_⟩
          rcases List.mem_append.1 hx with hxS | hx1
          · have k1 := hb2 x hxS
            have hvx := hv x hx
            have hvb := hv b (by simp [hbS])
            have hvm := hv m (by simp)
            rw [(pc_same (by unfold gpG; rw [hvx, hvb]; rfl)).2] at k1
            rw [(pc_same (by unfold gpG; rw [hvm, hvb]; rfl)).2] at hc
            rw [(pc_same (by unfold gpG; rw [hvx, hvm]; rfl)).2, cmP_anti]
            have t1 := (cmP_trans (Int.le_of_lt hc) (show cmP _ _ _ _ _ _ _ _ _ _ _ _ ≤ 0 from by
              rw [cmP_anti] at k1
              exact (by omega : cmP (dsF (sndF bs g n b) a 0) (dsF (sndF bs g n b) a 1) (dsF (sndF bs g n b) a 2) (dsF (sndF bs g n b) a 3) (dsF (sndF bs g n b) a 4) (dsF (sndF bs g n b) a 5) (dsF (sndF bs g n x) a 0) (dsF (sndF bs g n x) a 1) (dsF (sndF bs g n x) a 2) (dsF (sndF bs g n x) a 3) (dsF (sndF bs g n x) a 4) (dsF (sndF bs g n x) a 5) ≤ 0))).1
            omega
          · rw [List.mem_singleton.1 hx1]
            exact hself _ (by simp)
        · simp only [if_neg hc] at h
          refine bsFo_spec l (S ++ [m]) (some b) st' h ⟨hm1, fun b' hb' => ?_, fun hc => by cases hc⟩
          obtain rfl := Option.some.inj hb'
          refine ⟨by simp [hbS], fun x hx => ?_⟩
          rcases List.mem_append.1 hx with hxS | hx1
          · exact hb2 x hxS
          · rw [List.mem_singleton.1 hx1]
            omega
    · rw [bsSt_no hd, bsFo_none] at h
      cases h
end Go.Proofs.YtehifkdfbiebfaaDoor
