/- Rational: what the reference reads of a text (plain). -/
import Derived.Test.YtmjbcoapceoakaaDoorTxtA
import Derived.Lib.ItoaNum
namespace Go.Proofs.YtmjbcoapceoakaaDoor
open Go Go.RowKit

def digB (x : UInt8) : Bool := decide (48 ≤ x.toNat) && decide (x.toNat ≤ 57)
/-- The number that digits say, on top of n. -/
def dgF : Nat → List UInt8 → Option Nat
  | n, [] => some n
  | n, x :: r => if digB x then dgF (10 * n + (x.toNat - 48)) r else none
theorem dgF_app : ∀ (l r : List UInt8) (n : Nat), dgF n (l ++ r) = (dgF n l).bind fun v => dgF v r
  | [], r, n => rfl
  | x :: l, r, n => by
    have e : ∀ (y : UInt8) (t : List UInt8), dgF n (y :: t) = if digB y then dgF (10 * n + (y.toNat - 48)) t else none := fun _ _ => rfl
    rw [List.cons_append, e, e]
    split
    · exact dgF_app l r _
    · rfl
theorem digB_of {k : Nat} (h : k < 10) : digB (UInt8.ofNat (48 + k)) = true ∧ (UInt8.ofNat (48 + k)).toNat - 48 = k := by
  have e : (UInt8.ofNat (48 + k)).toNat = 48 + k := by rw [UInt8.toNat_ofNat']; omega
  unfold digB
  rw [e]
  refine ⟨?_, by omega⟩
  rw [decide_eq_true (by omega), decide_eq_true (by omega)]
  rfl
theorem dgF_dd (u : Nat) : dgF 0 (Lib.decDigits u) = some u := by
  induction u using Nat.strongRecOn with
  | _ u ih =>
    by_cases h : u < 10
    · rw [Lib.decDigits, dif_pos h]
      obtain ⟨h1, h2⟩ := digB_of h
      unfold dgF
      rw [if_pos h1, h2]
      simp [dgF]
    · rw [Lib.decDigits, dif_neg h, dgF_app, ih (u / 10) (by omega)]
      obtain ⟨h1, h2⟩ := digB_of (k := u % 10) (Nat.mod_lt _ (by omega))
      show dgF (u / 10) [UInt8.ofNat (48 + u % 10)] = some u
      unfold dgF
      rw [if_pos h1, h2]
      unfold dgF
      congr 1
      omega
theorem dd_len10 : ∀ (k u : Nat), 1 ≤ k → u < 10 ^ k → 1 ≤ (Lib.decDigits u).length ∧ (Lib.decDigits u).length ≤ k
  | 0, u, h, _ => by omega
  | k + 1, u, _, h => by
    by_cases h9 : u < 10
    · rw [Lib.decDigits, dif_pos h9]
      simp
    · rw [Lib.decDigits, dif_neg h9]
      have hk : 1 ≤ k := by
        rcases k with _ | k
        · simp at h; omega
        · omega
      have := dd_len10 k (u / 10) hk (by rw [Nat.pow_succ] at h; omega)
      rw [List.length_append]
      simp
      omega
/-- What the reference's number returns. -/
def numZ (l : List UInt8) : Int := if l = [] ∨ 10 < l.length then -1 else match dgF 0 l with
  | none => -1
  | some n => (n : Int)
theorem numZ_dd {u : Nat} (h : u ≤ 1000000000) : numZ (Lib.decDigits u) = (u : Int) := by
  have h1 := dd_len10 10 u (by omega) (Nat.lt_of_le_of_lt h (by decide))
  unfold numZ
  rw [if_neg (by
    rintro (e | e)
    · rw [e] at h1; simp at h1
    · omega), dgF_dd]
/-- Without a minus ahead. -/
def unM (l : List UInt8) : List UInt8 := if l.head? = some 45 then l.tail else l
def topL (l : List UInt8) : List UInt8 := (unM l).takeWhile (· != 47)
def botL (l : List UInt8) : List UInt8 := (unM l).dropWhile (· != 47)
def numT (l : List UInt8) : Int := numZ (topL l)
def denT (l : List UInt8) : Int := if botL l = [] then 1 else numZ (botL l).tail
/-- What the reference reads of a text: none where it fails. -/
def rdZ (l : List UInt8) : Option (Int × Int) := if numT l < 0 ∨ denT l < 0 then none else some (if l.head? = some 45 then -numT l else numT l, denT l)
theorem dd_dig (u : Nat) : ∀ c ∈ Lib.decDigits u, 48 ≤ c.toNat ∧ c.toNat ≤ 57 := by
  induction u using Nat.strongRecOn with
  | _ u ih =>
    intro c hc
    rw [Lib.decDigits] at hc
    split at hc
    · rename_i h
      obtain rfl := List.mem_singleton.1 hc
      have : (UInt8.ofNat (48 + u)).toNat = 48 + u := by rw [UInt8.toNat_ofNat']; omega
      omega
    · rcases List.mem_append.1 hc with h | h
      · exact ih (u / 10) (by omega) c h
      · obtain rfl := List.mem_singleton.1 h
        have : (UInt8.ofNat (48 + u % 10)).toNat = 48 + u % 10 := by rw [UInt8.toNat_ofNat']; omega
        omega
theorem tw_app {l : List UInt8} (h : ∀ c ∈ l, c ≠ 47) : ∀ r : List UInt8, (r = [] ∨ ∃ t, r = 47 :: t) → (l ++ r).takeWhile (· != 47) = l ∧ (l ++ r).dropWhile (· != 47) = r := by
  intro r hr
  induction l with
  | nil =>
    rcases hr with rfl | ⟨t, rfl⟩
    · simp
    · simp
  | cons x l ih =>
    have hx := h x (by simp)
    have := ih (fun c hc => h c (by simp [hc]))
    have hb : (x != 47) = true := by simpa using hx
    rw [List.cons_append, List.takeWhile_cons, List.dropWhile_cons, hb]
    simp only [if_true]
    rw [this.1, this.2]
    exact ⟨rfl, rfl⟩
theorem rdZ_of {u d : Nat} (neg : Bool) (hu : u ≤ 1000000000) (hd1 : 1 ≤ d) (hd : d ≤ 1000000000) : rdZ ((if neg then [45] else []) ++ (Lib.decDigits u ++ (if d = 1 then [] else 47 :: Lib.decDigits d))) = some (if neg then -(u : Int) else (u : Int), (d : Int)) := by
  have hne : ∀ v : Nat, ∀ c ∈ Lib.decDigits v, c ≠ 47 := fun v c hc e => by
    subst e
    have := (dd_dig v _ hc).1
    revert this
    decide
  have hun : unM ((if neg then [45] else []) ++ (Lib.decDigits u ++ (if d = 1 then [] else 47 :: Lib.decDigits d))) = Lib.decDigits u ++ (if d = 1 then [] else 47 :: Lib.decDigits d) ∧ (((if neg then [45] else []) ++ (Lib.decDigits u ++ (if d = 1 then [] else 47 :: Lib.decDigits d))).head? = some 45 ↔ neg = true) := by
    cases neg
    · have h10 := dd_len10 10 u (by omega) (Nat.lt_of_le_of_lt hu (by decide))
      cases hc : Lib.decDigits u with
      | nil => rw [hc] at h10; simp at h10
      | cons x r =>
        have hx := (dd_dig u x (by rw [hc]; simp)).1
        have hx2 : x ≠ 45 := by
          intro e
          subst e
          revert hx
          decide
        unfold unM
        simp [hx2]
    · unfold unM
      simp
  obtain ⟨h1, h2⟩ := hun
  have htw := tw_app (hne u) (if d = 1 then [] else 47 :: Lib.decDigits d) (by by_cases e : d = 1 <;> simp [e])
  have e1 : numT ((if neg then [45] else []) ++ (Lib.decDigits u ++ (if d = 1 then [] else 47 :: Lib.decDigits d))) = (u : Int) := by
    unfold numT topL
    rw [h1, htw.1, numZ_dd hu]
  have e2 : denT ((if neg then [45] else []) ++ (Lib.decDigits u ++ (if d = 1 then [] else 47 :: Lib.decDigits d))) = (d : Int) := by
    unfold denT botL
    rw [h1, htw.2]
    by_cases e : d = 1
    · rw [if_pos e, if_pos rfl, e]
      rfl
    · rw [if_neg e, if_neg (by simp), List.tail_cons, numZ_dd hd]
  unfold rdZ
  rw [e1, e2, if_neg (by omega)]
  cases neg
  · rw [if_neg (by rw [h2]; simp)]
    rfl
  · rw [if_pos (by rw [h2])]
    rfl
theorem rdZ_text {n d : Int} (h : vR n d = true) : rdZ (ratText n d) = some (n, d) := by
  obtain ⟨v1, v2, v3, v4, _⟩ := v_of h
  obtain ⟨D, rfl⟩ : ∃ D : Nat, d = (D : Int) := ⟨d.toNat, by omega⟩
  have e2 : Lib.itoa (D : Int) = Lib.decDigits D := by
    unfold Lib.itoa
    rw [if_neg (by omega), Int.toNat_natCast]
  have e3 : (if (D : Int) = 1 then ([] : List UInt8) else 47 :: Lib.itoa (D : Int)) = (if D = 1 then [] else 47 :: Lib.decDigits D) := by
    by_cases e : D = 1
    · rw [if_pos e, if_pos (by omega)]
    · rw [if_neg e, if_neg (by omega), e2]
  unfold ratText
  rw [e3]
  rcases Int.lt_or_le n 0 with g | g
  · have e1 : Lib.itoa n = 45 :: Lib.decDigits n.natAbs := by unfold Lib.itoa; rw [if_pos g]
    have := rdZ_of (u := n.natAbs) (d := D) true (by omega) (by omega) (by omega)
    rw [e1]
    have e4 : (if true = true then -((n.natAbs : Nat) : Int) else ((n.natAbs : Nat) : Int)) = n := by rw [if_pos rfl]; omega
    rw [e4] at this
    exact this
  · have e1 : Lib.itoa n = Lib.decDigits n.natAbs := by
      unfold Lib.itoa
      rw [if_neg (by omega)]
      congr 1
      omega
    have := rdZ_of (u := n.natAbs) (d := D) false (by omega) (by omega) (by omega)
    rw [e1]
    have e4 : (if false = true then -((n.natAbs : Nat) : Int) else ((n.natAbs : Nat) : Int)) = n := by rw [if_neg (by decide)]; omega
    rw [e4] at this
    exact this
theorem paz_none {l : List UInt8} (h : rdZ l = none) : PaP l (.tuple #[.agg #[.int .i64 0, .int .i64 0], .int .i64 8]) := by
  refine Or.inr ⟨fun n d hv ht => ?_, rfl⟩
  have := rdZ_text hv
  rw [ht, h] at this
  cases this
theorem paz_uni {l : List UInt8} {n d : Int} (h : rdZ l = some (n, d)) : ∀ x y, vR x y = true → ratText x y = l → x = n ∧ y = d := fun x y hv ht => by
  have := rdZ_text hv
  rw [ht, h] at this
  have e := Option.some.inj this
  exact ⟨(congrArg Prod.fst e).symm, (congrArg Prod.snd e).symm⟩
end Go.Proofs.YtmjbcoapceoakaaDoor
