/- Rational: the texts of numbers, in plain words. -/
import Derived.Test.YtmjbcoapceoakaaDoorRatP
import Derived.Lib.AtoiAllCases
import Derived.Lib.ItoaNum
import Derived.Lib.IndexMore
import Derived.Lib.IndexBytes
namespace Go.Proofs.YtmjbcoapceoakaaDoor
open Go Go.Lib

theorem dd_small {u : Nat} (h : u < 10) : decDigits u = [UInt8.ofNat (48 + u)] := by rw [decDigits, dif_pos h]
theorem dd_step {u : Nat} (h : ¬ u < 10) : decDigits u = decDigits (u / 10) ++ [UInt8.ofNat (48 + u % 10)] := by rw [decDigits, dif_neg h]
theorem dig_nat {k : Nat} (h : k < 10) : (UInt8.ofNat (48 + k)).toNat = 48 + k := by
  rw [UInt8.toNat_ofNat']
  omega
theorem dd_mem (u : Nat) : ∀ c ∈ decDigits u, 48 ≤ c.toNat ∧ c.toNat ≤ 57 := by
  induction u using Nat.strongRecOn with
  | _ u ih =>
    intro c hc
    by_cases h : u < 10
    · rw [dd_small h] at hc
      have : c = UInt8.ofNat (48 + u) := by simpa using hc
      rw [this, dig_nat h]
      omega
    · rw [dd_step h] at hc
      rcases List.mem_append.1 hc with hc | hc
      · exact ih (u / 10) (by omega) c hc
      · have : c = UInt8.ofNat (48 + u % 10) := by simpa using hc
        rw [this, dig_nat (by omega)]
        omega
theorem dd_ne (u : Nat) : decDigits u ≠ [] := by
  by_cases h : u < 10
  · rw [dd_small h]; simp
  · rw [dd_step h]; simp
theorem pu_step {acc : Nat} {c : UInt8} {r : List UInt8} (h1 : 48 ≤ c.toNat) (h2 : c.toNat ≤ 57) (h3 : acc < 1000000000000000000) : parseUint10 acc (c :: r) = parseUint10 (acc * 10 + (c.toNat - 48)) r := by
  rw [parseUint10, if_pos ⟨h1, h2⟩, if_neg (by omega), if_neg (by omega)]
theorem pu_dd (u : Nat) : ∀ (r : List UInt8), u < 1000000000000000000 → parseUint10 0 (decDigits u ++ r) = parseUint10 u r := by
  induction u using Nat.strongRecOn with
  | _ u ih =>
    intro r hu
    by_cases h : u < 10
    · rw [dd_small h, List.singleton_append, pu_step (by rw [dig_nat h]; omega) (by rw [dig_nat h]; omega) (by omega), dig_nat h]
      congr 1
      omega
    · rw [dd_step h, List.append_assoc, ih (u / 10) (by omega) _ (by omega), List.singleton_append, pu_step (by rw [dig_nat (by omega)]; omega) (by rw [dig_nat (by omega)]; omega) (by omega), dig_nat (by omega)]
      congr 1
      omega
theorem mag_dd {u : Nat} (hu : u < 1000000000000000000) : parseMag (decDigits u) = .ok u := by
  have h := pu_dd u [] hu
  rw [List.append_nil] at h
  rw [parseMag, if_neg (dd_ne u), h]
  rfl
theorem atoi_dd {u : Nat} (hu : u < 1000000000000000000) : atoiAll (decDigits u) = .ok (u : Int) := by
  have hm := mag_dd hu
  have hd := dd_mem u
  cases h : decDigits u with
  | nil => exact absurd h (dd_ne u)
  | cons c r =>
    rw [h] at hm hd
    have := hd c (by simp)
    rw [atoiAll_plain c r (by omega) (by omega), hm]
    simp only [signless]
    rw [if_neg (by omega)]
theorem atoi_itoa {n : Int} (h1 : -100000000000000000 ≤ n) (h2 : n ≤ 100000000000000000) : atoiAll (itoa n) = .ok n := by
  unfold itoa
  split
  · rw [atoiAll_minus, mag_dd (by omega)]
    simp only [signed]
    rw [if_neg (by omega)]
    congr 1
    omega
  · rw [atoi_dd (by omega)]
    congr 1
    omega
theorem itoa_no47 (n : Int) : ∀ c ∈ itoa n, c ≠ 47 := by
  have hd := fun u c h => dd_mem u c h
  intro c hc e
  subst e
  unfold itoa at hc
  split at hc
  · rcases List.mem_cons.1 hc with h | h
    · exact absurd h (by decide)
    · exact absurd (hd _ _ h).1 (by decide)
  · exact absurd (hd _ _ hc).1 (by decide)

theorem ib_none : ∀ {l : List UInt8}, (∀ c ∈ l, c ≠ 47) → indexByte l 47 = -1
  | [], _ => rfl
  | b :: l, h => by
    have h1 := h b (by simp)
    have h2 := ib_none (l := l) fun c hc => h c (by simp [hc])
    rw [indexByte, h2]
    simp [h1]
theorem ib_some : ∀ {l : List UInt8} (r : List UInt8), (∀ c ∈ l, c ≠ 47) → indexByte (l ++ 47 :: r) 47 = l.length
  | [], r, _ => by simp [indexByte]
  | b :: l, r, h => by
    have h1 := h b (by simp)
    have h2 := ib_some (l := l) r fun c hc => h c (by simp [hc])
    rw [List.cons_append, indexByte, h2]
    simp [h1]
theorem cut_none {l : List UInt8} (h : ∀ c ∈ l, c ≠ 47) : cut l [47] = (l, [], false) := by
  unfold cut
  rw [index_one, ib_none h]
  rfl
theorem cut_some {l : List UInt8} (r : List UInt8) (h : ∀ c ∈ l, c ≠ 47) : cut (l ++ 47 :: r) [47] = (l, r, true) := by
  unfold cut
  rw [index_one, ib_some r h, if_pos (by omega)]
  simp

/-- The text of a number. -/
def ratText (n d : Int) : List UInt8 := itoa n ++ (if d = 1 then [] else 47 :: itoa d)
/-- What the parts of a text say. -/
def readR (l : List UInt8) : Option (Int × Int) :=
  match atoiAll (cut l [47]).1 with
  | .ok n => if (cut l [47]).2.2 then (match atoiAll (cut l [47]).2.1 with | .ok d => some (n, d) | _ => none) else some (n, 1)
  | _ => none
theorem read_text {n d : Int} (h : vR n d = true) : readR (ratText n d) = some (n, d) := by
  obtain ⟨v1, v2, v3, v4, _⟩ := v_of h
  unfold readR ratText
  by_cases hd : d = 1
  · rw [if_pos hd, List.append_nil, cut_none (itoa_no47 n)]
    simp only [atoi_itoa (n := n) (by omega) (by omega)]
    simp [hd]
  · rw [if_neg hd, cut_some _ (itoa_no47 n)]
    simp only [atoi_itoa (n := n) (by omega) (by omega), atoi_itoa (n := d) (by omega) (by omega)]
    simp
theorem text_inj {n d x y : Int} (h : vR n d = true) (k : vR x y = true) (e : ratText n d = ratText x y) : n = x ∧ d = y := by
  have h1 := read_text h
  rw [e, read_text k] at h1
  have := Option.some.inj h1
  exact ⟨(congrArg Prod.fst this).symm, (congrArg Prod.snd this).symm⟩
/-- What Parse says of a text. -/
def PaP (l : List UInt8) (v : Value) : Prop :=
  (∃ n d, vR n d = true ∧ ratText n d = l ∧ v = .tuple #[.agg #[.int .i64 n, .int .i64 d], .int .i64 0]) ∨ ((∀ n d, vR n d = true → ratText n d ≠ l) ∧ v = .tuple #[.agg #[.int .i64 0, .int .i64 0], .int .i64 8])
theorem PaP.same {l : List UInt8} {v v' : Value} (h : PaP l v) (h' : PaP l v') : v = v' := by
  rcases h with ⟨n, d, hv, ht, rfl⟩ | ⟨hn, rfl⟩ <;> rcases h' with ⟨x, y, kv, kt, rfl⟩ | ⟨kn, rfl⟩
  · obtain ⟨rfl, rfl⟩ := text_inj hv kv (ht.trans kt.symm)
    rfl
  · exact absurd ht (kn n d hv)
  · exact absurd kt (hn x y kv)
  · rfl
theorem PaP.none {l : List UInt8} (h : readR l = none) : PaP l (.tuple #[.agg #[.int .i64 0, .int .i64 0], .int .i64 8]) := by
  refine Or.inr ⟨fun n d hv ht => ?_, rfl⟩
  rw [← ht, read_text hv] at h
  cases h
theorem PaP.bad {l : List UInt8} {n d : Int} (h : ∀ x y, vR x y = true → ratText x y = l → x = n ∧ y = d) (hv : vR n d = false ∨ ratText n d ≠ l) : PaP l (.tuple #[.agg #[.int .i64 0, .int .i64 0], .int .i64 8]) := by
  refine Or.inr ⟨fun x y kv kt => ?_, rfl⟩
  obtain ⟨rfl, rfl⟩ := h x y kv kt
  rcases hv with hv | hv
  · rw [kv] at hv; cases hv
  · exact hv kt
theorem read_only {l : List UInt8} {n d : Int} (h : readR l = some (n, d)) : ∀ x y, vR x y = true → ratText x y = l → x = n ∧ y = d := fun x y kv kt => by
  rw [← kt, read_text kv] at h
  have := Option.some.inj h
  exact ⟨congrArg Prod.fst this, congrArg Prod.snd this⟩
theorem PaP.good {l : List UInt8} {n d : Int} (hv : vR n d = true) (ht : ratText n d = l) : PaP l (.tuple #[.agg #[.int .i64 n, .int .i64 d], .int .i64 0]) := Or.inl ⟨n, d, hv, ht, rfl⟩
end Go.Proofs.YtmjbcoapceoakaaDoor
