/- Rational: the reference's number. -/
import Derived.Test.YtmjbcoapceoakaaDoorRdZ
import Derived.Test.YtmjbcoapceoakaaDoorRatW
import Derived.Deep.Cut
namespace Go.Proofs.YtmjbcoapceoakaaDoor
open Go Go.RowKit

def zOf : Option Nat → Int
  | none => -1
  | some n => (n : Int)
theorem numZ_eq {l : List UInt8} (h : ¬ (l = [] ∨ 10 < l.length)) : numZ l = zOf (dgF 0 l) := by
  unfold numZ
  rw [if_neg h]
  cases dgF 0 l <;> rfl
theorem ba_get {l : List UInt8} {i : Nat} {x : UInt8} (h : l[i]? = some x) (hi : i < (⟨l.toArray⟩ : ByteArray).size) : (⟨l.toArray⟩ : ByteArray)[i]'hi = x := by
  have hl : i < l.length := (List.getElem?_eq_some_iff.1 h).1
  have := (List.getElem?_eq_some_iff.1 h).2
  rw [← this]
  rfl
theorem drop_at {l r : List UInt8} {k : Nat} {x : UInt8} (h : l.drop k = x :: r) : l[k]? = some x ∧ l.drop (k + 1) = r := by
  constructor
  · have := congrArg List.head? h
    rw [List.head?_drop] at this
    exact this
  · have := congrArg List.tail h
    rw [List.tail_drop] at this
    exact this
set_option maxRecDepth 100000 in
set_option maxHeartbeats 4000000 in
theorem RnumberZ_c (l : List UInt8) (w : World) (hl : l.length ≤ 140737488351232) : Calls Tryd.prog 60 #[.string ⟨l.toArray⟩] w (RetS (.int .i64 (numZ l)) w) := by
  by_cases h0 : l = []
  · subst h0
    have e : numZ [] = -1 := by unfold numZ; rw [if_pos (Or.inl rfl)]
    rw [e]
    clear e
    go_enter Tryd.func60, Tryd.ntmps60
    go_wp2
    go_ret
    exact ⟨rfl, rfl⟩
  have h00 : 0 < l.length := List.length_pos_iff.2 h0
  have h01 : ((l.length : Int) == 0) = false := by simp; omega
  by_cases h1 : 10 < l.length
  · have e : numZ l = -1 := by unfold numZ; rw [if_pos (Or.inr h1)]
    rw [e]
    have h2 : (10 : Int) < (l.length : Int) := by omega
    clear e h0
    go_enter Tryd.func60, Tryd.ntmps60
    go_wp2
    go_ret
    exact ⟨rfl, rfl⟩
  have h2 : ¬ (10 : Int) < (l.length : Int) := by omega
  obtain ⟨D, hD⟩ : ∃ D, dgF 0 l = D := ⟨_, rfl⟩
  have e : numZ l = zOf D := by rw [numZ_eq (by rintro (h | h); exact h0 h; exact h1 h), hD]
  rw [e]
  generalize hZ : zOf D = Z
  have HZ := Lib.hid hZ
  have HD := Lib.hid hD
  clear e h0 hZ hD
  go_enter Tryd.func60, Tryd.ntmps60
  go_wp2
  go_loop [3, 4] (fun n i => ∃ (v k : Nat) (r : List UInt8), n = .int .i64 (v : Int) ∧ i = .int .i64 (k : Int) ∧ k + r.length = l.length ∧ Hid (l.drop k = r) ∧ Hid (dgF v r = D) ∧ Hid (v + 1 ≤ 10 ^ k)) (fun _ i => l.length - (intOf i).toNat)
  case atStart => exact ⟨0, 0, l, rfl, rfl, by omega, Lib.hid rfl, HD, Lib.hid (by simp)⟩
  case round =>
    clear HD
    obtain ⟨v, k, r, rfl, rfl, hk, HK, HV, HB⟩ := hrel
    cases r with
    | nil =>
      have hkl : k = l.length := by simpa using hk
      have e1 : Z = (v : Int) := by
        have h := HV.out
        have hz := HZ.out
        rw [← h] at hz
        exact hz.symm
      subst e1
      rw [hkl]
      clear HK HV HB
      go_wp2
      go_ret
      exact ⟨rfl, rfl⟩
    | cons x rs =>
      obtain ⟨d1, d2⟩ := drop_at HK.out
      have hg := fun hi => ba_get d1 hi
      have hkl : (k : Int) < (l.length : Int) := by simp at hk; omega
      have hkn : k < 10 := by simp at hk; omega
      have hb : v + 1 ≤ 10000000000 := by
        have h3 := HB.out
        have h4 : 10 ^ k ≤ 10 ^ 10 := Nat.pow_le_pow_right (by omega) (by omega)
        have h5 : (10 : Nat) ^ 10 = 10000000000 := by decide
        omega
      have hx256 : x.toNat < 256 := x.toNat_lt
      cases hd : digB x
      · have e1 : Z = -1 := by
          have h := HV.out
          have hz := HZ.out
          have h6 : dgF v (x :: rs) = none := by show (if digB x = true then _ else none) = none; rw [hd]; rfl
          rw [h6] at h
          rw [← h] at hz
          exact hz.symm
        have hw : (x.toNat : Int) < 48 ∨ (¬ (x.toNat : Int) < 48 ∧ (57 : Int) < (x.toNat : Int)) := by
          unfold digB at hd
          simp at hd
          omega
        subst e1
        clear HK HV HB d1 d2 hd hb
        rcases hw with g | ⟨g, g'⟩
        · go_wp2
          go_ret
          exact ⟨rfl, rfl⟩
        · go_wp2
          go_ret
          exact ⟨rfl, rfl⟩
      · have hw : ¬ (x.toNat : Int) < 48 ∧ ¬ (57 : Int) < (x.toNat : Int) := by
          unfold digB at hd
          simp at hd
          omega
        obtain ⟨g, g'⟩ := hw
        have f1 : dgF (10 * v + (x.toNat - 48)) rs = D := by
          have h := HV.out
          rw [← h]
          show _ = (if digB x = true then _ else none)
          rw [hd]
          rfl
        have HV2 := Lib.hid f1
        have HK2 := Lib.hid d2
        have HB2 := Lib.hid (show 10 * v + (x.toNat - 48) + 1 ≤ 10 ^ (k + 1) by
          have := HB.out
          rw [Nat.pow_succ]
          omega)
        have q1 : IntKind.u8.wrap ((x.toNat : Int) - 48) = ((x.toNat - 48 : Nat) : Int) := by rw [IntKind.wrap_u8]; omega
        have q2 : IntKind.i64.wrap (10 * (v : Int)) = 10 * (v : Int) := by rw [IntKind.wrap_i64]; omega
        have q3 : IntKind.i64.wrap ((x.toNat - 48 : Nat) : Int) = ((x.toNat - 48 : Nat) : Int) := by rw [IntKind.wrap_i64]; omega
        have q4 : IntKind.i64.wrap (10 * (v : Int) + ((x.toNat - 48 : Nat) : Int)) = ((10 * v + (x.toNat - 48) : Nat) : Int) := by rw [IntKind.wrap_i64]; omega
        have q5 : IntKind.i64.wrap ((k : Int) + 1) = ((k + 1 : Nat) : Int) := by rw [IntKind.wrap_i64]; omega
        clear HV HK HB f1 d1 d2 hd hb
        generalize hz : x.toNat - 48 = z at *
        clear hz
        go_wp2
        go_round
        case rel => exact ⟨10 * v + z, k + 1, rs, by first | rfl | go_num, by first | rfl | go_num, by simp at hk; omega, HK2, HV2, HB2⟩
        case measure => simp [intOf]; omega
end Go.Proofs.YtmjbcoapceoakaaDoor
