/- Pitch: the closures of Parse. -/
import Derived.Test.YtgbiiaaeabflnaaDoorTextC
namespace Go.Proofs.YtgbiiaaeabflnaaDoor
open Go Go.RowKit

@[go_sem] theorem ba_head (x : UInt8) (r : List UInt8) (h : 0 < (⟨(x :: r).toArray⟩ : ByteArray).size) : (⟨(x :: r).toArray⟩ : ByteArray)[0]'h = x := rfl
@[go_sem] theorem ba_tail (x : UInt8) (r : List UInt8) : (⟨(x :: r).toArray⟩ : ByteArray).extract 1 (r.length + 1) = ⟨r.toArray⟩ := by
  apply ByteArray.ext
  simp [ByteArray.data_extract]
/-- What a cut leaves: whether it has been, and the rest. -/
def cutB (m : UInt8) : List UInt8 → Bool
  | [] => false
  | x :: _ => x == m
def cutR (m : UInt8) : List UInt8 → List UInt8
  | [] => []
  | x :: r => if x == m then r else x :: r
theorem cutR_len (m : UInt8) (l : List UInt8) : (cutR m l).length ≤ l.length := by
  unfold cutR
  split
  · simp
  · split <;> simp
theorem cutR_lt {m : UInt8} {l : List UInt8} (h : cutB m l = true) : (cutR m l).length < l.length := by
  cases l with
  | nil => cases h
  | cons x r =>
    have h : (x == m) = true := h
    show (if (x == m) = true then r else x :: r).length < _
    rw [if_pos h]
    simp
/-- From w on, block R alone has turned, and holds the string l. -/
def RestP (R : Nat) (w : World) (l : List UInt8) (w' : World) : Prop := w.grownBy w' (some R) ∧ Blk w' R 9 #[.string ⟨l.toArray⟩]
theorem grown_refl (w : World) (r : Option Nat) : w.grownBy w r := ⟨rfl, rfl, rfl, Nat.le_refl _, fun _ _ _ => rfl⟩
set_option maxRecDepth 100000 in
set_option maxHeartbeats 2000000 in
theorem cut_c (m : UInt8) (l : List UInt8) (R : Nat) (w : World) (hR : Blk w R 9 #[.string ⟨l.toArray⟩]) (hl : l.length ≤ 1000) : Calls Tryd.prog 45 #[.int .u8 (m.toNat : Int), .pointer (some ⟨R, 0, none⟩)] w (fun e w' => e = .returned (.bool (cutB m l)) ∧ RestP R w (cutR m l) w') := by
  have c := hR.cell 0
  have f := hR.frozen 0
  have z := hR.lt
  simp only [List.getElem?_toArray, List.getElem?_cons_zero] at c
  have HR := Lib.hid hR
  clear hR
  cases l with
  | nil =>
    have e1 : cutB m [] = false := rfl
    have e2 : cutR m [] = [] := rfl
    rw [e1, e2]
    clear e1 e2
    go_enter Tryd.func45, Tryd.ntmps45
    go_wp2
    go_ret
    exact ⟨rfl, grown_refl _ _, HR.out⟩
  | cons x r =>
    by_cases hx : x = m
    · subst hx
      have e1 : cutB x (x :: r) = true := by simp [cutB]
      have e2 : cutR x (x :: r) = r := by simp [cutR]
      rw [e1, e2]
      clear e1 e2
      go_enter Tryd.func45, Tryd.ntmps45
      go_wp2
      go_ret
      exact ⟨rfl, grown_setc _ _ _ _, HR.out.set_ 0 _⟩
    · have e1 : cutB m (x :: r) = false := by simp [cutB, hx]
      have e2 : cutR m (x :: r) = x :: r := by simp [cutR, hx]
      have hne : ((x.toNat : Int) != (m.toNat : Int)) = true := by
        have : ¬ x.toNat = m.toNat := fun e => hx (UInt8.toNat.inj e)
        simp
        omega
      rw [e1, e2]
      clear e1 e2
      go_enter Tryd.func45, Tryd.ntmps45
      go_wp2
      go_ret
      exact ⟨rfl, grown_refl _ _, HR.out⟩
def isDig (x : UInt8) : Bool := decide (48 ≤ x.toNat) && decide (x.toNat ≤ 57)
/-- The number of up to so many digits ahead, on top of n; and the rest. -/
def numN : Nat → Nat → List UInt8 → Nat
  | 0, n, _ => n
  | _ + 1, n, [] => n
  | f + 1, n, x :: r => if isDig x then numN f (10 * n + (x.toNat - 48)) r else n
def numR : Nat → List UInt8 → List UInt8
  | 0, l => l
  | _ + 1, [] => []
  | f + 1, x :: r => if isDig x then numR f r else x :: r
theorem numR_len : ∀ (f : Nat) (l : List UInt8), (numR f l).length ≤ l.length
  | 0, l => Nat.le_refl _
  | f + 1, [] => Nat.le_refl _
  | f + 1, x :: r => by
    unfold numR
    split
    · have := numR_len f r
      simp; omega
    · exact Nat.le_refl _
theorem numN_le : ∀ (f n : Nat) (l : List UInt8), numN f n l ≤ (n + 1) * 10 ^ f
  | 0, n, _ => by simp [numN]
  | f + 1, n, [] => by
    show n ≤ _
    have : 1 ≤ 10 ^ (f + 1) := Nat.pow_pos (by omega)
    calc n ≤ (n + 1) * 1 := by omega
      _ ≤ (n + 1) * 10 ^ (f + 1) := Nat.mul_le_mul_left _ this
  | f + 1, n, x :: r => by
    unfold numN
    have h1 : 1 ≤ 10 ^ f := Nat.pow_pos (by omega)
    have e : (n + 1) * 10 ^ (f + 1) = (10 * n + 10) * 10 ^ f := by rw [Nat.pow_succ]; grind
    rw [e]
    split
    · rename_i h
      have hx : x.toNat ≤ 57 := by
        unfold isDig at h
        simp at h
        omega
      refine Nat.le_trans (numN_le f _ r) (Nat.mul_le_mul_right _ (by omega))
    · calc n ≤ (10 * n + 10) * 1 := by omega
        _ ≤ (10 * n + 10) * 10 ^ f := Nat.mul_le_mul_left _ h1
set_option maxRecDepth 100000 in
set_option maxHeartbeats 4000000 in
theorem number_c (l : List UInt8) (R : Nat) (w : World) (hR : Blk w R 9 #[.string ⟨l.toArray⟩]) (hl : l.length ≤ 1000) : Calls Tryd.prog 46 #[.pointer (some ⟨R, 0, none⟩)] w (fun e w' => e = .returned (.int .i64 (numN 3 0 l : Int)) ∧ RestP R w (numR 3 l) w') := by
  have z := hR.lt
  have HR := Lib.hid hR
  clear hR
  obtain ⟨M, hM⟩ : ∃ M, numN 3 0 l = M := ⟨_, rfl⟩
  obtain ⟨L, hL⟩ : ∃ L, numR 3 l = L := ⟨_, rfl⟩
  rw [hM, hL]
  have HS := Lib.hid (⟨hM, hL⟩ : numN 3 0 l = M ∧ numR 3 l = L)
  clear hM hL
  go_enter Tryd.func46, Tryd.ntmps46
  go_wp2
  go_loopw [2, 3] (fun n i wr => ∃ (k v : Nat) (l' : List UInt8), k ≤ 3 ∧ n = .int .i64 (v : Int) ∧ i = .int .i64 ((3 - k : Nat) : Int) ∧ v ≤ 10000 - 100 * k ∧ l'.length ≤ 1000 ∧ Hid (numN k v l' = M ∧ numR k l' = L) ∧ Hid (w.grownBy wr (some R)) ∧ Hid (Blk wr R 9 #[.string ⟨l'.toArray⟩]) ∧ (k = 3 → v = 0) ∧ (k = 2 → v ≤ 9) ∧ (k = 1 → v ≤ 99)) (fun _ i _ => 3 - (intOf i).toNat)
  case atStart => exact ⟨3, 0, l, by omega, rfl, rfl, by omega, hl, HS, Lib.hid (grown_refl _ _), HR, fun _ => rfl, fun h => by omega, fun h => by omega⟩
  case round =>
    clear HR HS
    obtain ⟨k, v, l', hk, rfl, rfl, hv, hl', HS, HG, HB, b3, b2, b1⟩ := hrel
    have c := HB.out.cell 0
    have f := HB.out.frozen 0
    have zr := HB.out.lt
    simp only [List.getElem?_toArray, List.getElem?_cons_zero] at c
    cases k with
    | zero =>
      go_wp2
      go_ret
      obtain ⟨s1, s2⟩ := HS.out
      exact ⟨by rw [← s1]; rfl, HG.out, by rw [← s2]; exact HB.out⟩
    | succ k =>
      cases l' with
      | nil =>
        obtain ⟨s1, s2⟩ := HS.out
        have e1 : v = M := s1
        have e2 : [] = L := s2
        have hlt : ((3 - (k + 1) : Nat) : Int) < 3 := by omega
        subst e1
        clear s1 s2 HS
        go_wp2
        go_ret
        exact ⟨rfl, HG.out, by rw [← e2]; exact HB.out⟩
      | cons x r =>
        have hlt : ((3 - (k + 1) : Nat) : Int) < 3 := by omega
        have hnil : (x :: r) ≠ [] := by simp
        have hy : x.toNat < 256 := x.toNat_lt
        obtain ⟨s1, s2⟩ := HS.out
        have hr' : r.length ≤ 1000 := by simp at hl'; omega
        cases hd : isDig x
        · have e1 : v = M := by rw [← s1]; show _ = (if isDig x = true then _ else v); rw [hd]; rfl
          have e2 : x :: r = L := by rw [← s2]; show _ = (if isDig x = true then _ else x :: r); rw [hd]; rfl
          have hw : x.toNat < 48 ∨ (48 ≤ x.toNat ∧ 57 < x.toNat) := by
            unfold isDig at hd
            simp at hd
            omega
          have HX := Lib.hid (show Blk wr R 9 #[.string ⟨L.toArray⟩] by rw [← e2]; exact HB.out)
          subst e1
          clear s1 s2 HS hd e2 HB b1 b2 b3
          generalize hyx : x.toNat = y at *
          have HYX := Lib.hid hyx
          clear hyx
          rcases hw with g | ⟨g, g'⟩
          · have g1 : ¬ (48 : Int) ≤ (y : Int) := by omega
            simp only [← HYX.out] at g1
            go_wp2
            go_ret
            exact ⟨rfl, HG.out, HX.out⟩
          · have g1 : (48 : Int) ≤ (y : Int) := by omega
            have g2 : ¬ (y : Int) ≤ 57 := by omega
            simp only [← HYX.out] at g1 g2
            go_wp2
            go_ret
            exact ⟨rfl, HG.out, HX.out⟩
        · have e1 : numN k (10 * v + (x.toNat - 48)) r = M := by rw [← s1]; show _ = (if isDig x = true then _ else v); rw [hd]; rfl
          have e2 : numR k r = L := by rw [← s2]; show _ = (if isDig x = true then _ else x :: r); rw [hd]; rfl
          have hw : 48 ≤ x.toNat ∧ x.toNat ≤ 57 := by
            unfold isDig at hd
            simp at hd
            omega
          obtain ⟨g, g'⟩ := hw
          have HN := Lib.hid (⟨e1, e2⟩ : numN k (10 * v + (x.toNat - 48)) r = M ∧ numR k r = L)
          have g1 : (48 : Int) ≤ (x.toNat : Int) := by omega
          have g2 : (x.toNat : Int) ≤ 57 := by omega
          have wu : IntKind.u8.wrap ((x.toNat : Int) - 48) = ((x.toNat - 48 : Nat) : Int) := by rw [IntKind.wrap_u8]; omega
          have wi : IntKind.i64.wrap (((x.toNat - 48 : Nat)) : Int) = ((x.toNat - 48 : Nat) : Int) := by rw [IntKind.wrap_i64]; omega
          have wm : IntKind.i64.wrap (10 * (v : Int)) = ((10 * v : Nat) : Int) := by rw [IntKind.wrap_i64]; omega
          have wa : IntKind.i64.wrap (((10 * v : Nat) : Int) + ((x.toNat - 48 : Nat) : Int)) = ((10 * v + (x.toNat - 48) : Nat) : Int) := by rw [IntKind.wrap_i64]; omega
          have wk : IntKind.i64.wrap (((3 - (k + 1) : Nat) : Int) + 1) = ((3 - k : Nat) : Int) := by rw [IntKind.wrap_i64]; omega
          have hv9 : 10 * v + (x.toNat - 48) ≤ 10 * v + 9 := by omega
          clear s1 s2 HS hd e1 e2
          go_wp2
          go_roundw
          case rel => exact ⟨k, 10 * v + (x.toNat - 48), r, by omega, rfl, by first | rfl | (rw [show ((2 - k : Nat) : Int) + 1 = ((3 - k : Nat) : Int) by omega]), by omega, hr', HN, Lib.hid (HG.out.trans (grown_setc _ _ _ _)), Lib.hid (HB.out.set_ 0 _), by omega, by omega, by omega⟩
          case measure => simp [intOf]; omega
end Go.Proofs.YtgbiiaaeabflnaaDoor
