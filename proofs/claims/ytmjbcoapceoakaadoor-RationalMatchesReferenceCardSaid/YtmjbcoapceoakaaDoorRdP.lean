/- Rational: the reference's Parse. -/
import Derived.Test.YtmjbcoapceoakaaDoorRdW
import Derived.Test.YtmjbcoapceoakaaDoorTxtE
namespace Go.Proofs.YtmjbcoapceoakaaDoor
open Go Go.RowKit

@[go_sem] theorem ba_head (x : UInt8) (r : List UInt8) (h : 0 < (⟨(x :: r).toArray⟩ : ByteArray).size) : (⟨(x :: r).toArray⟩ : ByteArray)[0]'h = x := rfl
@[go_sem] theorem ba_tail (x : UInt8) (r : List UInt8) : (⟨(x :: r).toArray⟩ : ByteArray).extract 1 (r.length + 1) = ⟨r.toArray⟩ := by
  apply ByteArray.ext
  simp [ByteArray.data_extract]
theorem ba_pre (t r : List UInt8) : (⟨(t ++ r).toArray⟩ : ByteArray).extract 0 t.length = ⟨t.toArray⟩ := by
  apply ByteArray.ext
  simp [ByteArray.data_extract]
theorem ba_suf (t r : List UInt8) (x : UInt8) : (⟨(t ++ x :: r).toArray⟩ : ByteArray).extract (t.length + 1) (t ++ x :: r).length = ⟨r.toArray⟩ := by
  apply ByteArray.ext
  simp [ByteArray.data_extract]
  have : t.length + (r.length + 1) - (t.length + 1) = r.length := by omega
  rw [this, List.take_length]
theorem unM_len (l : List UInt8) : (unM l).length ≤ l.length ∧ ((unM l).length < l.length ↔ l.head? = some 45) := by
  unfold unM
  cases l with
  | nil => simp
  | cons x r =>
    by_cases h : x = 45
    · subst h
      simp
    · simp [h]
theorem tw_mem : ∀ (T : List UInt8), ∀ c ∈ T.takeWhile (· != 47), c ≠ 47
  | [], c, h => by simp at h
  | x :: T, c, h => by
    rw [List.takeWhile_cons] at h
    split at h
    · rename_i hx
      rcases List.mem_cons.1 h with rfl | h
      · simpa using hx
      · exact tw_mem T c h
    · simp at h
theorem top_bot (T : List UInt8) : T.takeWhile (· != 47) ++ T.dropWhile (· != 47) = T ∧ (∀ c ∈ T.takeWhile (· != 47), c ≠ 47) ∧ (T.dropWhile (· != 47) = [] ∨ ∃ r, T.dropWhile (· != 47) = 47 :: r) := by
  refine ⟨List.takeWhile_append_dropWhile, tw_mem T, ?_⟩
  · cases h : T.dropWhile (· != 47) with
    | nil => exact Or.inl rfl
    | cons x r =>
      right
      have : (T.dropWhile (· != 47)).head? = some x := by rw [h]; rfl
      have h2 := List.head?_dropWhile_not (p := (· != 47)) T
      rw [h] at h2
      simp at h2
      exact ⟨r, by rw [h2]⟩
theorem dgF_bd : ∀ (l : List UInt8) (v n : Nat), dgF v l = some n → n + 1 ≤ (v + 1) * 10 ^ l.length
  | [], v, n, h => by
    have : v = n := Option.some.inj h
    subst this
    simp
  | x :: r, v, n, h => by
    have h : (if digB x = true then dgF (10 * v + (x.toNat - 48)) r else none) = some n := h
    cases hd : digB x
    · rw [hd] at h; cases h
    · rw [hd, if_pos rfl] at h
      have := dgF_bd r _ n h
      have hx : x.toNat - 48 ≤ 9 := by
        unfold digB at hd
        simp at hd
        omega
      refine Nat.le_trans this ?_
      rw [List.length_cons, Nat.pow_succ]
      have e : (v + 1) * (10 ^ r.length * 10) = (10 * v + 10) * 10 ^ r.length := by grind
      rw [e]
      exact Nat.mul_le_mul_right _ (by omega)
theorem numZ_bd (l : List UInt8) : -1 ≤ numZ l ∧ numZ l ≤ 10000000000 := by
  unfold numZ
  by_cases h : l = [] ∨ 10 < l.length
  · rw [if_pos h]; omega
  · rw [if_neg h]
    cases hd : dgF 0 l with
    | none => simp
    | some n =>
      have h1 := dgF_bd l 0 n hd
      have h2 : 10 ^ l.length ≤ 10 ^ 10 := Nat.pow_le_pow_right (by omega) (by omega)
      have h3 : (10 : Nat) ^ 10 = 10000000000 := by decide
      simp only
      omega
set_option maxRecDepth 100000 in
set_option maxHeartbeats 8000000 in
theorem RParse_c (s : ByteArray) (w : World) (hs : s.size ≤ 140737488351232) : Calls Tryd.prog 34 #[.string s] w (ParP s w) := by
  obtain ⟨l, hls⟩ : ∃ l : List UInt8, s = ⟨l.toArray⟩ := ⟨s.data.toList, by simp⟩
  have hl : l.length ≤ 140737488351232 := by rw [hls] at hs; exact hs
  obtain ⟨S, hS⟩ : ∃ S : ByteArray, S = ⟨l.toArray⟩ := ⟨_, rfl⟩
  rw [hls, ← hS]
  have hSl : S.data.toList = l := by rw [hS]
  have hSz : S.size = l.length := by rw [hS]; rfl
  obtain ⟨T, hT⟩ : ∃ T, unM l = T := ⟨_, rfl⟩
  obtain ⟨u1, u2⟩ := unM_len l
  rw [hT] at u1 u2
  obtain ⟨A, hA⟩ : ∃ A, T.takeWhile (· != 47) = A := ⟨_, rfl⟩
  obtain ⟨B, hB⟩ : ∃ B, T.dropWhile (· != 47) = B := ⟨_, rfl⟩
  obtain ⟨t1, t2, t3⟩ := top_bot T
  rw [hA, hB] at t1
  rw [hA] at t2
  rw [hB] at t3
  have hAT : A.length + B.length = T.length := by rw [← t1, List.length_append]
  have hbelow : ∀ k, k < A.length → ∃ x, T[k]? = some x ∧ x ≠ 47 := fun k hk => by
    refine ⟨A[k], ?_, t2 _ (List.getElem_mem hk)⟩
    rw [← t1, List.getElem?_append_left hk, List.getElem?_eq_getElem hk]
  have hat : A.length < T.length → T[A.length]? = some 47 := fun h => by
    rcases t3 with g | ⟨r, g⟩
    · rw [g] at hAT; simp at hAT; omega
    · rw [← t1, List.getElem?_append_right (Nat.le_refl _), g]
      simp
  have hpre : (⟨T.toArray⟩ : ByteArray).extract 0 A.length = ⟨A.toArray⟩ := by rw [← t1]; exact ba_pre A B
  have HNA := Lib.hid (fun W => RnumberZ_c A W (by omega))
  have hnum : numT l = numZ A := by unfold numT topL; rw [hT, hA]
  have hden : denT l = if B = [] then 1 else numZ B.tail := by unfold denT botL; rw [hT, hB]
  have hrd : rdZ l = if numZ A < 0 ∨ denT l < 0 then none else some (if l.head? = some 45 then -numZ A else numZ A, denT l) := by unfold rdZ; rw [hnum]
  have hways : (l = T ∧ T = []) ∨ (l = 45 :: T) ∨ (∃ x r, l = T ∧ T = x :: r ∧ x ≠ 45) := by
    unfold unM at hT
    cases hc : l with
    | nil => rw [hc] at hT; left; simp at hT; exact ⟨hT.symm ▸ rfl, hT.symm ▸ rfl⟩
    | cons x r =>
      rw [hc] at hT
      right
      by_cases h : x = 45
      · left
        subst h
        simp at hT
        rw [hT]
      · right
        have : ¬ (x :: r).head? = some 45 := by simp; exact h
        rw [if_neg this] at hT
        exact ⟨x, r, hT, hT.symm, h⟩
  have HS := Lib.hid hS
  have HB := Lib.hid hbelow
  have HAt := Lib.hid hat
  have HRd := Lib.hid hrd
  have HDn := Lib.hid hden
  have HPre := Lib.hid hpre
  have HT3 := Lib.hid t3
  have HT1 := Lib.hid t1
  have hS2 := hS
  clear hT hA hB t1 t2 t3 hbelow hat hpre hnum hden hrd u2 hS hls hs
  rcases hways with ⟨hlT, hTn⟩ | hlT | ⟨x, r, hlT, hTx, hx⟩
  · obtain rfl := hlT.symm
    obtain rfl : S = ⟨T.toArray⟩ := HS.out
    have hnp : ¬ 0 < T.length := by rw [hTn]; simp
    have hnp2 : ¬ (0 : Int) < (T.length : Int) := by omega
    have hhead : ¬ T.head? = some 45 := by rw [hTn]; simp
    have HSl := Lib.hid hSl
    clear hTn hS2 hSl hSz
    go_enter Tryd.func34, Tryd.ntmps34
    go_wp2
    go_loop [5, 6] (fun a i => ∃ k : Nat, a = .int .i64 (T.length : Int) ∧ i = .int .i64 (k : Int) ∧ k ≤ A.length) (fun _ i => T.length - (intOf i).toNat)
    case atStart => exact ⟨0, rfl, rfl, by omega⟩
    case round =>
      obtain ⟨k, rfl, rfl, hk⟩ := hrel
      have hpre := HPre.out
      have hAT4 : (A.length : Int) ≤ (T.length : Int) := by omega
      by_cases hkA : k < A.length
      · obtain ⟨y, hy1, hy2⟩ := HB.out k hkA
        have hgy := fun hi => ba_get hy1 hi
        have hlt : (k : Int) < (T.length : Int) := by omega
        have hne : ((y.toNat : Int) == 47) = false := by
          have : ¬ y.toNat = 47 := fun e => hy2 (UInt8.toNat.inj e)
          simp
          omega
        have e8 : IntKind.i64.wrap ((k : Int) + 1) = ((k + 1 : Nat) : Int) := by rw [IntKind.wrap_i64]; omega
        go_wp2
        go_round
        case rel => exact ⟨k + 1, rfl, by go_num, hkA⟩
        case measure => simp [intOf]; omega
      obtain rfl : k = A.length := by omega
      rcases HT3.out with hBn | ⟨r, hBr⟩
      · have hAT3 : T.length = A.length := by rw [hBn] at hAT; simp at hAT; omega
        have hnlt : ¬ (A.length : Int) < (T.length : Int) := by omega
        have hpre2 : (⟨T.toArray⟩ : ByteArray).extract 0 T.length = ⟨A.toArray⟩ := by rw [hAT3]; exact hpre
        have HDn2 := HDn.out
        rw [if_pos hBn] at HDn2
        clear HPre HT1 HB HAt hBn
        go_wp2_with fail
        ((with_reducible refine (HNA.out _).mono ?_); rintro en v1 ⟨rfl, rfl⟩)
        clear HNA hpre hpre2
        by_cases hz1 : numZ A < 0
        · have HPz := Lib.hid (paz_none (l := T) (by rw [HRd.out, if_pos (Or.inl hz1)]))
          go_wp2_with fail
          refine bodyPost_ret (v := .tuple #[.agg #[.int .i64 0, .int .i64 0], .int .i64 8]) (by simp only [results, Tryd.results34]; go_simp) rfl ⟨?_, _, rfl, by have h := HPz.out; first | exact h | (rw [← hSl] at h; exact h) | (rw [← HSl.out] at h; exact h)⟩
          (repeat (first | (with_reducible exact bl_refl _) | (with_reducible refine bl_drew ?_) | (with_reducible refine bl_alloc ?_ _) | (with_reducible refine bl_set' ?_ ?_; · (first | omega | (simp; done) | (simp; omega))) | (with_reducible refine bl_last (by assumption) ?_) | (with_reducible refine bl_drewN ?_ _)))
        have hz2 : ¬ (1 : Int) < 0 := by omega
        have hrd2 : rdZ T = some ((numZ A), 1) := by
          rw [HRd.out, HDn2, if_neg (by rintro (h | h) <;> omega)]
          rw [if_neg hhead]
        have hro := paz_uni hrd2
        have hX := fun W => RText_c (numZ A) 1 W
        have hw := tx_ways (numZ A) 1 (⟨T.toArray⟩ : ByteArray)
        have hn1 := numZ_bd A
        have wN : IntKind.i64.wrap (-numZ A) = -numZ A := by rw [IntKind.wrap_i64]; omega
        first | rw [hSl] at hw | rw [show (⟨T.toArray⟩ : ByteArray).data.toList = T from rfl] at hw | rw [HSl.out] at hw
        generalize numZ A = NA at *
        generalize txV NA 1 = VX at *
        rcases hw with ⟨v1, rfl⟩ | ⟨v1, v2, rfl, v3⟩ | ⟨v1, v2, rfl⟩
        · have HX := Lib.hid hX
          have HPz := Lib.hid (PaP.bad hro (Or.inl v1))
          clear hX hro v1 hrd2
          go_wp2_with (go_at_call 37; ((with_reducible refine (HX.out _).mono ?_); rintro e w' ⟨rfl, hb⟩; obtain ⟨hz, hc, hf⟩ := bcl hb (by first | (simp; rfl) | rfl)))
          refine bodyPost_ret (v := .tuple #[.agg #[.int .i64 0, .int .i64 0], .int .i64 8]) (by simp only [results, Tryd.results34]; go_simp) rfl ⟨?_, _, rfl, by have h := HPz.out; first | exact h | (rw [← hSl] at h; exact h) | (rw [← HSl.out] at h; exact h)⟩
          (repeat (first | (with_reducible exact bl_refl _) | (with_reducible refine bl_drew ?_) | (with_reducible refine bl_alloc ?_ _) | (with_reducible refine bl_set' ?_ ?_; · (first | omega | (simp; done) | (simp; omega))) | (with_reducible refine bl_last (by assumption) ?_) | (with_reducible refine bl_drewN ?_ _)))
        · have HX := Lib.hid hX
          have v4 : ∀ t : List UInt8, ratText NA 1 ≠ t → (ratText NA 1 == t) = false := fun t h => by simpa using h
          have v5 := v4 _ v2
          have HPz := Lib.hid (PaP.bad hro (Or.inr v2))
          clear hX hro v1 v2 v4 hrd2
          go_wp2_with (go_at_call 37; ((with_reducible refine (HX.out _).mono ?_); rintro e w' ⟨rfl, hb⟩; obtain ⟨hz, hc, hf⟩ := bcl hb (by first | (simp; rfl) | rfl)))
          refine bodyPost_ret (v := .tuple #[.agg #[.int .i64 0, .int .i64 0], .int .i64 8]) (by simp only [results, Tryd.results34]; go_simp) rfl ⟨?_, _, rfl, by have h := HPz.out; first | exact h | (rw [← hSl] at h; exact h) | (rw [← HSl.out] at h; exact h)⟩
          (repeat (first | (with_reducible exact bl_refl _) | (with_reducible refine bl_drew ?_) | (with_reducible refine bl_alloc ?_ _) | (with_reducible refine bl_set' ?_ ?_; · (first | omega | (simp; done) | (simp; omega))) | (with_reducible refine bl_last (by assumption) ?_) | (with_reducible refine bl_drewN ?_ _)))
        · have HX := Lib.hid hX
          have HPz := Lib.hid (PaP.good v1 v2)
          clear hX hro v1 v2 hrd2
          go_wp2_with (go_at_call 37; ((with_reducible refine (HX.out _).mono ?_); rintro e w' ⟨rfl, hb⟩; obtain ⟨hz, hc, hf⟩ := bcl hb (by first | (simp; rfl) | rfl)))
          refine bodyPost_ret (v := .tuple #[.agg #[.int .i64 NA, .int .i64 1], .int .i64 0]) (by simp only [results, Tryd.results34]; go_simp) rfl ⟨?_, _, rfl, by have h := HPz.out; first | exact h | (rw [← hSl] at h; exact h) | (rw [← HSl.out] at h; exact h)⟩
          (repeat (first | (with_reducible exact bl_refl _) | (with_reducible refine bl_drew ?_) | (with_reducible refine bl_alloc ?_ _) | (with_reducible refine bl_set' ?_ ?_; · (first | omega | (simp; done) | (simp; omega))) | (with_reducible refine bl_last (by assumption) ?_) | (with_reducible refine bl_drewN ?_ _)))
      · have hlt : (A.length : Int) < (T.length : Int) := by rw [hBr] at hAT; simp at hAT; omega
        exfalso
        omega
  · have hg0 : ∀ h : 0 < S.size, S[0]'h = 45 := fun h => by subst hS2; subst hlT; rfl
    have hSp : 0 < l.length := by rw [hlT]; simp
    have hex : S.extract 1 l.length = ⟨T.toArray⟩ := by rw [hS2, hlT]; exact ba_tail _ _
    have hhead : l.head? = some 45 := by rw [hlT]; rfl
    have hlen : (T.length : Int) < (l.length : Int) := by rw [hlT]; simp; omega
    have HSl := Lib.hid hSl
    clear hlT hS2 hSl
    go_enter Tryd.func34, Tryd.ntmps34
    go_wp2
    go_loop [5, 6] (fun a i => ∃ k : Nat, a = .int .i64 (T.length : Int) ∧ i = .int .i64 (k : Int) ∧ k ≤ A.length) (fun _ i => T.length - (intOf i).toNat)
    case atStart => exact ⟨0, rfl, rfl, by omega⟩
    case round =>
      obtain ⟨k, rfl, rfl, hk⟩ := hrel
      have hpre := HPre.out
      have hAT4 : (A.length : Int) ≤ (T.length : Int) := by omega
      by_cases hkA : k < A.length
      · obtain ⟨y, hy1, hy2⟩ := HB.out k hkA
        have hgy := fun hi => ba_get hy1 hi
        have hlt : (k : Int) < (T.length : Int) := by omega
        have hne : ((y.toNat : Int) == 47) = false := by
          have : ¬ y.toNat = 47 := fun e => hy2 (UInt8.toNat.inj e)
          simp
          omega
        have e8 : IntKind.i64.wrap ((k : Int) + 1) = ((k + 1 : Nat) : Int) := by rw [IntKind.wrap_i64]; omega
        go_wp2
        go_round
        case rel => exact ⟨k + 1, rfl, by go_num, hkA⟩
        case measure => simp [intOf]; omega
      obtain rfl : k = A.length := by omega
      rcases HT3.out with hBn | ⟨r, hBr⟩
      · have hAT3 : T.length = A.length := by rw [hBn] at hAT; simp at hAT; omega
        have hnlt : ¬ (A.length : Int) < (T.length : Int) := by omega
        have hpre2 : (⟨T.toArray⟩ : ByteArray).extract 0 T.length = ⟨A.toArray⟩ := by rw [hAT3]; exact hpre
        have HDn2 := HDn.out
        rw [if_pos hBn] at HDn2
        clear HPre HT1 HB HAt hBn
        go_wp2_with fail
        ((with_reducible refine (HNA.out _).mono ?_); rintro en v1 ⟨rfl, rfl⟩)
        clear HNA hpre hpre2
        by_cases hz1 : numZ A < 0
        · have HPz := Lib.hid (paz_none (l := l) (by rw [HRd.out, if_pos (Or.inl hz1)]))
          go_wp2_with fail
          refine bodyPost_ret (v := .tuple #[.agg #[.int .i64 0, .int .i64 0], .int .i64 8]) (by simp only [results, Tryd.results34]; go_simp) rfl ⟨?_, _, rfl, by have h := HPz.out; first | exact h | (rw [← hSl] at h; exact h) | (rw [← HSl.out] at h; exact h)⟩
          (repeat (first | (with_reducible exact bl_refl _) | (with_reducible refine bl_drew ?_) | (with_reducible refine bl_alloc ?_ _) | (with_reducible refine bl_set' ?_ ?_; · (first | omega | (simp; done) | (simp; omega))) | (with_reducible refine bl_last (by assumption) ?_) | (with_reducible refine bl_drewN ?_ _)))
        have hz2 : ¬ (1 : Int) < 0 := by omega
        have hrd2 : rdZ l = some ((-numZ A), 1) := by
          rw [HRd.out, HDn2, if_neg (by rintro (h | h) <;> omega)]
          rw [if_pos hhead]
        have hro := paz_uni hrd2
        have hX := fun W => RText_c (-numZ A) 1 W
        have hw := tx_ways (-numZ A) 1 S
        have hn1 := numZ_bd A
        have wN : IntKind.i64.wrap (-numZ A) = -numZ A := by rw [IntKind.wrap_i64]; omega
        first | rw [hSl] at hw | rw [show (⟨T.toArray⟩ : ByteArray).data.toList = T from rfl] at hw | rw [HSl.out] at hw
        generalize numZ A = NA at *
        generalize txV (-NA) 1 = VX at *
        rcases hw with ⟨v1, rfl⟩ | ⟨v1, v2, rfl, v3⟩ | ⟨v1, v2, rfl⟩
        · have HX := Lib.hid hX
          have HPz := Lib.hid (PaP.bad hro (Or.inl v1))
          clear hX hro v1 hrd2
          go_wp2_with (go_at_call 37; ((with_reducible refine (HX.out _).mono ?_); rintro e w' ⟨rfl, hb⟩; obtain ⟨hz, hc, hf⟩ := bcl hb (by first | (simp; rfl) | rfl)))
          refine bodyPost_ret (v := .tuple #[.agg #[.int .i64 0, .int .i64 0], .int .i64 8]) (by simp only [results, Tryd.results34]; go_simp) rfl ⟨?_, _, rfl, by have h := HPz.out; first | exact h | (rw [← hSl] at h; exact h) | (rw [← HSl.out] at h; exact h)⟩
          (repeat (first | (with_reducible exact bl_refl _) | (with_reducible refine bl_drew ?_) | (with_reducible refine bl_alloc ?_ _) | (with_reducible refine bl_set' ?_ ?_; · (first | omega | (simp; done) | (simp; omega))) | (with_reducible refine bl_last (by assumption) ?_) | (with_reducible refine bl_drewN ?_ _)))
        · have HX := Lib.hid hX
          have v4 : ∀ t : List UInt8, ratText (-NA) 1 ≠ t → (ratText (-NA) 1 == t) = false := fun t h => by simpa using h
          have v5 := v4 _ v2
          have HPz := Lib.hid (PaP.bad hro (Or.inr v2))
          clear hX hro v1 v2 v4 hrd2
          go_wp2_with (go_at_call 37; ((with_reducible refine (HX.out _).mono ?_); rintro e w' ⟨rfl, hb⟩; obtain ⟨hz, hc, hf⟩ := bcl hb (by first | (simp; rfl) | rfl)))
          refine bodyPost_ret (v := .tuple #[.agg #[.int .i64 0, .int .i64 0], .int .i64 8]) (by simp only [results, Tryd.results34]; go_simp) rfl ⟨?_, _, rfl, by have h := HPz.out; first | exact h | (rw [← hSl] at h; exact h) | (rw [← HSl.out] at h; exact h)⟩
          (repeat (first | (with_reducible exact bl_refl _) | (with_reducible refine bl_drew ?_) | (with_reducible refine bl_alloc ?_ _) | (with_reducible refine bl_set' ?_ ?_; · (first | omega | (simp; done) | (simp; omega))) | (with_reducible refine bl_last (by assumption) ?_) | (with_reducible refine bl_drewN ?_ _)))
        · have HX := Lib.hid hX
          have HPz := Lib.hid (PaP.good v1 v2)
          clear hX hro v1 v2 hrd2
          go_wp2_with (go_at_call 37; ((with_reducible refine (HX.out _).mono ?_); rintro e w' ⟨rfl, hb⟩; obtain ⟨hz, hc, hf⟩ := bcl hb (by first | (simp; rfl) | rfl)))
          refine bodyPost_ret (v := .tuple #[.agg #[.int .i64 (-NA), .int .i64 1], .int .i64 0]) (by simp only [results, Tryd.results34]; go_simp) rfl ⟨?_, _, rfl, by have h := HPz.out; first | exact h | (rw [← hSl] at h; exact h) | (rw [← HSl.out] at h; exact h)⟩
          (repeat (first | (with_reducible exact bl_refl _) | (with_reducible refine bl_drew ?_) | (with_reducible refine bl_alloc ?_ _) | (with_reducible refine bl_set' ?_ ?_; · (first | omega | (simp; done) | (simp; omega))) | (with_reducible refine bl_last (by assumption) ?_) | (with_reducible refine bl_drewN ?_ _)))
      · have hlt : (A.length : Int) < (T.length : Int) := by rw [hBr] at hAT; simp at hAT; omega
        have hgy := fun hi => ba_get (HAt.out (by omega)) hi
        have HDn2 := HDn.out
        rw [if_neg (by rw [hBr]; simp)] at HDn2
        have hsuf : (⟨T.toArray⟩ : ByteArray).extract (A.length + 1) T.length = ⟨B.tail.toArray⟩ := by
          have h1 := ba_suf A r 47
          have h2 := HT1.out
          rw [hBr] at h2 ⊢
          rw [← h2]
          exact h1
        have HNB := Lib.hid (fun W => RnumberZ_c B.tail W (by rw [hBr] at hAT ⊢; simp at hAT ⊢; omega))
        have hAT5 : (A.length : Int) + 1 ≤ (T.length : Int) := by omega
        have wA : IntKind.i64.wrap ((A.length : Int) + 1) = ((A.length + 1 : Nat) : Int) := by rw [IntKind.wrap_i64]; omega
        clear HPre HT1 HB HAt hBr
        go_wp2_with fail
        ((with_reducible refine (HNA.out _).mono ?_); rintro en v1 ⟨rfl, rfl⟩)
        clear hpre HNA hgy
        go_wp2_with fail
        ((with_reducible refine (HNB.out _).mono ?_); rintro en v2 ⟨rfl, rfl⟩)
        clear HNB hsuf
        by_cases hz1 : numZ A < 0
        · have HPz := Lib.hid (paz_none (l := l) (by rw [HRd.out, if_pos (Or.inl hz1)]))
          go_wp2_with fail
          refine bodyPost_ret (v := .tuple #[.agg #[.int .i64 0, .int .i64 0], .int .i64 8]) (by simp only [results, Tryd.results34]; go_simp) rfl ⟨?_, _, rfl, by have h := HPz.out; first | exact h | (rw [← hSl] at h; exact h) | (rw [← HSl.out] at h; exact h)⟩
          (repeat (first | (with_reducible exact bl_refl _) | (with_reducible refine bl_drew ?_) | (with_reducible refine bl_alloc ?_ _) | (with_reducible refine bl_set' ?_ ?_; · (first | omega | (simp; done) | (simp; omega))) | (with_reducible refine bl_last (by assumption) ?_) | (with_reducible refine bl_drewN ?_ _)))
        by_cases hz2 : (numZ B.tail) < 0
        · have HPz := Lib.hid (paz_none (l := l) (by rw [HRd.out, HDn2, if_pos (Or.inr (by first | exact hz2 | omega))]))
          go_wp2_with fail
          refine bodyPost_ret (v := .tuple #[.agg #[.int .i64 0, .int .i64 0], .int .i64 8]) (by simp only [results, Tryd.results34]; go_simp) rfl ⟨?_, _, rfl, by have h := HPz.out; first | exact h | (rw [← hSl] at h; exact h) | (rw [← HSl.out] at h; exact h)⟩
          (repeat (first | (with_reducible exact bl_refl _) | (with_reducible refine bl_drew ?_) | (with_reducible refine bl_alloc ?_ _) | (with_reducible refine bl_set' ?_ ?_; · (first | omega | (simp; done) | (simp; omega))) | (with_reducible refine bl_last (by assumption) ?_) | (with_reducible refine bl_drewN ?_ _)))
        have hrd2 : rdZ l = some ((-numZ A), (numZ B.tail)) := by
          rw [HRd.out, HDn2, if_neg (by rintro (h | h) <;> omega)]
          rw [if_pos hhead]
        have hro := paz_uni hrd2
        have hX := fun W => RText_c (-numZ A) (numZ B.tail) W
        have hw := tx_ways (-numZ A) (numZ B.tail) S
        have hn1 := numZ_bd A
        have wN : IntKind.i64.wrap (-numZ A) = -numZ A := by rw [IntKind.wrap_i64]; omega
        first | rw [hSl] at hw | rw [show (⟨T.toArray⟩ : ByteArray).data.toList = T from rfl] at hw | rw [HSl.out] at hw
        generalize numZ A = NA at *
        generalize numZ B.tail = DB at *
        generalize txV (-NA) DB = VX at *
        rcases hw with ⟨v1, rfl⟩ | ⟨v1, v2, rfl, v3⟩ | ⟨v1, v2, rfl⟩
        · have HX := Lib.hid hX
          have HPz := Lib.hid (PaP.bad hro (Or.inl v1))
          clear hX hro v1 hrd2
          go_wp2_with (go_at_call 37; ((with_reducible refine (HX.out _).mono ?_); rintro e w' ⟨rfl, hb⟩; obtain ⟨hz, hc, hf⟩ := bcl hb (by first | (simp; rfl) | rfl)))
          refine bodyPost_ret (v := .tuple #[.agg #[.int .i64 0, .int .i64 0], .int .i64 8]) (by simp only [results, Tryd.results34]; go_simp) rfl ⟨?_, _, rfl, by have h := HPz.out; first | exact h | (rw [← hSl] at h; exact h) | (rw [← HSl.out] at h; exact h)⟩
          (repeat (first | (with_reducible exact bl_refl _) | (with_reducible refine bl_drew ?_) | (with_reducible refine bl_alloc ?_ _) | (with_reducible refine bl_set' ?_ ?_; · (first | omega | (simp; done) | (simp; omega))) | (with_reducible refine bl_last (by assumption) ?_) | (with_reducible refine bl_drewN ?_ _)))
        · have HX := Lib.hid hX
          have v4 : ∀ t : List UInt8, ratText (-NA) DB ≠ t → (ratText (-NA) DB == t) = false := fun t h => by simpa using h
          have v5 := v4 _ v2
          have HPz := Lib.hid (PaP.bad hro (Or.inr v2))
          clear hX hro v1 v2 v4 hrd2
          go_wp2_with (go_at_call 37; ((with_reducible refine (HX.out _).mono ?_); rintro e w' ⟨rfl, hb⟩; obtain ⟨hz, hc, hf⟩ := bcl hb (by first | (simp; rfl) | rfl)))
          refine bodyPost_ret (v := .tuple #[.agg #[.int .i64 0, .int .i64 0], .int .i64 8]) (by simp only [results, Tryd.results34]; go_simp) rfl ⟨?_, _, rfl, by have h := HPz.out; first | exact h | (rw [← hSl] at h; exact h) | (rw [← HSl.out] at h; exact h)⟩
          (repeat (first | (with_reducible exact bl_refl _) | (with_reducible refine bl_drew ?_) | (with_reducible refine bl_alloc ?_ _) | (with_reducible refine bl_set' ?_ ?_; · (first | omega | (simp; done) | (simp; omega))) | (with_reducible refine bl_last (by assumption) ?_) | (with_reducible refine bl_drewN ?_ _)))
        · have HX := Lib.hid hX
          have HPz := Lib.hid (PaP.good v1 v2)
          clear hX hro v1 v2 hrd2
          go_wp2_with (go_at_call 37; ((with_reducible refine (HX.out _).mono ?_); rintro e w' ⟨rfl, hb⟩; obtain ⟨hz, hc, hf⟩ := bcl hb (by first | (simp; rfl) | rfl)))
          refine bodyPost_ret (v := .tuple #[.agg #[.int .i64 (-NA), .int .i64 DB], .int .i64 0]) (by simp only [results, Tryd.results34]; go_simp) rfl ⟨?_, _, rfl, by have h := HPz.out; first | exact h | (rw [← hSl] at h; exact h) | (rw [← HSl.out] at h; exact h)⟩
          (repeat (first | (with_reducible exact bl_refl _) | (with_reducible refine bl_drew ?_) | (with_reducible refine bl_alloc ?_ _) | (with_reducible refine bl_set' ?_ ?_; · (first | omega | (simp; done) | (simp; omega))) | (with_reducible refine bl_last (by assumption) ?_) | (with_reducible refine bl_drewN ?_ _)))
  · obtain rfl := hlT.symm
    obtain rfl : S = ⟨T.toArray⟩ := HS.out
    have hg0 : ∀ h : 0 < (⟨T.toArray⟩ : ByteArray).size, (⟨T.toArray⟩ : ByteArray)[0]'h = x := fun h => by subst hTx; rfl
    have hSp : 0 < T.length := by rw [hTx]; simp
    have hx45 : ((x.toNat : Int) == 45) = false := by
      have : ¬ x.toNat = 45 := fun e => hx (UInt8.toNat.inj e)
      simp
      omega
    have hhead : ¬ T.head? = some 45 := by rw [hTx]; simp; exact hx
    have HSl := Lib.hid hSl
    clear hTx hS2 hSl hSz
    go_enter Tryd.func34, Tryd.ntmps34
    go_wp2
    go_loop [5, 6] (fun a i => ∃ k : Nat, a = .int .i64 (T.length : Int) ∧ i = .int .i64 (k : Int) ∧ k ≤ A.length) (fun _ i => T.length - (intOf i).toNat)
    case atStart => exact ⟨0, rfl, rfl, by omega⟩
    case round =>
      obtain ⟨k, rfl, rfl, hk⟩ := hrel
      have hpre := HPre.out
      have hAT4 : (A.length : Int) ≤ (T.length : Int) := by omega
      by_cases hkA : k < A.length
      · obtain ⟨y, hy1, hy2⟩ := HB.out k hkA
        have hgy := fun hi => ba_get hy1 hi
        have hlt : (k : Int) < (T.length : Int) := by omega
        have hne : ((y.toNat : Int) == 47) = false := by
          have : ¬ y.toNat = 47 := fun e => hy2 (UInt8.toNat.inj e)
          simp
          omega
        have e8 : IntKind.i64.wrap ((k : Int) + 1) = ((k + 1 : Nat) : Int) := by rw [IntKind.wrap_i64]; omega
        go_wp2
        go_round
        case rel => exact ⟨k + 1, rfl, by go_num, hkA⟩
        case measure => simp [intOf]; omega
      obtain rfl : k = A.length := by omega
      rcases HT3.out with hBn | ⟨r, hBr⟩
      · have hAT3 : T.length = A.length := by rw [hBn] at hAT; simp at hAT; omega
        have hnlt : ¬ (A.length : Int) < (T.length : Int) := by omega
        have hpre2 : (⟨T.toArray⟩ : ByteArray).extract 0 T.length = ⟨A.toArray⟩ := by rw [hAT3]; exact hpre
        have HDn2 := HDn.out
        rw [if_pos hBn] at HDn2
        clear HPre HT1 HB HAt hBn
        go_wp2_with fail
        ((with_reducible refine (HNA.out _).mono ?_); rintro en v1 ⟨rfl, rfl⟩)
        clear HNA hpre hpre2
        by_cases hz1 : numZ A < 0
        · have HPz := Lib.hid (paz_none (l := T) (by rw [HRd.out, if_pos (Or.inl hz1)]))
          go_wp2_with fail
          refine bodyPost_ret (v := .tuple #[.agg #[.int .i64 0, .int .i64 0], .int .i64 8]) (by simp only [results, Tryd.results34]; go_simp) rfl ⟨?_, _, rfl, by have h := HPz.out; first | exact h | (rw [← hSl] at h; exact h) | (rw [← HSl.out] at h; exact h)⟩
          (repeat (first | (with_reducible exact bl_refl _) | (with_reducible refine bl_drew ?_) | (with_reducible refine bl_alloc ?_ _) | (with_reducible refine bl_set' ?_ ?_; · (first | omega | (simp; done) | (simp; omega))) | (with_reducible refine bl_last (by assumption) ?_) | (with_reducible refine bl_drewN ?_ _)))
        have hz2 : ¬ (1 : Int) < 0 := by omega
        have hrd2 : rdZ T = some ((numZ A), 1) := by
          rw [HRd.out, HDn2, if_neg (by rintro (h | h) <;> omega)]
          rw [if_neg hhead]
        have hro := paz_uni hrd2
        have hX := fun W => RText_c (numZ A) 1 W
        have hw := tx_ways (numZ A) 1 (⟨T.toArray⟩ : ByteArray)
        have hn1 := numZ_bd A
        have wN : IntKind.i64.wrap (-numZ A) = -numZ A := by rw [IntKind.wrap_i64]; omega
        first | rw [hSl] at hw | rw [show (⟨T.toArray⟩ : ByteArray).data.toList = T from rfl] at hw | rw [HSl.out] at hw
        generalize numZ A = NA at *
        generalize txV NA 1 = VX at *
        rcases hw with ⟨v1, rfl⟩ | ⟨v1, v2, rfl, v3⟩ | ⟨v1, v2, rfl⟩
        · have HX := Lib.hid hX
          have HPz := Lib.hid (PaP.bad hro (Or.inl v1))
          clear hX hro v1 hrd2
          go_wp2_with (go_at_call 37; ((with_reducible refine (HX.out _).mono ?_); rintro e w' ⟨rfl, hb⟩; obtain ⟨hz, hc, hf⟩ := bcl hb (by first | (simp; rfl) | rfl)))
          refine bodyPost_ret (v := .tuple #[.agg #[.int .i64 0, .int .i64 0], .int .i64 8]) (by simp only [results, Tryd.results34]; go_simp) rfl ⟨?_, _, rfl, by have h := HPz.out; first | exact h | (rw [← hSl] at h; exact h) | (rw [← HSl.out] at h; exact h)⟩
          (repeat (first | (with_reducible exact bl_refl _) | (with_reducible refine bl_drew ?_) | (with_reducible refine bl_alloc ?_ _) | (with_reducible refine bl_set' ?_ ?_; · (first | omega | (simp; done) | (simp; omega))) | (with_reducible refine bl_last (by assumption) ?_) | (with_reducible refine bl_drewN ?_ _)))
        · have HX := Lib.hid hX
          have v4 : ∀ t : List UInt8, ratText NA 1 ≠ t → (ratText NA 1 == t) = false := fun t h => by simpa using h
          have v5 := v4 _ v2
          have HPz := Lib.hid (PaP.bad hro (Or.inr v2))
          clear hX hro v1 v2 v4 hrd2
          go_wp2_with (go_at_call 37; ((with_reducible refine (HX.out _).mono ?_); rintro e w' ⟨rfl, hb⟩; obtain ⟨hz, hc, hf⟩ := bcl hb (by first | (simp; rfl) | rfl)))
          refine bodyPost_ret (v := .tuple #[.agg #[.int .i64 0, .int .i64 0], .int .i64 8]) (by simp only [results, Tryd.results34]; go_simp) rfl ⟨?_, _, rfl, by have h := HPz.out; first | exact h | (rw [← hSl] at h; exact h) | (rw [← HSl.out] at h; exact h)⟩
          (repeat (first | (with_reducible exact bl_refl _) | (with_reducible refine bl_drew ?_) | (with_reducible refine bl_alloc ?_ _) | (with_reducible refine bl_set' ?_ ?_; · (first | omega | (simp; done) | (simp; omega))) | (with_reducible refine bl_last (by assumption) ?_) | (with_reducible refine bl_drewN ?_ _)))
        · have HX := Lib.hid hX
          have HPz := Lib.hid (PaP.good v1 v2)
          clear hX hro v1 v2 hrd2
          go_wp2_with (go_at_call 37; ((with_reducible refine (HX.out _).mono ?_); rintro e w' ⟨rfl, hb⟩; obtain ⟨hz, hc, hf⟩ := bcl hb (by first | (simp; rfl) | rfl)))
          refine bodyPost_ret (v := .tuple #[.agg #[.int .i64 NA, .int .i64 1], .int .i64 0]) (by simp only [results, Tryd.results34]; go_simp) rfl ⟨?_, _, rfl, by have h := HPz.out; first | exact h | (rw [← hSl] at h; exact h) | (rw [← HSl.out] at h; exact h)⟩
          (repeat (first | (with_reducible exact bl_refl _) | (with_reducible refine bl_drew ?_) | (with_reducible refine bl_alloc ?_ _) | (with_reducible refine bl_set' ?_ ?_; · (first | omega | (simp; done) | (simp; omega))) | (with_reducible refine bl_last (by assumption) ?_) | (with_reducible refine bl_drewN ?_ _)))
      · have hlt : (A.length : Int) < (T.length : Int) := by rw [hBr] at hAT; simp at hAT; omega
        have hgy := fun hi => ba_get (HAt.out (by omega)) hi
        have HDn2 := HDn.out
        rw [if_neg (by rw [hBr]; simp)] at HDn2
        have hsuf : (⟨T.toArray⟩ : ByteArray).extract (A.length + 1) T.length = ⟨B.tail.toArray⟩ := by
          have h1 := ba_suf A r 47
          have h2 := HT1.out
          rw [hBr] at h2 ⊢
          rw [← h2]
          exact h1
        have HNB := Lib.hid (fun W => RnumberZ_c B.tail W (by rw [hBr] at hAT ⊢; simp at hAT ⊢; omega))
        have hAT5 : (A.length : Int) + 1 ≤ (T.length : Int) := by omega
        have wA : IntKind.i64.wrap ((A.length : Int) + 1) = ((A.length + 1 : Nat) : Int) := by rw [IntKind.wrap_i64]; omega
        clear HPre HT1 HB HAt hBr
        go_wp2_with fail
        ((with_reducible refine (HNA.out _).mono ?_); rintro en v1 ⟨rfl, rfl⟩)
        clear hpre HNA hgy
        go_wp2_with fail
        ((with_reducible refine (HNB.out _).mono ?_); rintro en v2 ⟨rfl, rfl⟩)
        clear HNB hsuf
        by_cases hz1 : numZ A < 0
        · have HPz := Lib.hid (paz_none (l := T) (by rw [HRd.out, if_pos (Or.inl hz1)]))
          go_wp2_with fail
          refine bodyPost_ret (v := .tuple #[.agg #[.int .i64 0, .int .i64 0], .int .i64 8]) (by simp only [results, Tryd.results34]; go_simp) rfl ⟨?_, _, rfl, by have h := HPz.out; first | exact h | (rw [← hSl] at h; exact h) | (rw [← HSl.out] at h; exact h)⟩
          (repeat (first | (with_reducible exact bl_refl _) | (with_reducible refine bl_drew ?_) | (with_reducible refine bl_alloc ?_ _) | (with_reducible refine bl_set' ?_ ?_; · (first | omega | (simp; done) | (simp; omega))) | (with_reducible refine bl_last (by assumption) ?_) | (with_reducible refine bl_drewN ?_ _)))
        by_cases hz2 : (numZ B.tail) < 0
        · have HPz := Lib.hid (paz_none (l := T) (by rw [HRd.out, HDn2, if_pos (Or.inr (by first | exact hz2 | omega))]))
          go_wp2_with fail
          refine bodyPost_ret (v := .tuple #[.agg #[.int .i64 0, .int .i64 0], .int .i64 8]) (by simp only [results, Tryd.results34]; go_simp) rfl ⟨?_, _, rfl, by have h := HPz.out; first | exact h | (rw [← hSl] at h; exact h) | (rw [← HSl.out] at h; exact h)⟩
          (repeat (first | (with_reducible exact bl_refl _) | (with_reducible refine bl_drew ?_) | (with_reducible refine bl_alloc ?_ _) | (with_reducible refine bl_set' ?_ ?_; · (first | omega | (simp; done) | (simp; omega))) | (with_reducible refine bl_last (by assumption) ?_) | (with_reducible refine bl_drewN ?_ _)))
        have hrd2 : rdZ T = some ((numZ A), (numZ B.tail)) := by
          rw [HRd.out, HDn2, if_neg (by rintro (h | h) <;> omega)]
          rw [if_neg hhead]
        have hro := paz_uni hrd2
        have hX := fun W => RText_c (numZ A) (numZ B.tail) W
        have hw := tx_ways (numZ A) (numZ B.tail) (⟨T.toArray⟩ : ByteArray)
        have hn1 := numZ_bd A
        have wN : IntKind.i64.wrap (-numZ A) = -numZ A := by rw [IntKind.wrap_i64]; omega
        first | rw [hSl] at hw | rw [show (⟨T.toArray⟩ : ByteArray).data.toList = T from rfl] at hw | rw [HSl.out] at hw
        generalize numZ A = NA at *
        generalize numZ B.tail = DB at *
        generalize txV NA DB = VX at *
        rcases hw with ⟨v1, rfl⟩ | ⟨v1, v2, rfl, v3⟩ | ⟨v1, v2, rfl⟩
        · have HX := Lib.hid hX
          have HPz := Lib.hid (PaP.bad hro (Or.inl v1))
          clear hX hro v1 hrd2
          go_wp2_with (go_at_call 37; ((with_reducible refine (HX.out _).mono ?_); rintro e w' ⟨rfl, hb⟩; obtain ⟨hz, hc, hf⟩ := bcl hb (by first | (simp; rfl) | rfl)))
          refine bodyPost_ret (v := .tuple #[.agg #[.int .i64 0, .int .i64 0], .int .i64 8]) (by simp only [results, Tryd.results34]; go_simp) rfl ⟨?_, _, rfl, by have h := HPz.out; first | exact h | (rw [← hSl] at h; exact h) | (rw [← HSl.out] at h; exact h)⟩
          (repeat (first | (with_reducible exact bl_refl _) | (with_reducible refine bl_drew ?_) | (with_reducible refine bl_alloc ?_ _) | (with_reducible refine bl_set' ?_ ?_; · (first | omega | (simp; done) | (simp; omega))) | (with_reducible refine bl_last (by assumption) ?_) | (with_reducible refine bl_drewN ?_ _)))
        · have HX := Lib.hid hX
          have v4 : ∀ t : List UInt8, ratText NA DB ≠ t → (ratText NA DB == t) = false := fun t h => by simpa using h
          have v5 := v4 _ v2
          have HPz := Lib.hid (PaP.bad hro (Or.inr v2))
          clear hX hro v1 v2 v4 hrd2
          go_wp2_with (go_at_call 37; ((with_reducible refine (HX.out _).mono ?_); rintro e w' ⟨rfl, hb⟩; obtain ⟨hz, hc, hf⟩ := bcl hb (by first | (simp; rfl) | rfl)))
          refine bodyPost_ret (v := .tuple #[.agg #[.int .i64 0, .int .i64 0], .int .i64 8]) (by simp only [results, Tryd.results34]; go_simp) rfl ⟨?_, _, rfl, by have h := HPz.out; first | exact h | (rw [← hSl] at h; exact h) | (rw [← HSl.out] at h; exact h)⟩
          (repeat (first | (with_reducible exact bl_refl _) | (with_reducible refine bl_drew ?_) | (with_reducible refine bl_alloc ?_ _) | (with_reducible refine bl_set' ?_ ?_; · (first | omega | (simp; done) | (simp; omega))) | (with_reducible refine bl_last (by assumption) ?_) | (with_reducible refine bl_drewN ?_ _)))
        · have HX := Lib.hid hX
          have HPz := Lib.hid (PaP.good v1 v2)
          clear hX hro v1 v2 hrd2
          go_wp2_with (go_at_call 37; ((with_reducible refine (HX.out _).mono ?_); rintro e w' ⟨rfl, hb⟩; obtain ⟨hz, hc, hf⟩ := bcl hb (by first | (simp; rfl) | rfl)))
          refine bodyPost_ret (v := .tuple #[.agg #[.int .i64 NA, .int .i64 DB], .int .i64 0]) (by simp only [results, Tryd.results34]; go_simp) rfl ⟨?_, _, rfl, by have h := HPz.out; first | exact h | (rw [← hSl] at h; exact h) | (rw [← HSl.out] at h; exact h)⟩
          (repeat (first | (with_reducible exact bl_refl _) | (with_reducible refine bl_drew ?_) | (with_reducible refine bl_alloc ?_ _) | (with_reducible refine bl_set' ?_ ?_; · (first | omega | (simp; done) | (simp; omega))) | (with_reducible refine bl_last (by assumption) ?_) | (with_reducible refine bl_drewN ?_ _)))
end Go.Proofs.YtmjbcoapceoakaaDoor
