/- RationalReduced: the walk of the law. -/
import Derived.Test.YtmjbcoapceoakaaDoorRatU
namespace Go.Proofs.YtmjbcoapceoakaaDoor
open Go.RowKit

theorem scaled {a b k : Int} (hk : k ≠ 0) : mkE (a * k) (b * k) = mkE a b ∧ mkN (a * k) (b * k) = mkN a b ∧ mkD (a * k) (b * k) = mkD a b := by
  by_cases hb : b = 0
  · subst hb
    rw [Int.zero_mul]
    unfold mkN mkD
    have e : ∀ n, mkE n 0 = 7 := fun n => by unfold mkE; simp
    rw [e, e]
    exact ⟨rfl, rfl, rfl⟩
  · exact mk_congr (Int.mul_ne_zero hb hk) hb (by grind)
set_option maxRecDepth 100000 in
set_option maxHeartbeats 4000000 in
theorem walk_RationalReduced (n d a b k : Int) (w : World) (wn : (Lit.int .i64 n).wf = true) (wd : (Lit.int .i64 d).wf = true) (wa : (Lit.int .i32 a).wf = true) (wb : (Lit.int .i32 b).wf = true) (wk : (Lit.int .i16 k).wf = true) (ht : PW w) :
    Calls Tryd.prog 3 #[.int .i64 n, .int .i64 d, .int .i32 a, .int .i32 b, .int .i16 k] w (Ret (.bool true) w) := by
  have hn : I64 n := by
    have h1 : (decide ((-9223372036854775808 : Int) ≤ n) && decide (n ≤ 9223372036854775807)) = true := wn
    simpa [I64] using h1
  have hd : I64 d := by
    have h1 : (decide ((-9223372036854775808 : Int) ≤ d) && decide (d ≤ 9223372036854775807)) = true := wd
    simpa [I64] using h1
  have ha : -2147483648 ≤ a ∧ a ≤ 2147483647 := by
    have h1 : (decide ((-2147483648 : Int) ≤ a) && decide (a ≤ 2147483647)) = true := wa
    simpa using h1
  have hb : -2147483648 ≤ b ∧ b ≤ 2147483647 := by
    have h1 : (decide ((-2147483648 : Int) ≤ b) && decide (b ≤ 2147483647)) = true := wb
    simpa using h1
  have hk : -32768 ≤ k ∧ k ≤ 32767 := by
    have h1 : (decide ((-32768 : Int) ≤ k) && decide (k ≤ 32767)) = true := wk
    simpa using h1
  have bd : ∀ x : Int, -2147483648 ≤ x → x ≤ 2147483647 → -70368744177664 ≤ x * k ∧ x * k ≤ 70368744177664 := by
    intro x h1 h2
    have h3 : (x * k).natAbs = x.natAbs * k.natAbs := Int.natAbs_mul x k
    have h4 : x.natAbs * k.natAbs ≤ 2147483648 * 32768 := Nat.mul_le_mul (by omega) (by omega)
    omega
  have pa := bd a ha.1 ha.2
  have pb := bd b hb.1 hb.2
  obtain ⟨ha1, ha2⟩ := ha
  obtain ⟨hb1, hb2⟩ := hb
  obtain ⟨hk1, hk2⟩ := hk
  have HH := Lib.hid (fun w h => head02_c w h)
  have HT := Lib.hid ht
  have A1 := fun w => Make_c n d w hn hd
  have A2 := fun w => Make_c a b w ⟨by omega, by omega⟩ ⟨by omega, by omega⟩
  have A3 := fun w => Make_c (a * k) (b * k) w ⟨by omega, by omega⟩ ⟨by omega, by omega⟩
  have hsc := fun h => scaled (a := a) (b := b) (k := k) h
  have hsp := fun h => mk_spec (n := n) (d := d) h
  unfold mkV at A1 A2 A3
  clear ht wn wd wa wb wk hn hd bd
  generalize mkN n d = N1 at *
  generalize mkD n d = D1 at *
  generalize mkE n d = E1 at *
  generalize mkN (a * k) (b * k) = N3 at *
  generalize mkD (a * k) (b * k) = D3 at *
  generalize mkE (a * k) (b * k) = E3 at *
  generalize mkN a b = N2 at *
  generalize mkD a b = D2 at *
  generalize mkE a b = E2 at *
  have H1 := Lib.hid A1
  have H2 := Lib.hid A2
  have H3 := Lib.hid A3
  clear A1 A2 A3
  obtain ⟨pa1, pa2⟩ := pa
  obtain ⟨pb1, pb2⟩ := pb
  by_cases hE : E1 = 0
  · subst hE
    obtain ⟨_, hv, he⟩ := hsp rfl
    have HV := Lib.hid (fun w => Valid_c N1 D1 w)
    rw [hv] at HV
    clear hsp hv
    by_cases h0 : k = 0
    · subst h0
      clear hsc H2 H3
      go_enter Tryd.func3, Tryd.ntmps3
      go_wp2_with (first | (go_at_call 11; ((with_reducible refine (HH.out _ (tab_up HT.out (by (repeat (first | (with_reducible exact bl_refl _) | (with_reducible refine bl_drew ?_) | (with_reducible refine bl_alloc ?_ _) | (with_reducible refine bl_set' ?_ ?_; · (first | omega | (simp; done) | (simp; omega))) | (with_reducible refine bl_last (by assumption) ?_) | (with_reducible refine bl_drewN ?_ _)))))).mono ?_); rintro e w' ⟨rfl, hb⟩; obtain ⟨hz, hc, hf⟩ := bcl hb (by first | (simp; rfl) | rfl))) | (go_at_call 12; ((with_reducible refine (H1.out _).mono ?_); rintro e w' ⟨rfl, hb⟩; obtain ⟨hz, hc, hf⟩ := bcl hb (by first | (simp; rfl) | rfl))) | (go_at_call 13; ((with_reducible refine (HV.out _).mono ?_); rintro e w' ⟨rfl, hb⟩; obtain ⟨hz, hc, hf⟩ := bcl hb (by first | (simp; rfl) | rfl))))
      go_ret
      refine ⟨rfl, ?_⟩
      (repeat (first | (with_reducible exact bl_refl _) | (with_reducible refine bl_drew ?_) | (with_reducible refine bl_alloc ?_ _) | (with_reducible refine bl_set' ?_ ?_; · (first | omega | (simp; done) | (simp; omega))) | (with_reducible refine bl_last (by assumption) ?_) | (with_reducible refine bl_drewN ?_ _)))
    · obtain ⟨rfl, rfl, rfl⟩ := hsc h0
      have h0' : (k == 0) = false := by simpa using h0
      clear hsc
      go_enter Tryd.func3, Tryd.ntmps3
      go_wp2_with (first | (go_at_call 11; ((with_reducible refine (HH.out _ (tab_up HT.out (by (repeat (first | (with_reducible exact bl_refl _) | (with_reducible refine bl_drew ?_) | (with_reducible refine bl_alloc ?_ _) | (with_reducible refine bl_set' ?_ ?_; · (first | omega | (simp; done) | (simp; omega))) | (with_reducible refine bl_last (by assumption) ?_) | (with_reducible refine bl_drewN ?_ _)))))).mono ?_); rintro e w' ⟨rfl, hb⟩; obtain ⟨hz, hc, hf⟩ := bcl hb (by first | (simp; rfl) | rfl))) | (go_at_call 12; ((with_reducible refine (H1.out _).mono ?_); rintro e w' ⟨rfl, hb⟩; obtain ⟨hz, hc, hf⟩ := bcl hb (by first | (simp; rfl) | rfl))) | (go_at_call 12; ((with_reducible refine (H2.out _).mono ?_); rintro e w' ⟨rfl, hb⟩; obtain ⟨hz, hc, hf⟩ := bcl hb (by first | (simp; rfl) | rfl))) | (go_at_call 12; ((with_reducible refine (H3.out _).mono ?_); rintro e w' ⟨rfl, hb⟩; obtain ⟨hz, hc, hf⟩ := bcl hb (by first | (simp; rfl) | rfl))) | (go_at_call 13; ((with_reducible refine (HV.out _).mono ?_); rintro e w' ⟨rfl, hb⟩; obtain ⟨hz, hc, hf⟩ := bcl hb (by first | (simp; rfl) | rfl))))
      go_ret
      refine ⟨rfl, ?_⟩
      (repeat (first | (with_reducible exact bl_refl _) | (with_reducible refine bl_drew ?_) | (with_reducible refine bl_alloc ?_ _) | (with_reducible refine bl_set' ?_ ?_; · (first | omega | (simp; done) | (simp; omega))) | (with_reducible refine bl_last (by assumption) ?_) | (with_reducible refine bl_drewN ?_ _)))
  · have hE' : (E1 == 0) = false := by simpa using hE
    clear hsp hE
    by_cases h0 : k = 0
    · subst h0
      clear hsc H2 H3
      go_enter Tryd.func3, Tryd.ntmps3
      go_wp2_with (first | (go_at_call 11; ((with_reducible refine (HH.out _ (tab_up HT.out (by (repeat (first | (with_reducible exact bl_refl _) | (with_reducible refine bl_drew ?_) | (with_reducible refine bl_alloc ?_ _) | (with_reducible refine bl_set' ?_ ?_; · (first | omega | (simp; done) | (simp; omega))) | (with_reducible refine bl_last (by assumption) ?_) | (with_reducible refine bl_drewN ?_ _)))))).mono ?_); rintro e w' ⟨rfl, hb⟩; obtain ⟨hz, hc, hf⟩ := bcl hb (by first | (simp; rfl) | rfl))) | (go_at_call 12; ((with_reducible refine (H1.out _).mono ?_); rintro e w' ⟨rfl, hb⟩; obtain ⟨hz, hc, hf⟩ := bcl hb (by first | (simp; rfl) | rfl))))
      go_ret
      refine ⟨rfl, ?_⟩
      (repeat (first | (with_reducible exact bl_refl _) | (with_reducible refine bl_drew ?_) | (with_reducible refine bl_alloc ?_ _) | (with_reducible refine bl_set' ?_ ?_; · (first | omega | (simp; done) | (simp; omega))) | (with_reducible refine bl_last (by assumption) ?_) | (with_reducible refine bl_drewN ?_ _)))
    · obtain ⟨rfl, rfl, rfl⟩ := hsc h0
      have h0' : (k == 0) = false := by simpa using h0
      clear hsc
      go_enter Tryd.func3, Tryd.ntmps3
      go_wp2_with (first | (go_at_call 11; ((with_reducible refine (HH.out _ (tab_up HT.out (by (repeat (first | (with_reducible exact bl_refl _) | (with_reducible refine bl_drew ?_) | (with_reducible refine bl_alloc ?_ _) | (with_reducible refine bl_set' ?_ ?_; · (first | omega | (simp; done) | (simp; omega))) | (with_reducible refine bl_last (by assumption) ?_) | (with_reducible refine bl_drewN ?_ _)))))).mono ?_); rintro e w' ⟨rfl, hb⟩; obtain ⟨hz, hc, hf⟩ := bcl hb (by first | (simp; rfl) | rfl))) | (go_at_call 12; ((with_reducible refine (H1.out _).mono ?_); rintro e w' ⟨rfl, hb⟩; obtain ⟨hz, hc, hf⟩ := bcl hb (by first | (simp; rfl) | rfl))) | (go_at_call 12; ((with_reducible refine (H2.out _).mono ?_); rintro e w' ⟨rfl, hb⟩; obtain ⟨hz, hc, hf⟩ := bcl hb (by first | (simp; rfl) | rfl))) | (go_at_call 12; ((with_reducible refine (H3.out _).mono ?_); rintro e w' ⟨rfl, hb⟩; obtain ⟨hz, hc, hf⟩ := bcl hb (by first | (simp; rfl) | rfl))))
      go_ret
      refine ⟨rfl, ?_⟩
      (repeat (first | (with_reducible exact bl_refl _) | (with_reducible refine bl_drew ?_) | (with_reducible refine bl_alloc ?_ _) | (with_reducible refine bl_set' ?_ ?_; · (first | omega | (simp; done) | (simp; omega))) | (with_reducible refine bl_last (by assumption) ?_) | (with_reducible refine bl_drewN ?_ _)))
end Go.Proofs.YtmjbcoapceoakaaDoor
