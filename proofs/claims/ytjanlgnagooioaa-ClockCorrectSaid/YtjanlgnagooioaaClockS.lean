/- Clock: the reference's Sure. -/
import Derived.Test.YtjanlgnagooioaaClockR
namespace Go.Proofs.Ytjanlgnagooioaa
open Go.RowKit

theorem pass_one {s e d r t : Int} : passF s e d r t = 1 ↔ t ≤ fstF s e d r := by
  unfold passF
  by_cases h : t ≤ fstF s e d r
  · simp [h]
  · simp only [h, if_false, iff_false]
    split <;> omega

set_option maxHeartbeats 1000000 in
theorem RSure_no (s e d t : Int) (w : World) (h : (vldB s e d && tickB t) = false) :
    Calls Try.prog 19 #[.agg #[.int .i64 s, .int .i64 e, .int .i64 d], .int .i64 t] w (Ret (.tuple #[.int .i64 0, .int .i64 1]) w) := by
  have h' : vldB s e d = false ∨ (vldB s e d = true ∧ tickB t = false) := by
    cases h1 : vldB s e d <;> simp_all
  clear h
  rcases h' with h1 | ⟨h1, h2⟩
  all_goals
    go_enter Try.func19, Try.ntmps19
    go_wp2_with (first | (go_at_call 13; refine (Rvalid_c _ _ _ _).mono ?_; rintro e w' ⟨rfl, hb⟩; obtain ⟨hz, hc, hf⟩ := bcl hb (by first | (simp; rfl) | rfl)) | (go_at_call 26; refine (Rtick_c _ _).mono ?_; rintro e w' ⟨rfl, hb⟩; obtain ⟨hz, hc, hf⟩ := bcl hb (by first | (simp; rfl) | rfl)))
    go_ret2
    refine ⟨rfl, ?_⟩
    (repeat (first | (with_reducible exact bl_refl _) | (with_reducible refine bl_drew ?_) | (with_reducible refine bl_alloc ?_ _) | (with_reducible refine bl_set' ?_ ?_; · (first | omega | (simp; done) | (simp; omega))) | (with_reducible refine bl_last (by assumption) ?_) | (with_reducible refine bl_drewN ?_ _)))

set_option maxHeartbeats 1000000 in
theorem RSure_ok (s e d t : Int) (w : World) (h : vldB s e d = true) (ht : tickB t = true) :
    Calls Try.prog 19 #[.agg #[.int .i64 s, .int .i64 e, .int .i64 d], .int .i64 t] w
      (Ret (.tuple #[.int .i64 (if sureK s e d t < sureN s then s + sureK s e d t else 0), .int .i64 (if sureK s e d t < sureN s then 0 else 4)]) w) := by
  have hv := vld_of h
  obtain ⟨a, b, c, d1, e1, f⟩ := hv
  obtain ⟨hk1, hk2, hk3⟩ := leastF_spec (sureP s e d t) (sureN s)
  have hN : ((sureN s : Nat) : Int) = 100000 - s + 1 := by unfold sureN; omega
  have HP := Lib.hid (fun (i : Nat) (hi : i < sureN s) (w : World) => RPassed_ok s e d (s + i) t w (rd_mk h (by omega) (by omega)) ht)
  have hP1 : ∀ i, i < sureK s e d t → (passF s e d (s + (i : Int)) t == 1) = false := fun i hi => by
    have h1 := hk2 i hi
    unfold sureP at h1
    simp only [decide_eq_false_iff_not] at h1
    exact beq_eq_false_iff_ne.2 (fun h2 => h1 (pass_one.1 h2))
  have hP2 : sureK s e d t < sureN s → (passF s e d (s + (sureK s e d t : Int)) t == 1) = true := fun hi => by
    have h1 : sureP s e d t (sureK s e d t) = true := hk3 hi
    unfold sureP at h1
    simp only [decide_eq_true_eq] at h1
    exact beq_iff_eq.2 (pass_one.2 h1)
  have hk1' : sureK s e d t ≤ sureN s := hk1
  clear hk1 hk2 hk3
  generalize sureK s e d t = k at *
  generalize sureN s = n at *
  generalize hX : (if k < n then s + (k : Int) else 0) = X
  generalize hY : (if k < n then (0 : Int) else 4) = Y
  have HX := Lib.hid hX
  have HY := Lib.hid hY
  clear hX hY
  have HN := Lib.hid hN
  have HP1 := Lib.hid hP1
  have HP2 := Lib.hid hP2
  clear hN hP1 hP2
  go_enter Try.func19, Try.ntmps19
  go_wp2_with (first | (go_at_call 13; refine (Rvalid_c _ _ _ _).mono ?_; rintro e w' ⟨rfl, hb⟩; obtain ⟨hz, hc, hf⟩ := bcl hb (by first | (simp; rfl) | rfl)) | (go_at_call 26; refine (Rtick_c _ _).mono ?_; rintro e w' ⟨rfl, hb⟩; obtain ⟨hz, hc, hf⟩ := bcl hb (by first | (simp; rfl) | rfl)))
  have hbw : Below w.heap.size w w' := by (repeat (first | (with_reducible exact bl_refl _) | (with_reducible refine bl_drew ?_) | (with_reducible refine bl_alloc ?_ _) | (with_reducible refine bl_set' ?_ ?_; · (first | omega | (simp; done) | (simp; omega))) | (with_reducible refine bl_last (by assumption) ?_) | (with_reducible refine bl_drewN ?_ _)))
  have c1 : w'.cell? ⟨w.heap.size, 0, none⟩ = some (.int .i64 s) := by go_simp
  have c2 : w'.cell? ⟨w.heap.size, 1, none⟩ = some (.int .i64 e) := by go_simp
  have c3 : w'.cell? ⟨w.heap.size, 2, none⟩ = some (.int .i64 d) := by go_simp
  have hsz : w.heap.size < w'.heap.size := by omega
  clear hc hf hz hb
  go_loopw [8, 9, 10] (fun s8 s9 s10 wr => ∃ i : Nat, s8 = .int .i64 (s + i) ∧ i ≤ k ∧ Below w'.heap.size w' wr) (fun s8 _ _ _ => (100001 - intOf s8).toNat)
  case atStart => exact ⟨0, by simp, Nat.zero_le _, bl_refl _⟩
  case round =>
    obtain ⟨i, rfl, hi, hbr⟩ := hrel
    have r1 := keep_cell hbr c1
    have r2 := keep_cell hbr c2
    have r3 := keep_cell hbr c3
    by_cases hlt : i < k
    · have h4 := HP1.out i hlt
      have hin : s + (i : Int) ≤ 100000 := by have := HN.out; omega
      go_wp2_with fail
      refine (HP.out i (by omega) _).mono ?_
      rintro e w' ⟨rfl, hb⟩
      go_wp2
      go_roundw
      case rel => exact ⟨i + 1, by rw [show s + (i : Int) + 1 = s + ((i + 1 : Nat) : Int) by omega], hlt, bl_trans hbr hb⟩
      case measure => simp [intOf]; omega
    · obtain rfl : i = k := by omega
      by_cases hkn : i < n
      · have h4 := HP2.out hkn
        have hin : s + (i : Int) ≤ 100000 := by have := HN.out; omega
        have hX := HX.out
        have hY := HY.out
        rw [if_pos hkn] at hX hY
        subst hX hY
        go_wp2_with fail
        refine (HP.out i hkn _).mono ?_
        rintro e w' ⟨rfl, hb⟩
        go_wp2
        go_ret2
        exact ⟨rfl, bl_trans (bl_trans hbw hbr) hb⟩
      · have hin : 100000 < s + (i : Int) := by have := HN.out; omega
        have hX := HX.out
        have hY := HY.out
        rw [if_neg hkn] at hX hY
        subst hX hY
        go_wp2
        go_ret2
        exact ⟨rfl, bl_trans hbw hbr⟩
end Go.Proofs.Ytjanlgnagooioaa
