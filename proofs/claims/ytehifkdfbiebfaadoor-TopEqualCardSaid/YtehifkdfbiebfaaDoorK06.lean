/- Natural: Make, Valid, compare, Cmp. -/
import Derived.Test.YtehifkdfbiebfaaDoorK05
namespace Go.Proofs.YtehifkdfbiebfaaDoor
open Go.RowKit

def twoF (v : Nat) : Nat → Nat := fun i => if i = 0 then v % 4294967296 else v / 4294967296
theorem twoF_val (v : Nat) : nvF (twoF v) 2 = v := by
  show 0 + twoF v 0 * 4294967296 ^ 0 + twoF v 1 * 4294967296 ^ 1 = v
  simp [twoF]
  omega
theorem big_le {v k : Nat} (h : v < 4294967296 ^ k) (hk : k ≤ 640) : v < Cap := by
  obtain ⟨c, hc, e⟩ := cap_is
  rw [e]
  exact Nat.lt_of_lt_of_le h (Nat.pow_le_pow_right (by omega) (by omega))
theorem two_at (v : Nat) (W : World) (g : Nat) (t : TypeId) (B : Blk W g t #[.int .u32 ((v : Int) % 4294967296), .int .u32 ((v : Int) / 4294967296)]) : NatAt W W.heap.size g (twoF v) 2 :=
  ⟨B.lt, fun i hi => by
    have hc := B.cell i
    have : i = 0 ∨ i = 1 := by omega
    rcases this with rfl | rfl
    · exact hc
    · exact hc⟩
set_option maxHeartbeats 1000000 in
theorem Nmake_c (v : Nat) (w : World) (h : v < 18446744073709551616) : Calls Tryd.prog 33 #[.int .u64 v] w (NumP v w) := by
  have hF := fun (W : World) (B : Blk W w.heap.size 164 #[.int .u32 ((v : Int) % 4294967296), .int .u32 ((v : Int) / 4294967296)]) =>
    form_c (twoF v) 2 2 w.heap.size W (two_at v W _ _ B) (by omega) (by omega) (fun i hi => by unfold twoF; split <;> omega) (by rw [twoF_val]; exact big_le (k := 2) (by omega) (by omega))
  have HF := Lib.hid hF
  clear hF
  go_enter Tryd.func33, Tryd.ntmps33
  go_wp2_with (go_at_call 88; ((with_reducible refine (HF.out _ (Blk.new _ _ _)).mono ?_); rintro e w' ⟨n', hn', rfl, rfl, hI⟩))
  go_ret
  rw [twoF_val] at hI
  have hN := two_at v _ _ _ (Blk.new w 164 #[.int .u32 ((v : Int) % 4294967296), .int .u32 ((v : Int) / 4294967296)])
  exact ⟨by (repeat (first | (with_reducible exact bl_refl _) | (with_reducible refine bl_drew ?_) | (with_reducible refine bl_alloc ?_ _) | (with_reducible refine bl_set' ?_ ?_; · (first | omega | (simp; done) | (simp; omega))) | (with_reducible refine bl_last (by assumption) ?_) | (with_reducible refine bl_drewN ?_ _))), _, _, Nat.le_refl _, rfl, ⟨twoF v, ⟨hN.1, fun i hi => hN.2 i (by omega)⟩, hI⟩, by omega⟩

set_option maxHeartbeats 1000000 in
set_option maxRecDepth 100000 in
/-- A number in its form is valid. -/
theorem Nvalid_c (ba n x c : Nat) (w : World) (ha : Num w w.heap.size ba n x) (hn : n ≤ 640) : Calls Tryd.prog 86 #[.slice (some ⟨ba, 0, none⟩) n c] w (RetS (.bool true) w) := by
  obtain ⟨fa, ⟨ha0, hac⟩, hA⟩ := ha
  rcases n with _ | k
  · go_enter Tryd.func86, Tryd.ntmps86
    go_wp2
    go_ret
    exact ⟨rfl, rfl⟩
  · have h1 := hac k (by omega)
    have h2 := hA.top k rfl
    have h3 : ((fa k : Int) != 0) = true := by simpa using h2
    clear hac hA
    go_enter Tryd.func86, Tryd.ntmps86
    go_wp2
    go_ret
    exact ⟨rfl, rfl⟩

/-- The order of two integers. -/
def ordZ (a b : Int) : Int := if a < b then -1 else if b < a then 1 else 0
set_option maxHeartbeats 1000000 in
theorem cmpI_c (a b : Int) (w : World) : Calls Tryd.prog 119 #[.int .i64 a, .int .i64 b] w (RetS (.int .i64 (ordZ a b)) w) := by
  have hways : (a < b ∧ ordZ a b = -1) ∨ (¬ a < b ∧ b < a ∧ ordZ a b = 1) ∨ (a = b ∧ ordZ a b = 0) := by
    unfold ordZ
    by_cases h1 : a < b
    · exact Or.inl ⟨h1, by rw [if_pos h1]⟩
    · by_cases h2 : b < a
      · exact Or.inr (Or.inl ⟨h1, h2, by rw [if_neg h1, if_pos h2]⟩)
      · exact Or.inr (Or.inr ⟨by omega, by rw [if_neg h1, if_neg h2]⟩)
  rcases hways with ⟨h1, h2⟩ | ⟨h1, h3, h2⟩ | ⟨rfl, h2⟩
  all_goals
    rw [h2]
    clear h2
    go_enter Tryd.func119, Tryd.ntmps119
    go_wp2
    go_ret
    exact ⟨rfl, rfl⟩
set_option maxHeartbeats 1000000 in
theorem cmpU_c (a b : Int) (w : World) : Calls Tryd.prog 120 #[.int .u32 a, .int .u32 b] w (RetS (.int .i64 (ordZ a b)) w) := by
  have hways : (a < b ∧ ordZ a b = -1) ∨ (¬ a < b ∧ b < a ∧ ordZ a b = 1) ∨ (a = b ∧ ordZ a b = 0) := by
    unfold ordZ
    by_cases h1 : a < b
    · exact Or.inl ⟨h1, by rw [if_pos h1]⟩
    · by_cases h2 : b < a
      · exact Or.inr (Or.inl ⟨h1, h2, by rw [if_neg h1, if_pos h2]⟩)
      · exact Or.inr (Or.inr ⟨by omega, by rw [if_neg h1, if_neg h2]⟩)
  rcases hways with ⟨h1, h2⟩ | ⟨h1, h3, h2⟩ | ⟨rfl, h2⟩
  all_goals
    rw [h2]
    clear h2
    go_enter Tryd.func120, Tryd.ntmps120
    go_wp2
    go_ret
    exact ⟨rfl, rfl⟩
theorem ordZ_lt {a b : Int} (h : a < b) : ordZ a b = -1 := by rw [ordZ, if_pos h]
theorem ordZ_gt {a b : Int} (h : b < a) : ordZ a b = 1 := by rw [ordZ, if_neg (by omega), if_pos h]
theorem ordZ_eq (a : Int) : ordZ a a = 0 := by rw [ordZ, if_neg (by omega), if_neg (by omega)]

set_option maxRecDepth 100000 in
set_option maxHeartbeats 2000000 in
theorem compare_c (ba bb n m x y ca cb : Nat) (w : World) (ha : Num w w.heap.size ba n x) (hb : Num w w.heap.size bb m y) (hn : n ≤ 640) (hm : m ≤ 640) :
    Calls Tryd.prog 87 #[.slice (some ⟨ba, 0, none⟩) n ca, .slice (some ⟨bb, 0, none⟩) m cb] w (Ret (.int .i64 (ordZ (x : Int) (y : Int))) w) := by
  obtain ⟨fa, ⟨ha0, hac⟩, hA⟩ := ha
  obtain ⟨fb, ⟨hb0, hbc⟩, hB⟩ := hb
  have HA := Lib.hid hac
  have HB := Lib.hid hbc
  have IA := Lib.hid hA
  have IB := Lib.hid hB
  clear hac hbc hA hB
  by_cases hnm : n = m
  case neg =>
    have hne : ((n : Int) != (m : Int)) = true := by simp; omega
    have hE : ordZ (x : Int) (y : Int) = ordZ (n : Int) (m : Int) := by
      by_cases h : n < m
      · have := isN_short IA.out IB.out h
        rw [ordZ_lt (by omega), ordZ_lt (by omega)]
      · have := isN_short IB.out IA.out (by omega)
        rw [ordZ_gt (by omega), ordZ_gt (by omega)]
    rw [hE]
    clear hE
    go_enter Tryd.func87, Tryd.ntmps87
    go_wp2_with (go_at_call 119; ((with_reducible refine (cmpI_c _ _ _).mono ?_); rintro e w' ⟨rfl, rfl⟩))
    go_ret
    exact ⟨rfl, bl_refl _⟩
  subst hnm
  go_enter Tryd.func87, Tryd.ntmps87
  go_wp2
  go_loopw [5] (fun i wr => ∃ k : Nat, k ≤ n ∧ i = .int .i64 ((k : Int) - 1) ∧ Hid (∀ j, k ≤ j → j < n → fa j = fb j) ∧ Below w.heap.size w wr) (fun i _ => (intOf i + 1).toNat)
  case atStart => exact ⟨n, Nat.le_refl _, rfl, Lib.hid (fun j h1 h2 => by omega), bl_refl _⟩
  case round =>
    obtain ⟨k, hk, rfl, HE, hbw⟩ := hrel
    rcases k with _ | k
    · have hxy : x = y := isN_same IA.out IB.out fun j hj => HE.out j (Nat.zero_le _) hj
      subst hxy
      go_wp2
      go_ret
      exact ⟨ret_int (ordZ_eq _).symm, hbw⟩
    · have c1 := (hbw.cell (p := ⟨ba, k, none⟩) ha0).trans (HA.out k (by omega))
      have c2 := (hbw.cell (p := ⟨bb, k, none⟩) hb0).trans (HB.out k (by omega))
      have hkn : (k : Nat) < n := hk
      have z1 : ba < wr.heap.size := Nat.lt_of_lt_of_le ha0 hbw.size
      have z2 : bb < wr.heap.size := Nat.lt_of_lt_of_le hb0 hbw.size
      rw [show (((k + 1 : Nat) : Int) - 1) = (k : Int) by omega]
      by_cases hf : fa k = fb k
      · have HE2 : Hid (∀ j, k ≤ j → j < n → fa j = fb j) := Lib.hid (fun j h1 h2 => by
          rcases Nat.eq_or_lt_of_le h1 with rfl | h3
          · exact hf
          · exact HE.out j h3 h2)
        rw [← hf] at c2
        have hd : ((fa k : Int) != (fa k : Int)) = false := by simp
        clear hf HE
        generalize (fa k : Int) = X at *
        go_wp2
        (refine wp_region_bl [0,1,2,3,4,5,6,7,8] [] (by kernel_rfl) (by kernel_rfl) (by rfl) ?_
         simp only [pickI, pick, List.getElem?_cons_succ, List.getElem?_cons_zero]
         iterate 9 (first
           | (refine head_val (by rfl) (by first | exact wanted_free rfl | rfl) ?_
              apply Exists.intro
              refine ⟨fun X hX => ?_, ?_⟩
              · (obtain ⟨qz, qc, qf⟩ := bcl hX.out (by first | (simp; rfl) | rfl)
                 go_simp
                 first | done | rfl | exact ⟨rfl, rfl⟩)
              simp only [Act.put, List.setIfInBounds_toArray, List.set_cons_zero, List.set_cons_succ])
           | (refine head_pass (by rfl) ?_
              simp only [Act.put, List.setIfInBounds_toArray, List.set_cons_zero, List.set_cons_succ]))
         refine head_nil ?_
         intro w' hw'
         have hb := hw'.out
         clear hw'
         obtain ⟨hz, hc, hf⟩ := bcl hb (by first | (simp; rfl) | rfl))
        go_wp2
        go_roundw
        case rel => exact ⟨k, by omega, rfl, HE2, by (repeat (first | (with_reducible exact bl_refl _) | (with_reducible refine bl_drew ?_) | (with_reducible refine bl_alloc ?_ _) | (with_reducible refine bl_set' ?_ ?_; · (first | omega | (simp; done) | (simp; omega))) | (with_reducible refine bl_last (by assumption) ?_) | (with_reducible refine bl_drewN ?_ _)))⟩
        case measure => simp [intOf]
      · have hd : ((fa k : Int) != (fb k : Int)) = true := by simp; omega
        have hE : ordZ (x : Int) (y : Int) = ordZ (fa k : Int) (fb k : Int) := by
          by_cases h : fa k < fb k
          · have := isN_less IA.out IB.out hkn (fun i h1 h2 => HE.out i h1 h2) h
            rw [ordZ_lt (by omega), ordZ_lt (by omega)]
          · have := isN_less IB.out IA.out hkn (fun i h1 h2 => (HE.out i h1 h2).symm) (by omega)
            rw [ordZ_gt (by omega), ordZ_gt (by omega)]
        have HO := Lib.hid hE
        clear hf HE hE
        generalize (fa k : Int) = X at *
        generalize (fb k : Int) = Y at *
        go_wp2
        (refine wp_region_bl [0,1,2,3,4,5,6,7,8] [] (by kernel_rfl) (by kernel_rfl) (by rfl) ?_
         simp only [pickI, pick, List.getElem?_cons_succ, List.getElem?_cons_zero]
         iterate 9 (first
           | (refine head_val (by rfl) (by first | exact wanted_free rfl | rfl) ?_
              apply Exists.intro
              refine ⟨fun X hX => ?_, ?_⟩
              · (obtain ⟨qz, qc, qf⟩ := bcl hX.out (by first | (simp; rfl) | rfl)
                 go_simp
                 first | done | rfl | exact ⟨rfl, rfl⟩)
              simp only [Act.put, List.setIfInBounds_toArray, List.set_cons_zero, List.set_cons_succ])
           | (refine head_pass (by rfl) ?_
              simp only [Act.put, List.setIfInBounds_toArray, List.set_cons_zero, List.set_cons_succ]))
         refine head_nil ?_
         intro w' hw'
         have hb := hw'.out
         clear hw'
         obtain ⟨hz, hc, hf⟩ := bcl hb (by first | (simp; rfl) | rfl))
        go_wp2
        (refine wp_region_bl [0,1,2,3,4,5,6,7,8] [9] (by kernel_rfl) (by kernel_rfl) (by rfl) ?_
         simp only [pickI, pick, List.getElem?_cons_succ, List.getElem?_cons_zero]
         iterate 9 (first
           | (refine head_val (by rfl) (by first | exact wanted_free rfl | rfl) ?_
              apply Exists.intro
              refine ⟨fun X hX => ?_, ?_⟩
              · (obtain ⟨qz, qc, qf⟩ := bcl hX.out (by first | (simp; rfl) | rfl)
                 go_simp
                 first | done | (go_at_call 120; ((with_reducible refine (cmpU_c _ _ _).mono ?_); rintro e w2 ⟨rfl, rfl⟩; exact ⟨rfl, hX⟩)) | rfl | exact ⟨rfl, rfl⟩)
              simp only [Act.put, List.setIfInBounds_toArray, List.set_cons_zero, List.set_cons_succ])
           | (refine head_pass (by rfl) ?_
              simp only [Act.put, List.setIfInBounds_toArray, List.set_cons_zero, List.set_cons_succ]))
         refine head_nil ?_
         intro w' hw'
         have hb := hw'.out
         clear hw'
         obtain ⟨hz, hc, hf⟩ := bcl hb (by first | (simp; rfl) | rfl))
        go_wp2
        go_ret
        exact ⟨ret_int HO.out.symm, by (repeat (first | (with_reducible exact bl_refl _) | (with_reducible refine bl_drew ?_) | (with_reducible refine bl_alloc ?_ _) | (with_reducible refine bl_set' ?_ ?_; · (first | omega | (simp; done) | (simp; omega))) | (with_reducible refine bl_last (by assumption) ?_) | (with_reducible refine bl_drewN ?_ _)))⟩

set_option maxRecDepth 100000 in
set_option maxHeartbeats 2000000 in
theorem Ncmp_c (ba bb n m x y ca cb : Nat) (w : World) (ha : Num w w.heap.size ba n x) (hb : Num w w.heap.size bb m y) (hn : n ≤ 640) (hm : m ≤ 640) :
    Calls Tryd.prog 32 #[.slice (some ⟨ba, 0, none⟩) n ca, .slice (some ⟨bb, 0, none⟩) m cb] w (Ret (.tuple #[.int .i64 (ordZ (x : Int) (y : Int)), .int .i64 0]) w) := by
  have H1 := Lib.hid (Nvalid_c ba n x ca w ha hn)
  have H2 := Lib.hid (Nvalid_c bb m y cb w hb hm)
  have H3 := Lib.hid (compare_c ba bb n m x y ca cb w ha hb hn hm)
  clear ha hb
  go_enter Tryd.func32, Tryd.ntmps32
  go_wp2_with (first | (go_at_call 86; ((with_reducible refine (H1.out).mono ?_); rintro e w' ⟨rfl, rfl⟩)) | (go_at_call 86; ((with_reducible refine (H2.out).mono ?_); rintro e w' ⟨rfl, rfl⟩)) | (go_at_call 87; ((with_reducible refine (H3.out).mono ?_); rintro e w' ⟨rfl, hb⟩; obtain ⟨hz, hc, hf⟩ := bcl hb (by first | (simp; rfl) | rfl))))
  go_ret2
  exact ⟨rfl, by (repeat (first | (with_reducible exact bl_refl _) | (with_reducible refine bl_drew ?_) | (with_reducible refine bl_alloc ?_ _) | (with_reducible refine bl_set' ?_ ?_; · (first | omega | (simp; done) | (simp; omega))) | (with_reducible refine bl_last (by assumption) ?_) | (with_reducible refine bl_drewN ?_ _)))⟩
end Go.Proofs.YtehifkdfbiebfaaDoor
