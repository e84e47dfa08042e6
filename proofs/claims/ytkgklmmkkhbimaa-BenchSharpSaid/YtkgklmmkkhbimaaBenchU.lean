/- Bench: comparisons of slices (SameBands, SameRats, Ints), and Valid. -/
import Derived.Test.YtkgklmmkkhbimaaBenchR
import Derived.Test.YtkgklmmkkhbimaaBenchK
namespace Go.Proofs.Ytkgklmmkkhbimaa
open Go.RowKit

set_option maxHeartbeats 1000000 in
theorem Valid18_c (n : Int) (l : List Bt) (A : Option Addr) (cap : Nat) (w : World) (hl : Lst w w.heap.size A l) (hlen : l.length ≤ 9223372036854775807) :
    Calls Try.prog 12 #[.int .i64 n, .slice A l.length cap] w (Ret (.bool (vld n l)) w) := by
  have HN := Lib.hid (newPlan_c n l A cap w hl hlen)
  clear hl
  generalize l.length = L at *
  go_enter Try.func12, Try.ntmps12
  go_wp2_with fail
  ((with_reducible refine (HN.out).mono ?_); rintro e w1 ⟨hb1, ⟨hv, rfl⟩ | ⟨hv, rfl, hs1⟩⟩)
  · have HV := Lib.hid hv
    clear hv
    go_wp2
    go_ret
    refine ⟨by rw [HV.out]; rfl, ?_⟩
    (repeat (first | (with_reducible exact bl_refl _) | (with_reducible refine bl_drew ?_) | (with_reducible refine bl_alloc ?_ _) | (with_reducible refine bl_set' ?_ ?_; · (first | omega | (simp; done) | (simp; omega))) | (with_reducible refine bl_last (by assumption) ?_) | (with_reducible refine bl_drewN ?_ _)))
  · have HV := Lib.hid hv
    clear hv hs1
    go_wp2
    go_ret
    refine ⟨by rw [HV.out]; rfl, ?_⟩
    (repeat (first | (with_reducible exact bl_refl _) | (with_reducible refine bl_drew ?_) | (with_reducible refine bl_alloc ?_ _) | (with_reducible refine bl_set' ?_ ?_; · (first | omega | (simp; done) | (simp; omega))) | (with_reducible refine bl_last (by assumption) ?_) | (with_reducible refine bl_drewN ?_ _)))

set_option maxRecDepth 100000 in
set_option maxHeartbeats 2000000 in
theorem Ints_c (xs ys : List Int) (A B : Option Addr) (c d : Nat) (w : World) (hx : IntsR w w.heap.size A xs) (hy : IntsR w w.heap.size B ys) (h1 : xs.length ≤ 1000000) (h2 : ys.length ≤ 1000000) :
    Calls Try.prog 22 #[.slice A xs.length c, .slice B ys.length d] w (Ret (.bool (decide (xs = ys))) w) := by
  have HX := Lib.hid hx
  have HY := Lib.hid hy
  clear hx hy
  by_cases hl : xs.length = ys.length
  · have HL := Lib.hid hl
    have hle : (Ending.returned (.bool (decide (xs = ys)))) = .returned (.bool (decide (xs = ys))) := rfl
    rw [← hl]
    have HE := Lib.hid (List.ext_getElem? (l₁ := xs) (l₂ := ys))
    generalize hM : xs.length = M at *
    have HM := Lib.hid hM
    clear hM hl hle
    go_enter Try.func22, Try.ntmps22
    go_wp2
    go_loopw [5] (fun i wr => ∃ k : Nat, k ≤ M ∧ i = .int .i64 k ∧ Hid (xs.take k = ys.take k) ∧ Below w.heap.size w wr) (fun i _ => M - (intOf i).toNat)
    case atStart => exact ⟨0, Nat.zero_le _, rfl, rfl, bl_refl _⟩
    case round =>
      obtain ⟨k, hk, rfl, HT, hbw⟩ := hrel
      by_cases hlt : k < M
      · obtain ⟨b1, o1, rfl, hb1, hc1⟩ := HX.out (by have := HM.out; omega)
        obtain ⟨b2, o2, rfl, hb2, hc2⟩ := HY.out (by have := HM.out; have := HL.out; omega)
        obtain ⟨x, hx⟩ : ∃ x, xs[k]? = some x := ⟨xs[k]'(by have := HM.out; omega), by simp⟩
        obtain ⟨y, hy⟩ : ∃ y, ys[k]? = some y := ⟨ys[k]'(by have := HM.out; have := HL.out; omega), by simp⟩
        have c1 := (hbw.cell (p := ⟨b1, o1 + k, none⟩) hb1).trans (hc1 k x hx)
        have c2 := (hbw.cell (p := ⟨b2, o2 + k, none⟩) hb2).trans (hc2 k y hy)
        have z1 : b1 < wr.heap.size := by have := hbw.size; omega
        have z2 : b2 < wr.heap.size := by have := hbw.size; omega
        have HX' := Lib.hid hx
        have HY' := Lib.hid hy
        clear hc1 hc2 hx hy
        by_cases hxy : x = y
        · subst hxy
          go_wp2
          (refine wp_region_bl [0,1,2,3,4,5,6,7,8] [] (by kernel_rfl) (by kernel_rfl) (by rfl) ?_
           simp only [pickI, pick, List.getElem?_cons_succ, List.getElem?_cons_zero]
           iterate 9 (first
             | (refine head_val (by rfl) (by rfl) ?_
                apply Exists.intro
                refine ⟨fun X hX => ?_, ?_⟩
                · (obtain ⟨qz, qc, qf⟩ := bcl hX.out (by first | (simp; rfl) | rfl)
                   go_simp
                   first | done | rfl | exact ⟨rfl, rfl⟩)
                simp only [Act.put, List.setIfInBounds_toArray, List.set_cons_zero, List.set_cons_succ])
             | (refine head_pass (by rfl) ?_
                simp only [Act.put, List.setIfInBounds_toArray, List.set_cons_zero, List.set_cons_succ]))
           refine head_nil ?_
           intro w' hw'
           have hb := hw'.out
           clear hw'
           obtain ⟨hz, hc, hf⟩ := bcl hb (by first | (simp; rfl) | rfl))
          go_wp2
          go_roundw
          case rel => exact ⟨k + 1, by omega, by go_num, by show _ = _; rw [take_snocI HX'.out, take_snocI HY'.out, HT.out], bl_trans hbw hb⟩
          case measure => simp [intOf]; omega
        · have hne : (x != y) = true := by simpa using hxy
          have hd : decide (xs = ys) = false := decide_eq_false (fun e => by
            have h1 := HX'.out
            rw [e, HY'.out] at h1
            exact hxy (Option.some.inj h1).symm)
          have HD := Lib.hid hd
          clear hd hxy
          go_wp2
          (refine wp_region_bl [0,1,2,3,4,5,6,7,8] [] (by kernel_rfl) (by kernel_rfl) (by rfl) ?_
           simp only [pickI, pick, List.getElem?_cons_succ, List.getElem?_cons_zero]
           iterate 9 (first
             | (refine head_val (by rfl) (by rfl) ?_
                apply Exists.intro
                refine ⟨fun X hX => ?_, ?_⟩
                · (obtain ⟨qz, qc, qf⟩ := bcl hX.out (by first | (simp; rfl) | rfl)
                   go_simp
                   first | done | rfl | exact ⟨rfl, rfl⟩)
                simp only [Act.put, List.setIfInBounds_toArray, List.set_cons_zero, List.set_cons_succ])
             | (refine head_pass (by rfl) ?_
                simp only [Act.put, List.setIfInBounds_toArray, List.set_cons_zero, List.set_cons_succ]))
           refine head_nil ?_
           intro w' hw'
           have hb := hw'.out
           clear hw'
           obtain ⟨hz, hc, hf⟩ := bcl hb (by first | (simp; rfl) | rfl))
          go_wp2
          go_ret
          exact ⟨by rw [HD.out]; rfl, bl_trans hbw hb⟩
      · have hkM : k = M := by omega
        subst hkM
        have hd : decide (xs = ys) = true := decide_eq_true (by
          have h1 := HT.out
          have h2 := HM.out
          have h3 := HL.out
          rw [List.take_of_length_le (by omega), List.take_of_length_le (by omega)] at h1
          exact h1)
        have HD := Lib.hid hd
        clear hd
        go_wp2
        go_ret
        exact ⟨by rw [HD.out]; rfl, hbw⟩
  · have hd : decide (xs = ys) = false := decide_eq_false (fun e => hl (by rw [e]))
    have HD := Lib.hid hd
    have hl' : ((xs.length : Int) != (ys.length : Int)) = true := by simp; omega
    clear hd hl
    generalize xs.length = X at *
    generalize ys.length = Y at *
    go_enter Try.func22, Try.ntmps22
    go_wp2
    go_ret
    exact ⟨by rw [HD.out]; rfl, bl_refl _⟩

def sameR (N M : Nat) (g h : Nat → Int × Int) : Bool := decide (N = M) && (List.range N).all fun x => g x == h x
theorem sameR_no {N M : Nat} {g h : Nat → Int × Int} {k : Nat} (hk : k < N) (hne : g k ≠ h k) : sameR N M g h = false := by
  cases hs : sameR N M g h with
  | false => rfl
  | true =>
    unfold sameR at hs
    simp only [Bool.and_eq_true] at hs
    have := List.all_eq_true.1 hs.2 k (by simp [hk])
    exact absurd (by simpa using this) hne
theorem all_snoc {p : Nat → Bool} {k : Nat} (h : (List.range k).all p = true) (hk : p k = true) : (List.range (k + 1)).all p = true := by
  rw [List.range_succ, List.all_append, h]
  simp [hk]
set_option maxRecDepth 100000 in
set_option maxHeartbeats 2000000 in
theorem SameRats_c (N M : Nat) (g h : Nat → Int × Int) (A B : Option Addr) (c d : Nat) (w : World) (hx : RatsR w w.heap.size A N g) (hy : RatsR w w.heap.size B M h) (h1 : N ≤ 1000000) (h2 : M ≤ 1000000) :
    Calls Try.prog 19 #[.slice A N c, .slice B M d] w (Ret (.bool (sameR N M g h)) w) := by
  have HX := Lib.hid hx
  have HY := Lib.hid hy
  clear hx hy
  by_cases hl : N = M
  · subst hl
    go_enter Try.func19, Try.ntmps19
    go_wp2
    go_loopw [5] (fun i wr => ∃ k : Nat, k ≤ N ∧ i = .int .i64 k ∧ Hid ((List.range k).all (fun x => g x == h x) = true) ∧ Below w.heap.size w wr) (fun i _ => N - (intOf i).toNat)
    case atStart => exact ⟨0, Nat.zero_le _, rfl, rfl, bl_refl _⟩
    case round =>
      obtain ⟨k, hk, rfl, HT, hbw⟩ := hrel
      by_cases hlt : k < N
      · obtain ⟨b1, o1, rfl, hb1, hc1⟩ := HX.out (by omega)
        obtain ⟨b2, o2, rfl, hb2, hc2⟩ := HY.out (by omega)
        have c1 := (hbw.cell (p := ⟨b1, o1 + k * 2, none⟩) hb1).trans (hc1 k hlt).1
        have c2 := (hbw.cell (p := ⟨b1, o1 + k * 2 + 1, none⟩) hb1).trans (hc1 k hlt).2
        have d1 := (hbw.cell (p := ⟨b2, o2 + k * 2, none⟩) hb2).trans (hc2 k hlt).1
        have d2 := (hbw.cell (p := ⟨b2, o2 + k * 2 + 1, none⟩) hb2).trans (hc2 k hlt).2
        have z1 : b1 < wr.heap.size := by have := hbw.size; omega
        have z2 : b2 < wr.heap.size := by have := hbw.size; omega
        clear hc1 hc2
        by_cases hxy : g k = h k
        · have hnx := all_snoc HT.out (show (g k == h k) = true by rw [hxy]; simp)
          have HNX := Lib.hid hnx
          rw [← hxy] at d1 d2
          clear hnx hxy
          generalize (g k).1 = p1 at *
          generalize (g k).2 = p2 at *
          go_wp2
          (refine wp_region_bl [0,1,2,3,4,5,6,7,8] [] (by kernel_rfl) (by kernel_rfl) (by rfl) ?_
           simp only [pickI, pick, List.getElem?_cons_succ, List.getElem?_cons_zero]
           iterate 9 (first
             | (refine head_val (by rfl) (by rfl) ?_
                apply Exists.intro
                refine ⟨fun X hX => ?_, ?_⟩
                · (obtain ⟨qz, qc, qf⟩ := bcl hX.out (by first | (simp; rfl) | rfl)
                   go_simp
                   first | done | rfl | exact ⟨rfl, rfl⟩)
                simp only [Act.put, List.setIfInBounds_toArray, List.set_cons_zero, List.set_cons_succ])
             | (refine head_pass (by rfl) ?_
                simp only [Act.put, List.setIfInBounds_toArray, List.set_cons_zero, List.set_cons_succ]))
           refine head_nil ?_
           intro w' hw'
           have hb := hw'.out
           clear hw'
           obtain ⟨hz, hc, hf⟩ := bcl hb (by first | (simp; rfl) | rfl))
          go_wp2
          go_roundw
          case rel => exact ⟨k + 1, by omega, by go_num, HNX.out, bl_trans hbw hb⟩
          case measure => simp [intOf]; omega
        · have HD := Lib.hid (sameR_no (M := N) hlt hxy)
          have hor : ¬ (g k).1 = (h k).1 ∨ ((g k).1 = (h k).1 ∧ ¬ (g k).2 = (h k).2) := by
            by_cases e : (g k).1 = (h k).1
            · exact Or.inr ⟨e, fun e2 => hxy (Prod.ext e e2)⟩
            · exact Or.inl e
          clear hxy
          generalize (g k).1 = p1 at *
          generalize (g k).2 = p2 at *
          generalize (h k).1 = q1 at *
          generalize (h k).2 = q2 at *
          rcases hor with e | ⟨rfl, e⟩
          all_goals
            have hne := beq_eq_false_iff_ne.2 e
            clear e
            go_wp2
            (refine wp_region_bl [0,1,2,3,4,5,6,7,8] [] (by kernel_rfl) (by kernel_rfl) (by rfl) ?_
             simp only [pickI, pick, List.getElem?_cons_succ, List.getElem?_cons_zero]
             iterate 9 (first
               | (refine head_val (by rfl) (by rfl) ?_
                  apply Exists.intro
                  refine ⟨fun X hX => ?_, ?_⟩
                  · (obtain ⟨qz, qc, qf⟩ := bcl hX.out (by first | (simp; rfl) | rfl)
                     go_simp
                     first | done | rfl | exact ⟨rfl, rfl⟩)
                  simp only [Act.put, List.setIfInBounds_toArray, List.set_cons_zero, List.set_cons_succ])
               | (refine head_pass (by rfl) ?_
                  simp only [Act.put, List.setIfInBounds_toArray, List.set_cons_zero, List.set_cons_succ]))
             refine head_nil ?_
             intro w' hw'
             have hb := hw'.out
             clear hw'
             obtain ⟨hz, hc, hf⟩ := bcl hb (by first | (simp; rfl) | rfl))
            go_wp2
            go_ret
            exact ⟨by rw [HD.out]; rfl, bl_trans hbw hb⟩
      · have hkM : k = N := by omega
        subst hkM
        have hd : sameR k k g h = true := by unfold sameR; rw [HT.out, decide_eq_true rfl]; rfl
        have HD := Lib.hid hd
        clear hd
        go_wp2
        go_ret
        exact ⟨by rw [HD.out]; rfl, hbw⟩
  · have hd : sameR N M g h = false := by unfold sameR; rw [decide_eq_false hl]; rfl
    have HD := Lib.hid hd
    have hl' : ((N : Int) != (M : Int)) = true := by simp; omega
    clear hd hl
    go_enter Try.func19, Try.ntmps19
    go_wp2
    go_ret
    exact ⟨by rw [HD.out]; rfl, bl_refl _⟩

def sameB (N M : Nat) (g g' h h' : Nat → Int × Int) : Bool := decide (N = M) && (List.range N).all fun x => g x == h x && g' x == h' x
theorem sameB_no {N M : Nat} {g g' h h' : Nat → Int × Int} {k : Nat} (hk : k < N) (hne : ¬ (g k = h k ∧ g' k = h' k)) : sameB N M g g' h h' = false := by
  cases hs : sameB N M g g' h h' with
  | false => rfl
  | true =>
    unfold sameB at hs
    simp only [Bool.and_eq_true] at hs
    have := List.all_eq_true.1 hs.2 k (by simp [hk])
    exact absurd (by simpa using this) hne
set_option maxRecDepth 100000 in
set_option maxHeartbeats 4000000 in
theorem SameBands_c (N M : Nat) (g g' h h' : Nat → Int × Int) (A B : Option Addr) (c d : Nat) (w : World) (hx : BandsR w w.heap.size A N g g') (hy : BandsR w w.heap.size B M h h') (h1 : N ≤ 1000000) (h2 : M ≤ 1000000) :
    Calls Try.prog 16 #[.slice A N c, .slice B M d] w (Ret (.bool (sameB N M g g' h h')) w) := by
  have HX := Lib.hid hx
  have HY := Lib.hid hy
  clear hx hy
  by_cases hl : N = M
  · subst hl
    go_enter Try.func16, Try.ntmps16
    go_wp2
    go_loopw [5] (fun i wr => ∃ k : Nat, k ≤ N ∧ i = .int .i64 k ∧ Hid ((List.range k).all (fun x => g x == h x && g' x == h' x) = true) ∧ Below w.heap.size w wr) (fun i _ => N - (intOf i).toNat)
    case atStart => exact ⟨0, Nat.zero_le _, rfl, rfl, bl_refl _⟩
    case round =>
      obtain ⟨k, hk, rfl, HT, hbw⟩ := hrel
      by_cases hlt : k < N
      · obtain ⟨b1, o1, rfl, hb1, hc1⟩ := HX.out (by omega)
        obtain ⟨b2, o2, rfl, hb2, hc2⟩ := HY.out (by omega)
        obtain ⟨u1, u2, u3, u4⟩ := hc1 k hlt
        obtain ⟨v1, v2, v3, v4⟩ := hc2 k hlt
        have c1 := (hbw.cell (p := ⟨b1, o1 + k * 4, none⟩) hb1).trans u1
        have c2 := (hbw.cell (p := ⟨b1, o1 + k * 4 + 1, none⟩) hb1).trans u2
        have c3 := (hbw.cell (p := ⟨b1, o1 + k * 4 + 2, none⟩) hb1).trans u3
        have c4 := (hbw.cell (p := ⟨b1, o1 + k * 4 + 3, none⟩) hb1).trans u4
        have d1 := (hbw.cell (p := ⟨b2, o2 + k * 4, none⟩) hb2).trans v1
        have d2 := (hbw.cell (p := ⟨b2, o2 + k * 4 + 1, none⟩) hb2).trans v2
        have d3 := (hbw.cell (p := ⟨b2, o2 + k * 4 + 2, none⟩) hb2).trans v3
        have d4 := (hbw.cell (p := ⟨b2, o2 + k * 4 + 3, none⟩) hb2).trans v4
        have z1 : b1 < wr.heap.size := by have := hbw.size; omega
        have z2 : b2 < wr.heap.size := by have := hbw.size; omega
        clear hc1 hc2 u1 u2 u3 u4 v1 v2 v3 v4
        by_cases hxy : g k = h k ∧ g' k = h' k
        · obtain ⟨e1, e2⟩ := hxy
          have hnx := all_snoc HT.out (show (g k == h k && g' k == h' k) = true by rw [e1, e2]; simp)
          have HNX := Lib.hid hnx
          rw [← e1] at d1 d2
          rw [← e2] at d3 d4
          clear hnx e1 e2
          generalize (g k).1 = p1 at *
          generalize (g k).2 = p2 at *
          generalize (g' k).1 = p3 at *
          generalize (g' k).2 = p4 at *
          go_wp2
          (refine wp_region_bl [0,1,2,3,4,5,6,7,8] [] (by kernel_rfl) (by kernel_rfl) (by rfl) ?_
           simp only [pickI, pick, List.getElem?_cons_succ, List.getElem?_cons_zero]
           iterate 9 (first
             | (refine head_val (by rfl) (by rfl) ?_
                apply Exists.intro
                refine ⟨fun X hX => ?_, ?_⟩
                · (obtain ⟨qz, qc, qf⟩ := bcl hX.out (by first | (simp; rfl) | rfl)
                   go_simp
                   first | done | rfl | exact ⟨rfl, rfl⟩)
                simp only [Act.put, List.setIfInBounds_toArray, List.set_cons_zero, List.set_cons_succ])
             | (refine head_pass (by rfl) ?_
                simp only [Act.put, List.setIfInBounds_toArray, List.set_cons_zero, List.set_cons_succ]))
           refine head_nil ?_
           intro w' hw'
           have hb := hw'.out
           clear hw'
           obtain ⟨hz, hc, hf⟩ := bcl hb (by first | (simp; rfl) | rfl))
          go_wp2
          go_roundw
          case rel => exact ⟨k + 1, by omega, by go_num, HNX.out, bl_trans hbw hb⟩
          case measure => simp [intOf]; omega
        · have HD := Lib.hid (sameB_no (M := N) hlt hxy)
          have hor : ¬ (g k).1 = (h k).1 ∨ ((g k).1 = (h k).1 ∧ ¬ (g k).2 = (h k).2) ∨ ((g k).1 = (h k).1 ∧ (g k).2 = (h k).2 ∧ ¬ (g' k).1 = (h' k).1) ∨ ((g k).1 = (h k).1 ∧ (g k).2 = (h k).2 ∧ (g' k).1 = (h' k).1 ∧ ¬ (g' k).2 = (h' k).2) := by
            by_cases e : (g k).1 = (h k).1
            · by_cases e2 : (g k).2 = (h k).2
              · by_cases e3 : (g' k).1 = (h' k).1
                · exact Or.inr (Or.inr (Or.inr ⟨e, e2, e3, fun e4 => hxy ⟨Prod.ext e e2, Prod.ext e3 e4⟩⟩))
                · exact Or.inr (Or.inr (Or.inl ⟨e, e2, e3⟩))
              · exact Or.inr (Or.inl ⟨e, e2⟩)
            · exact Or.inl e
          clear hxy
          generalize (g k).1 = p1 at *
          generalize (g k).2 = p2 at *
          generalize (g' k).1 = p3 at *
          generalize (g' k).2 = p4 at *
          generalize (h k).1 = q1 at *
          generalize (h k).2 = q2 at *
          generalize (h' k).1 = q3 at *
          generalize (h' k).2 = q4 at *
          rcases hor with e | ⟨rfl, e⟩ | ⟨rfl, rfl, e⟩ | ⟨rfl, rfl, rfl, e⟩
          all_goals
            have hne := beq_eq_false_iff_ne.2 e
            clear e
            go_wp2
            (refine wp_region_bl [0,1,2,3,4,5,6,7,8] [] (by kernel_rfl) (by kernel_rfl) (by rfl) ?_
             simp only [pickI, pick, List.getElem?_cons_succ, List.getElem?_cons_zero]
             iterate 9 (first
               | (refine head_val (by rfl) (by rfl) ?_
                  apply Exists.intro
                  refine ⟨fun X hX => ?_, ?_⟩
                  · (obtain ⟨qz, qc, qf⟩ := bcl hX.out (by first | (simp; rfl) | rfl)
                     go_simp
                     first | done | rfl | exact ⟨rfl, rfl⟩)
                  simp only [Act.put, List.setIfInBounds_toArray, List.set_cons_zero, List.set_cons_succ])
               | (refine head_pass (by rfl) ?_
                  simp only [Act.put, List.setIfInBounds_toArray, List.set_cons_zero, List.set_cons_succ]))
             refine head_nil ?_
             intro w' hw'
             have hb := hw'.out
             clear hw'
             obtain ⟨hz, hc, hf⟩ := bcl hb (by first | (simp; rfl) | rfl))
            go_wp2
            go_ret
            exact ⟨by rw [HD.out]; rfl, bl_trans hbw hb⟩
      · have hkM : k = N := by omega
        subst hkM
        have hd : sameB k k g g' h h' = true := by unfold sameB; rw [HT.out, decide_eq_true rfl]; rfl
        have HD := Lib.hid hd
        clear hd
        go_wp2
        go_ret
        exact ⟨by rw [HD.out]; rfl, hbw⟩
  · have hd : sameB N M g g' h h' = false := by unfold sameB; rw [decide_eq_false hl]; rfl
    have HD := Lib.hid hd
    have hl' : ((N : Int) != (M : Int)) = true := by simp; omega
    clear hd hl
    go_enter Try.func16, Try.ntmps16
    go_wp2
    go_ret
    exact ⟨by rw [HD.out]; rfl, bl_refl _⟩
end Go.Proofs.Ytkgklmmkkhbimaa
