/- BenchEars: a greater ear gives wider bounds. -/
import Derived.Test.YtkgklmmkkhbimaaBenchV
namespace Go.Proofs.Ytkgklmmkkhbimaa
open Go.RowKit

theorem le_neg {a b : Int × Int} (h : Le a b) : Le (-b.1, b.2) (-a.1, a.2) := by
  unfold Le at h ⊢
  simp only
  have e1 : -b.1 * a.2 = -(b.1 * a.2) := by grind
  have e2 : -a.1 * b.2 = -(a.1 * b.2) := by grind
  rw [e1, e2]
  omega
theorem ears_law {n : Int} {l : List Bt} {f1 f2 e1 e2 m1 m2 : Int} {g h g' h' : Nat → Int × Int} (hg : runG n l f1 f2 e1 e2 = true) (hl : Le (e1, e2) (m1, m2)) (p1 : plO l (f1, f2) (fun _ => (-e1, e2)) l.length = some g) (p2 : plO l (f1, f2) (fun _ => (e1, e2)) l.length = some h)
    (q1 : plO l (f1, f2) (fun _ => (-m1, m2)) l.length = some g') (q2 : plO l (f1, f2) (fun _ => (m1, m2)) l.length = some h') (x : Nat) (hx : x < n.toNat) :
    (∃ c : Int, c ≤ 0 ∧ cmpV (g' x).1 (g' x).2 (g x).1 (g x).2 = .tuple #[.int .i64 c, .int .i64 0]) ∧ (∃ c : Int, c ≤ 0 ∧ cmpV (h x).1 (h x).2 (h' x).1 (h' x).2 = .tuple #[.int .i64 c, .int .i64 0]) := by
  unfold runG at hg
  simp only [Bool.and_eq_true] at hg
  obtain ⟨hv, hs, _⟩ := hg
  exact ⟨cmp_le (play_all (f0 := (f1, f2)) hv hs q1 hx) (play_all (f0 := (f1, f2)) hv hs p1 hx) (plO_le (fun _ _ => le_neg hl) q1 p1 x), cmp_le (play_all (f0 := (f1, f2)) hv hs p2 hx) (play_all (f0 := (f1, f2)) hv hs q2 hx) (plO_le (fun _ _ => hl) p2 q2 x)⟩

set_option maxRecDepth 100000 in
set_option maxHeartbeats 4000000 in
theorem walk_BenchEars (n : Int) (A : Option Addr) (l : List Bt) (cap : Nat) (f1 f2 e1 e2 m1 m2 : Int) (w : World) (hlen : l.length ≤ 9223372036854775807) (hl : Lst w w.heap.size A l) :
    Calls Try.prog 10 #[.int .i64 n, .slice A l.length cap, .agg #[.int .i64 f1, .int .i64 f2], .agg #[.int .i64 e1, .int .i64 e2], .agg #[.int .i64 m1, .int .i64 m2]] w (Ret (.bool true) w) := by
  have HL := Lib.hid hl
  clear hl
  go_enter Try.func10, Try.ntmps10
  go_wp2_with fail
  ((with_reducible refine (head18_c _).mono ?_); rintro e w1 ⟨rfl, hb1⟩; obtain ⟨hz1, hc1, hf1⟩ := bcl hb1 (by first | (simp; rfl) | rfl))
  go_wp2_with fail
  (with_reducible refine (Run_u n l f1 f2 e1 e2 A cap _ ?_ hlen).mono ?_)
  · exact HL.out.up (by (repeat (first | (with_reducible exact bl_refl _) | (with_reducible refine bl_drew ?_) | (with_reducible refine bl_alloc ?_ _) | (with_reducible refine bl_set' ?_ ?_; · (first | omega | (simp; done) | (simp; omega))) | (with_reducible refine bl_last (by assumption) ?_) | (with_reducible refine bl_drewN ?_ _))))
  rintro e w2 ⟨hb2, B1, N1, c1, k1, rfl, hN1, h1⟩
  obtain ⟨hz2, hc2, hf2⟩ := bcl hb2 (by first | (simp; rfl) | rfl)
  have H1 := Lib.hid h1
  clear h1
  go_wp2_with fail
  (with_reducible refine (Run_u n l f1 f2 m1 m2 A cap _ ?_ hlen).mono ?_)
  · exact HL.out.up (by (repeat (first | (with_reducible exact bl_refl _) | (with_reducible refine bl_drew ?_) | (with_reducible refine bl_alloc ?_ _) | (with_reducible refine bl_set' ?_ ?_; · (first | omega | (simp; done) | (simp; omega))) | (with_reducible refine bl_last (by assumption) ?_) | (with_reducible refine bl_drewN ?_ _))))
  rintro e w3 ⟨hb3, B2, N2, c2, k2, rfl, hN2, h2⟩
  obtain ⟨hz3, hc3, hf3⟩ := bcl hb3 (by first | (simp; rfl) | rfl)
  have H2 := Lib.hid h2
  clear h2
  go_wp2_with fail
  have hcmp := cmp_ways e1 e2 m1 m2
  (with_reducible refine (Cmp_c e1 e2 m1 m2 _).mono ?_)
  rintro e w4 ⟨rfl, hb4⟩
  obtain ⟨hz4, hc4, hf4⟩ := bcl hb4 (by first | (simp; rfl) | rfl)
  have HB4 := Lib.hid hb4
  have h1 := H1.out
  have h2 := H2.out
  clear H1 H2
  rcases h1 with h1 | ⟨rfl, g, h, rfl, hg1, p1, q1, hB1⟩
  · clear h2
    rcases hcmp with ⟨c, hcm⟩ | ⟨c, hc, hcm⟩ | ⟨c, hc, _, hcm⟩
    all_goals
      rw [hcm]
      go_wp2
      go_ret
      refine ⟨rfl, ?_⟩
      (repeat (first | (with_reducible exact bl_refl _) | (with_reducible refine bl_drew ?_) | (with_reducible refine bl_alloc ?_ _) | (with_reducible refine bl_set' ?_ ?_; · (first | omega | (simp; done) | (simp; omega))) | (with_reducible refine bl_last (by assumption) ?_) | (with_reducible refine bl_drewN ?_ _)))
  rcases h2 with h2 | ⟨rfl, g', h', rfl, hg2, p2, q2, hB2⟩
  · clear hB1
    rcases hcmp with ⟨c, hcm⟩ | ⟨c, hc, hcm⟩ | ⟨c, hc, _, hcm⟩
    all_goals
      rw [hcm]
      go_wp2
      go_ret
      refine ⟨rfl, ?_⟩
      (repeat (first | (with_reducible exact bl_refl _) | (with_reducible refine bl_drew ?_) | (with_reducible refine bl_alloc ?_ _) | (with_reducible refine bl_set' ?_ ?_; · (first | omega | (simp; done) | (simp; omega))) | (with_reducible refine bl_last (by assumption) ?_) | (with_reducible refine bl_drewN ?_ _)))
  rcases hcmp with ⟨c, hcm⟩ | ⟨c, hc, hcm⟩ | ⟨c, hc, hle, hcm⟩
  · exfalso
    unfold runG at hg1 hg2
    simp only [Bool.and_eq_true] at hg1 hg2
    have t1 := hg1.2.2
    have t2 := hg2.2.2
    unfold rtV at t1 t2
    simp only [Bool.and_eq_true] at t1 t2
    rw [cmp_good (by rw [t1.1, t2.1]; rfl)] at hcm
    simp at hcm
  · clear hB1 hB2
    rw [hcm]
    have hcd : decide (0 < c) = true := by simpa using hc
    go_wp2
    go_ret
    refine ⟨rfl, ?_⟩
    (repeat (first | (with_reducible exact bl_refl _) | (with_reducible refine bl_drew ?_) | (with_reducible refine bl_alloc ?_ _) | (with_reducible refine bl_set' ?_ ?_; · (first | omega | (simp; done) | (simp; omega))) | (with_reducible refine bl_last (by assumption) ?_) | (with_reducible refine bl_drewN ?_ _)))
  have HLaw := Lib.hid (ears_law hg1 hle p1 q1 p2 q2)
  have HB1 := Lib.hid (hB1.below hb3)
  have HB2 := Lib.hid hB2
  clear hg1 hle p1 q1 p2 q2 hg2 hB1 hB2
  have hcd : decide (0 < c) = false := by simp; omega
  have hcc : ¬ 0 < c := by omega
  rw [hcm]
  clear hcm
  generalize n.toNat = N at *
  go_wp2
  go_loopw [11, 86] (fun u i wr => u = .bool true ∧ ∃ k : Nat, k ≤ N ∧ i = .int .i64 k ∧ Below w3.heap.size w3 wr ∧ w4.heap.size ≤ wr.heap.size) (fun _ i _ => N - (intOf i).toNat)
  case atStart => exact ⟨rfl, 0, Nat.zero_le _, rfl, HB4.out, Nat.le_refl _⟩
  case round =>
    obtain ⟨rfl, k, hk, rfl, hbw, hsz⟩ := hrel
    by_cases hlt : k < N
    · obtain ⟨b1, o1, rfl, hb1, hc1⟩ := HB1.out (by omega)
      obtain ⟨b2, o2, rfl, hb2, hc2⟩ := HB2.out (by omega)
      obtain ⟨u1, u2, u3, u4⟩ := hc1 k hlt
      obtain ⟨v1, v2, v3, v4⟩ := hc2 k hlt
      obtain ⟨⟨x, hx, hX⟩, ⟨y, hy, hY⟩⟩ := HLaw.out k hlt
      have s3 := hb3.size
      have c1 := (hbw.cell (p := ⟨b1, o1 + k * 4, none⟩) (show b1 < _ by omega)).trans u1
      have c2 := (hbw.cell (p := ⟨b1, o1 + k * 4 + 1, none⟩) (show b1 < _ by omega)).trans u2
      have c3 := (hbw.cell (p := ⟨b1, o1 + k * 4 + 2, none⟩) (show b1 < _ by omega)).trans u3
      have c4 := (hbw.cell (p := ⟨b1, o1 + k * 4 + 3, none⟩) (show b1 < _ by omega)).trans u4
      have d1 := (hbw.cell (p := ⟨b2, o2 + k * 4, none⟩) (show b2 < _ by omega)).trans v1
      have d2 := (hbw.cell (p := ⟨b2, o2 + k * 4 + 1, none⟩) (show b2 < _ by omega)).trans v2
      have d3 := (hbw.cell (p := ⟨b2, o2 + k * 4 + 2, none⟩) (show b2 < _ by omega)).trans v3
      have d4 := (hbw.cell (p := ⟨b2, o2 + k * 4 + 3, none⟩) (show b2 < _ by omega)).trans v4
      have z1 : b1 < wr.heap.size := by omega
      have z2 : b2 < wr.heap.size := by omega
      have HX := Lib.hid (fun w => Cmp_c (g' k).1 (g' k).2 (g k).1 (g k).2 w)
      have HY := Lib.hid (fun w => Cmp_c (h k).1 (h k).2 (h' k).1 (h' k).2 w)
      rw [hX] at HX
      rw [hY] at HY
      clear hX hY hc1 hc2 u1 u2 u3 u4 v1 v2 v3 v4
      have hxd : decide (x ≤ 0) = true := by simpa using hx
      have hyd : decide (y ≤ 0) = true := by simpa using hy
      generalize (g k).1 = p1 at *
      generalize (g k).2 = p2 at *
      generalize (g' k).1 = p3 at *
      generalize (g' k).2 = p4 at *
      generalize (h k).1 = q1 at *
      generalize (h k).2 = q2 at *
      generalize (h' k).1 = q3 at *
      generalize (h' k).2 = q4 at *
      go_wp2
      (refine wp_region_ble [0,1,2,3,4,5,6,7,8,9,10,11,12,13] [13] [14,15] (by kernel_rfl) (by kernel_rfl) (by rfl) (by repeat (first | exact panic_body | refine panic_then ?_ | refine panic_block ?_)) ?_
       simp only [pickI, pick, List.getElem?_cons_succ, List.getElem?_cons_zero]
       iterate 14 (first
         | (refine head_val (by rfl) (by rfl) ?_
            apply Exists.intro
            refine ⟨fun X hX => ?_, ?_⟩
            · (obtain ⟨qz, qc, qf⟩ := bcl hX.out (by first | (simp; rfl) | rfl)
               go_simp
               first | done | (go_at_call 31; refine (HX.out _).mono ?_; rintro e w2 ⟨rfl, hb2⟩; exact ⟨rfl, hX.trans hb2⟩) | rfl | exact ⟨rfl, rfl⟩)
            simp only [Act.put, List.setIfInBounds_toArray, List.set_cons_zero, List.set_cons_succ])
         | (refine head_pure (by rfl) (by rfl) ?_
            apply Exists.intro
            refine ⟨fun X => ?_, ?_⟩
            · (go_simp
               first | done | rfl)
            simp only [Act.put, List.setIfInBounds_toArray, List.set_cons_zero, List.set_cons_succ])
         | (refine head_pass (by rfl) ?_
            simp only [Act.put, List.setIfInBounds_toArray, List.set_cons_zero, List.set_cons_succ]))
       refine head_nil ?_
       intro w' hw'
       have hb := hw'.out
       clear hw'
       obtain ⟨hz, hc, hf⟩ := bcl hb (by first | (simp; rfl) | rfl))
      have HQ := Lib.hid hb
      obtain ⟨qz1, qc1, qf1⟩ := bcl hb (by first | (simp; rfl) | rfl)
      go_wp2
      (refine wp_region_ble [0,1,2,3,4,5,6,7,8,9,10,11,12,13] [13] [14,15] (by kernel_rfl) (by kernel_rfl) (by rfl) (by repeat (first | exact panic_body | refine panic_then ?_ | refine panic_block ?_)) ?_
       simp only [pickI, pick, List.getElem?_cons_succ, List.getElem?_cons_zero]
       iterate 14 (first
         | (refine head_val (by rfl) (by rfl) ?_
            apply Exists.intro
            refine ⟨fun X hX => ?_, ?_⟩
            · (obtain ⟨qz, qc, qf⟩ := bcl hX.out (by first | (simp; rfl) | rfl)
               go_simp
               first | done | (go_at_call 31; refine (HY.out _).mono ?_; rintro e w2 ⟨rfl, hb2⟩; exact ⟨rfl, hX.trans hb2⟩) | rfl | exact ⟨rfl, rfl⟩)
            simp only [Act.put, List.setIfInBounds_toArray, List.set_cons_zero, List.set_cons_succ])
         | (refine head_pure (by rfl) (by rfl) ?_
            apply Exists.intro
            refine ⟨fun X => ?_, ?_⟩
            · (go_simp
               first | done | rfl)
            simp only [Act.put, List.setIfInBounds_toArray, List.set_cons_zero, List.set_cons_succ])
         | (refine head_pass (by rfl) ?_
            simp only [Act.put, List.setIfInBounds_toArray, List.set_cons_zero, List.set_cons_succ]))
       refine head_nil ?_
       intro w' hw'
       have hb := hw'.out
       clear hw'
       obtain ⟨hz, hc, hf⟩ := bcl hb (by first | (simp; rfl) | rfl))
      go_wp2
      go_roundw
      case rel => exact ⟨rfl, k + 1, by omega, by go_num, bl_trans (bl_trans hbw HQ.out) hb, Nat.le_trans hsz (Nat.le_trans HQ.out.size hb.size)⟩
      case measure => simp [intOf]; omega
    · have hkN : k = N := by omega
      subst hkN
      go_wp2
      go_ret
      refine ⟨rfl, ?_⟩
      (repeat (first | (with_reducible exact bl_refl _) | (with_reducible refine bl_drew ?_) | (with_reducible refine bl_alloc ?_ _) | (with_reducible refine bl_set' ?_ ?_; · (first | omega | (simp; done) | (simp; omega))) | (with_reducible refine bl_last (by assumption) ?_) | (with_reducible refine bl_drewN ?_ _)))
end Go.Proofs.Ytkgklmmkkhbimaa
