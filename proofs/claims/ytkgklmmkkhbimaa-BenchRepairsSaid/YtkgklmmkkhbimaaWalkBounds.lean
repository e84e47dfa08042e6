/- BenchBounds: all that is played lies between the bounds. -/
import Derived.Test.YtkgklmmkkhbimaaWalkEars
namespace Go.Proofs.Ytkgklmmkkhbimaa
open Go.RowKit

theorem abs_le {o d e1 e2 v : Int} (he : 0 < e2) (h1 : o ≤ v) (h2 : -v ≤ o) (h : Le (v, d) (e1, e2)) : Le (o, d) (e1, e2) ∧ Le (-e1, e2) (o, d) := by
  unfold Le at h ⊢
  simp only at h ⊢
  have a := Int.mul_le_mul_of_nonneg_right h1 (Int.le_of_lt he)
  have b := Int.mul_le_mul_of_nonneg_right h2 (Int.le_of_lt he)
  have c : -v * e2 = -(v * e2) := by grind
  have d' : -e1 * d = -(e1 * d) := by grind
  rw [c] at b
  rw [d']
  constructor <;> omega
theorem ply_parts {n : Int} {l : List Bt} {f1 f2 : Int} {M : Nat} {off : Nat → Int × Int} (h : plyG n l f1 f2 M off = true) : vld n l = true ∧ sdV f1 f2 = true ∧ M = l.length ∧ allV off M = true := by
  unfold plyG at h
  simp only [Bool.and_eq_true, decide_eq_true_eq] at h
  exact ⟨h.1, h.2.1, h.2.2.1, h.2.2.2⟩
theorem run_parts {n : Int} {l : List Bt} {f1 f2 e1 e2 : Int} (h : runG n l f1 f2 e1 e2 = true) : vld n l = true ∧ sdV f1 f2 = true ∧ rtV e1 e2 = true ∧ 0 < e2 := by
  unfold runG at h
  simp only [Bool.and_eq_true] at h
  refine ⟨h.1, h.2.1, h.2.2, ?_⟩
  have := h.2.2
  unfold rtV at this
  simp only [Bool.and_eq_true] at this
  exact den_pos this.1
theorem bounds_law {n : Int} {l : List Bt} {f1 f2 e1 e2 : Int} {M : Nat} {off : Nat → Int × Int} {g h p : Nat → Int × Int} (hg : runG n l f1 f2 e1 e2 = true) (hp : plyG n l f1 f2 M off = true)
    (hl : ∀ j, j < M → Le (off j) (e1, e2) ∧ Le (-e1, e2) (off j)) (p1 : plO l (f1, f2) (fun _ => (-e1, e2)) l.length = some g) (p2 : plO l (f1, f2) (fun _ => (e1, e2)) l.length = some h)
    (q : plO l (f1, f2) off l.length = some p) (x : Nat) (hx : x < n.toNat) :
    (∃ c : Int, c ≤ 0 ∧ cmpV (g x).1 (g x).2 (p x).1 (p x).2 = .tuple #[.int .i64 c, .int .i64 0]) ∧ (∃ c : Int, c ≤ 0 ∧ cmpV (p x).1 (p x).2 (h x).1 (h x).2 = .tuple #[.int .i64 c, .int .i64 0]) := by
  obtain ⟨hv, hs, _⟩ := run_parts hg
  obtain ⟨_, _, hM, _⟩ := ply_parts hp
  exact ⟨cmp_le (play_all (f0 := (f1, f2)) hv hs p1 hx) (play_all (f0 := (f1, f2)) hv hs q hx) (plO_le (fun j hj => (hl j (by omega)).2) p1 q x), cmp_le (play_all (f0 := (f1, f2)) hv hs q hx) (play_all (f0 := (f1, f2)) hv hs p2 hx) (plO_le (fun j hj => (hl j (by omega)).1) q p2 x)⟩

set_option maxRecDepth 100000 in
set_option maxHeartbeats 4000000 in
theorem walk_BenchBounds (n : Int) (A : Option Addr) (l : List Bt) (cap : Nat) (f1 f2 e1 e2 : Int) (Ao : Option Addr) (M : Nat) (off : Nat → Int × Int) (capo : Nat) (w : World) (hlen : l.length ≤ 9223372036854775807) (hl : Lst w w.heap.size A l)
    (hM : M ≤ 9223372036854775807) (ho : RatsR w w.heap.size Ao M off) :
    Calls Try.prog 9 #[.int .i64 n, .slice A l.length cap, .agg #[.int .i64 f1, .int .i64 f2], .agg #[.int .i64 e1, .int .i64 e2], .slice Ao M capo] w (Ret (.bool true) w) := by
  have HL := Lib.hid hl
  have HO := Lib.hid ho
  clear hl ho
  go_enter Try.func9, Try.ntmps9
  go_wp2_with fail
  ((with_reducible refine (head18_c _).mono ?_); rintro e w1 ⟨rfl, hb1⟩; obtain ⟨hz1, hc1, hf1⟩ := bcl hb1 (by first | (simp; rfl) | rfl))
  go_wp2_with fail
  (with_reducible refine (Run_u n l f1 f2 e1 e2 A cap _ ?_ hlen).mono ?_)
  · exact HL.out.up (by (repeat (first | (with_reducible exact bl_refl _) | (with_reducible refine bl_drew ?_) | (with_reducible refine bl_alloc ?_ _) | (with_reducible refine bl_set' ?_ ?_; · (first | omega | (simp; done) | (simp; omega))) | (with_reducible refine bl_last (by assumption) ?_) | (with_reducible refine bl_drewN ?_ _))))
  rintro e w2 ⟨hb2, B1, N1, c1, k1, rfl, hN1, h1⟩
  obtain ⟨hz2, hc2, hf2⟩ := bcl hb2 (by first | (simp; rfl) | rfl)
  have H1 := Lib.hid h1
  clear h1
  go_wp2_with fail
  (with_reducible refine (Play_u n l f1 f2 M off A Ao cap capo _ ?_ ?_ hlen hM).mono ?_)
  · exact HL.out.up (by (repeat (first | (with_reducible exact bl_refl _) | (with_reducible refine bl_drew ?_) | (with_reducible refine bl_alloc ?_ _) | (with_reducible refine bl_set' ?_ ?_; · (first | omega | (simp; done) | (simp; omega))) | (with_reducible refine bl_last (by assumption) ?_) | (with_reducible refine bl_drewN ?_ _))))
  · exact HO.out.up (by (repeat (first | (with_reducible exact bl_refl _) | (with_reducible refine bl_drew ?_) | (with_reducible refine bl_alloc ?_ _) | (with_reducible refine bl_set' ?_ ?_; · (first | omega | (simp; done) | (simp; omega))) | (with_reducible refine bl_last (by assumption) ?_) | (with_reducible refine bl_drewN ?_ _))))
  rintro e w3 ⟨hb3, B2, N2, c2, k2, rfl, hN2, h2⟩
  obtain ⟨hz3, hc3, hf3⟩ := bcl hb3 (by first | (simp; rfl) | rfl)
  have h1 := H1.out
  clear H1
  rcases h1 with h1 | ⟨rfl, g, h, rfl, hg1, p1, q1, hB1⟩
  · clear h2
    go_wp2
    go_ret
    refine ⟨rfl, ?_⟩
    (repeat (first | (with_reducible exact bl_refl _) | (with_reducible refine bl_drew ?_) | (with_reducible refine bl_alloc ?_ _) | (with_reducible refine bl_set' ?_ ?_; · (first | omega | (simp; done) | (simp; omega))) | (with_reducible refine bl_last (by assumption) ?_) | (with_reducible refine bl_drewN ?_ _)))
  rcases h2 with h2 | ⟨rfl, p, rfl, hg2, p2, hB2⟩
  · clear hB1
    go_wp2
    go_ret
    refine ⟨rfl, ?_⟩
    (repeat (first | (with_reducible exact bl_refl _) | (with_reducible refine bl_drew ?_) | (with_reducible refine bl_alloc ?_ _) | (with_reducible refine bl_set' ?_ ?_; · (first | omega | (simp; done) | (simp; omega))) | (with_reducible refine bl_last (by assumption) ?_) | (with_reducible refine bl_drewN ?_ _)))
  have HO3 : Hid (RatsR w3 w3.heap.size Ao M off) := Lib.hid (HO.out.up (by (repeat (first | (with_reducible exact bl_refl _) | (with_reducible refine bl_drew ?_) | (with_reducible refine bl_alloc ?_ _) | (with_reducible refine bl_set' ?_ ?_; · (first | omega | (simp; done) | (simp; omega))) | (with_reducible refine bl_last (by assumption) ?_) | (with_reducible refine bl_drewN ?_ _)))))
  have HLaw := Lib.hid (fun hall => bounds_law hg1 hg2 hall p1 q1 p2)
  obtain ⟨hv, hs, hr, he2⟩ := run_parts hg1
  obtain ⟨_, _, hML, hall⟩ := ply_parts hg2
  have HV := Lib.hid hall
  have HB1 := Lib.hid (hB1.below hb3)
  have HB2 := Lib.hid hB2
  clear hg1 p1 q1 p2 hg2 hB1 hB2 hv hs hr hall hML
  generalize n.toNat = N at *
  go_wp2
  go_loopw [66] (fun i wr => ∃ k : Nat, k ≤ M ∧ i = .int .i64 k ∧ Hid (∀ j, j < k → Le (off j) (e1, e2) ∧ Le (-e1, e2) (off j)) ∧ Below w3.heap.size w3 wr) (fun i _ => M - (intOf i).toNat)
  case atStart => exact ⟨0, Nat.zero_le _, rfl, Lib.hid (fun j hj => absurd hj (by omega)), bl_refl _⟩
  case round =>
    obtain ⟨k, hk, rfl, HI, hbw⟩ := hrel
    obtain ⟨rz, rc, rf⟩ := bcl hbw (by first | (simp; rfl) | rfl)
    by_cases hlt : k < M
    · obtain ⟨b1, o1, rfl, hb1, hc1⟩ := HO3.out (by omega)
      obtain ⟨u1, u2⟩ := hc1 k hlt
      have c1 := (hbw.cell (p := ⟨b1, o1 + k * 2, none⟩) hb1).trans u1
      have c2 := (hbw.cell (p := ⟨b1, o1 + k * 2 + 1, none⟩) hb1).trans u2
      have z1 : b1 < wr.heap.size := by omega
      clear hc1 u1 u2 hb1
      have hvo : vR (off k).1 (off k).2 = true := by
        have := List.all_eq_true.1 HV.out k (by simp [hlt])
        simpa using this
      have hbd := v_of hvo
      have HN := Lib.hid (fun (v : Int) (a : (off k).1 ≤ v) (b : -v ≤ (off k).1) (c : Le (v, (off k).2) (e1, e2)) (j : Nat) (hj : j < k + 1) =>
        show Le (off j) (e1, e2) ∧ Le (-e1, e2) (off j) from if e : j = k then by subst e; exact abs_le he2 a b c else HI.out j (by omega))
      clear hvo
      generalize (off k).1 = o at *
      generalize (off k).2 = d at *
      obtain ⟨_, _, ho1, ho2, _⟩ := hbd
      rcases Int.lt_trichotomy o 0 with h0 | h0 | h0
      ·
        have HC := Lib.hid (fun w => Cmp_c (-o) d e1 e2 w)
        rcases cmp_ways (-o) d e1 e2 with ⟨c, hcm⟩ | ⟨c, hc, hcm⟩ | ⟨c, hc, hle, hcm⟩
        · rw [hcm] at HC
          clear hcm
          go_wp2_with (go_at_call 31; ((with_reducible refine (HC.out _).mono ?_); rintro e w' ⟨rfl, hb⟩; obtain ⟨hz, hc, hf⟩ := bcl hb (by first | (simp; rfl) | rfl)))
          go_ret
          refine ⟨rfl, ?_⟩
          (repeat (first | (with_reducible exact bl_refl _) | (with_reducible refine bl_drew ?_) | (with_reducible refine bl_alloc ?_ _) | (with_reducible refine bl_set' ?_ ?_; · (first | omega | (simp; done) | (simp; omega))) | (with_reducible refine bl_last (by assumption) ?_) | (with_reducible refine bl_drewN ?_ _)))
        · rw [hcm] at HC
          clear hcm
          have hcd : decide (0 < c) = true := by simpa using hc
          go_wp2_with (go_at_call 31; ((with_reducible refine (HC.out _).mono ?_); rintro e w' ⟨rfl, hb⟩; obtain ⟨hz, hc, hf⟩ := bcl hb (by first | (simp; rfl) | rfl)))
          go_ret
          refine ⟨rfl, ?_⟩
          (repeat (first | (with_reducible exact bl_refl _) | (with_reducible refine bl_drew ?_) | (with_reducible refine bl_alloc ?_ _) | (with_reducible refine bl_set' ?_ ?_; · (first | omega | (simp; done) | (simp; omega))) | (with_reducible refine bl_last (by assumption) ?_) | (with_reducible refine bl_drewN ?_ _)))
        · rw [hcm] at HC
          clear hcm
          have hcd : decide (0 < c) = false := by simp; omega
          have HNX := Lib.hid (HN.out (-o) (by omega) (by omega) hle)
          clear hle
          go_wp2_with (go_at_call 31; ((with_reducible refine (HC.out _).mono ?_); rintro e w' ⟨rfl, hb⟩; obtain ⟨hz, hc, hf⟩ := bcl hb (by first | (simp; rfl) | rfl)))
          go_roundw
          case rel => exact ⟨k + 1, by omega, by go_num, HNX, by (repeat (first | (with_reducible exact bl_refl _) | (with_reducible refine bl_drew ?_) | (with_reducible refine bl_alloc ?_ _) | (with_reducible refine bl_set' ?_ ?_; · (first | omega | (simp; done) | (simp; omega))) | (with_reducible refine bl_last (by assumption) ?_) | (with_reducible refine bl_drewN ?_ _)))⟩
          case measure => simp [intOf]; omega
      · subst h0
        have HC := Lib.hid (fun w => Cmp_c 0 d e1 e2 w)
        rcases cmp_ways 0 d e1 e2 with ⟨c, hcm⟩ | ⟨c, hc, hcm⟩ | ⟨c, hc, hle, hcm⟩
        · rw [hcm] at HC
          clear hcm
          go_wp2_with (go_at_call 31; ((with_reducible refine (HC.out _).mono ?_); rintro e w' ⟨rfl, hb⟩; obtain ⟨hz, hc, hf⟩ := bcl hb (by first | (simp; rfl) | rfl)))
          go_ret
          refine ⟨rfl, ?_⟩
          (repeat (first | (with_reducible exact bl_refl _) | (with_reducible refine bl_drew ?_) | (with_reducible refine bl_alloc ?_ _) | (with_reducible refine bl_set' ?_ ?_; · (first | omega | (simp; done) | (simp; omega))) | (with_reducible refine bl_last (by assumption) ?_) | (with_reducible refine bl_drewN ?_ _)))
        · rw [hcm] at HC
          clear hcm
          have hcd : decide (0 < c) = true := by simpa using hc
          go_wp2_with (go_at_call 31; ((with_reducible refine (HC.out _).mono ?_); rintro e w' ⟨rfl, hb⟩; obtain ⟨hz, hc, hf⟩ := bcl hb (by first | (simp; rfl) | rfl)))
          go_ret
          refine ⟨rfl, ?_⟩
          (repeat (first | (with_reducible exact bl_refl _) | (with_reducible refine bl_drew ?_) | (with_reducible refine bl_alloc ?_ _) | (with_reducible refine bl_set' ?_ ?_; · (first | omega | (simp; done) | (simp; omega))) | (with_reducible refine bl_last (by assumption) ?_) | (with_reducible refine bl_drewN ?_ _)))
        · rw [hcm] at HC
          clear hcm
          have hcd : decide (0 < c) = false := by simp; omega
          have HNX := Lib.hid (HN.out 0 (by omega) (by omega) hle)
          clear hle
          go_wp2_with (go_at_call 31; ((with_reducible refine (HC.out _).mono ?_); rintro e w' ⟨rfl, hb⟩; obtain ⟨hz, hc, hf⟩ := bcl hb (by first | (simp; rfl) | rfl)))
          go_roundw
          case rel => exact ⟨k + 1, by omega, by go_num, HNX, by (repeat (first | (with_reducible exact bl_refl _) | (with_reducible refine bl_drew ?_) | (with_reducible refine bl_alloc ?_ _) | (with_reducible refine bl_set' ?_ ?_; · (first | omega | (simp; done) | (simp; omega))) | (with_reducible refine bl_last (by assumption) ?_) | (with_reducible refine bl_drewN ?_ _)))⟩
          case measure => simp [intOf]; omega
      ·
        have HC := Lib.hid (fun w => Cmp_c o d e1 e2 w)
        rcases cmp_ways o d e1 e2 with ⟨c, hcm⟩ | ⟨c, hc, hcm⟩ | ⟨c, hc, hle, hcm⟩
        · rw [hcm] at HC
          clear hcm
          go_wp2_with (go_at_call 31; ((with_reducible refine (HC.out _).mono ?_); rintro e w' ⟨rfl, hb⟩; obtain ⟨hz, hc, hf⟩ := bcl hb (by first | (simp; rfl) | rfl)))
          go_ret
          refine ⟨rfl, ?_⟩
          (repeat (first | (with_reducible exact bl_refl _) | (with_reducible refine bl_drew ?_) | (with_reducible refine bl_alloc ?_ _) | (with_reducible refine bl_set' ?_ ?_; · (first | omega | (simp; done) | (simp; omega))) | (with_reducible refine bl_last (by assumption) ?_) | (with_reducible refine bl_drewN ?_ _)))
        · rw [hcm] at HC
          clear hcm
          have hcd : decide (0 < c) = true := by simpa using hc
          go_wp2_with (go_at_call 31; ((with_reducible refine (HC.out _).mono ?_); rintro e w' ⟨rfl, hb⟩; obtain ⟨hz, hc, hf⟩ := bcl hb (by first | (simp; rfl) | rfl)))
          go_ret
          refine ⟨rfl, ?_⟩
          (repeat (first | (with_reducible exact bl_refl _) | (with_reducible refine bl_drew ?_) | (with_reducible refine bl_alloc ?_ _) | (with_reducible refine bl_set' ?_ ?_; · (first | omega | (simp; done) | (simp; omega))) | (with_reducible refine bl_last (by assumption) ?_) | (with_reducible refine bl_drewN ?_ _)))
        · rw [hcm] at HC
          clear hcm
          have hcd : decide (0 < c) = false := by simp; omega
          have HNX := Lib.hid (HN.out o (by omega) (by omega) hle)
          clear hle
          go_wp2_with (go_at_call 31; ((with_reducible refine (HC.out _).mono ?_); rintro e w' ⟨rfl, hb⟩; obtain ⟨hz, hc, hf⟩ := bcl hb (by first | (simp; rfl) | rfl)))
          go_roundw
          case rel => exact ⟨k + 1, by omega, by go_num, HNX, by (repeat (first | (with_reducible exact bl_refl _) | (with_reducible refine bl_drew ?_) | (with_reducible refine bl_alloc ?_ _) | (with_reducible refine bl_set' ?_ ?_; · (first | omega | (simp; done) | (simp; omega))) | (with_reducible refine bl_last (by assumption) ?_) | (with_reducible refine bl_drewN ?_ _)))⟩
          case measure => simp [intOf]; omega
    · have hkM : k = M := by omega
      subst hkM
      have HLL := Lib.hid (HLaw.out HI.out)
      clear HLaw
      have hwr := hbw.size
      have HB1' := Lib.hid ((HB1.out.more hb3.size).below hbw)
      have HB2' := Lib.hid (HB2.out.below hbw)
      have HBW := Lib.hid hbw
      clear HB1 HB2
      obtain ⟨ws, rfl⟩ : ∃ x : World, x = wr := ⟨_, rfl⟩
      go_wp2
      go_loopw [11, 94] (fun u i wt => u = .bool true ∧ ∃ m : Nat, m ≤ N ∧ i = .int .i64 m ∧ Below ws.heap.size ws wt) (fun _ i _ => N - (intOf i).toNat)
      case atStart => exact ⟨rfl, 0, Nat.zero_le _, rfl, bl_refl _⟩
      case round =>
        obtain ⟨rfl, m, hm, rfl, hbt⟩ := hrel
        by_cases hlt : m < N
        · obtain ⟨b1, o1, rfl, hb1, hc1⟩ := HB1'.out (by omega)
          obtain ⟨b2, o2, rfl, hb2, hc2⟩ := HB2'.out (by omega)
          obtain ⟨u1, u2, u3, u4⟩ := hc1 m hlt
          obtain ⟨v1, v2⟩ := hc2 m hlt
          obtain ⟨⟨x, hx, hX⟩, ⟨y, hy, hY⟩⟩ := HLL.out m hlt
          have st := hbt.size
          have c1 := (hbt.cell (p := ⟨b1, o1 + m * 4, none⟩) (show b1 < _ by omega)).trans u1
          have c2 := (hbt.cell (p := ⟨b1, o1 + m * 4 + 1, none⟩) (show b1 < _ by omega)).trans u2
          have c3 := (hbt.cell (p := ⟨b1, o1 + m * 4 + 2, none⟩) (show b1 < _ by omega)).trans u3
          have c4 := (hbt.cell (p := ⟨b1, o1 + m * 4 + 3, none⟩) (show b1 < _ by omega)).trans u4
          have d1 := (hbt.cell (p := ⟨b2, o2 + m * 2, none⟩) (show b2 < _ by omega)).trans v1
          have d2 := (hbt.cell (p := ⟨b2, o2 + m * 2 + 1, none⟩) (show b2 < _ by omega)).trans v2
          have z1 : b1 < wr.heap.size := by omega
          have z2 : b2 < wr.heap.size := by omega
          have HX := Lib.hid (fun w => Cmp_c (g m).1 (g m).2 (p m).1 (p m).2 w)
          have HY := Lib.hid (fun w => Cmp_c (p m).1 (p m).2 (h m).1 (h m).2 w)
          rw [hX] at HX
          rw [hY] at HY
          clear hX hY hc1 hc2 u1 u2 u3 u4 v1 v2 hb1 hb2
          have hxd : decide (x ≤ 0) = true := by simpa using hx
          have hyd : decide (y ≤ 0) = true := by simpa using hy
          generalize (g m).1 = p1 at *
          generalize (g m).2 = p2 at *
          generalize (p m).1 = p3 at *
          generalize (p m).2 = p4 at *
          generalize (h m).1 = q1 at *
          generalize (h m).2 = q2 at *
          go_wp2
          (refine wp_region_ble [0,1,2,3,4,5,6,7,8,9,10,11,12] [12] [13,14] (by kernel_rfl) (by kernel_rfl) (by rfl) (by repeat (first | exact panic_body | refine panic_then ?_ | refine panic_block ?_)) ?_
           simp only [pickI, pick, List.getElem?_cons_succ, List.getElem?_cons_zero]
           iterate 13 (first
             | (refine head_val (by rfl) (by rfl) ?_
                apply Exists.intro
                refine ⟨fun X hX => ?_, ?_⟩
                · (obtain ⟨qz, qc, qf⟩ := bcl hX.out (by first | (simp; rfl) | rfl)
                   go_simp
                   first | done | (go_at_call 31; refine (HX.out _).mono ?_; rintro e w2 ⟨rfl, hb2⟩; exact ⟨rfl, hX.trans hb2⟩) | rfl | exact ⟨rfl, rfl⟩)
                simp only [Act.put, List.setIfInBounds_toArray, List.set_cons_zero, List.set_cons_succ])
             | (refine head_pure (by rfl) (by rfl) ?_
                apply Exists.intro
                refine ⟨fun X => ?_, ?_⟩
                · (go_simp
                   first | done | rfl)
                simp only [Act.put, List.setIfInBounds_toArray, List.set_cons_zero, List.set_cons_succ])
             | (refine head_pass (by rfl) ?_
                simp only [Act.put, List.setIfInBounds_toArray, List.set_cons_zero, List.set_cons_succ]))
           refine head_nil ?_
           intro w' hw'
           have hb := hw'.out
           clear hw'
           obtain ⟨hz, hc, hf⟩ := bcl hb (by first | (simp; rfl) | rfl))
          have HQ := Lib.hid hb
          obtain ⟨qz1, qc1, qf1⟩ := bcl hb (by first | (simp; rfl) | rfl)
          go_wp2
          (refine wp_region_ble [0,1,2,3,4,5,6,7,8,9,10,11,12] [12] [13,14] (by kernel_rfl) (by kernel_rfl) (by rfl) (by repeat (first | exact panic_body | refine panic_then ?_ | refine panic_block ?_)) ?_
           simp only [pickI, pick, List.getElem?_cons_succ, List.getElem?_cons_zero]
           iterate 13 (first
             | (refine head_val (by rfl) (by rfl) ?_
                apply Exists.intro
                refine ⟨fun X hX => ?_, ?_⟩
                · (obtain ⟨qz, qc, qf⟩ := bcl hX.out (by first | (simp; rfl) | rfl)
                   go_simp
                   first | done | (go_at_call 31; refine (HY.out _).mono ?_; rintro e w2 ⟨rfl, hb2⟩; exact ⟨rfl, hX.trans hb2⟩) | rfl | exact ⟨rfl, rfl⟩)
                simp only [Act.put, List.setIfInBounds_toArray, List.set_cons_zero, List.set_cons_succ])
             | (refine head_pure (by rfl) (by rfl) ?_
                apply Exists.intro
                refine ⟨fun X => ?_, ?_⟩
                · (go_simp
                   first | done | rfl)
                simp only [Act.put, List.setIfInBounds_toArray, List.set_cons_zero, List.set_cons_succ])
             | (refine head_pass (by rfl) ?_
                simp only [Act.put, List.setIfInBounds_toArray, List.set_cons_zero, List.set_cons_succ]))
           refine head_nil ?_
           intro w' hw'
           have hb := hw'.out
           clear hw'
           obtain ⟨hz, hc, hf⟩ := bcl hb (by first | (simp; rfl) | rfl))
          go_wp2
          go_roundw
          case rel => exact ⟨rfl, m + 1, by omega, by go_num, bl_trans (bl_trans hbt HQ.out) hb⟩
          case measure => simp [intOf]; omega
        · have hmN : m = N := by omega
          subst hmN
          go_wp2
          go_ret
          refine ⟨rfl, ?_⟩
          have HF := bl_trans HBW.out hbt
          (repeat (first | (with_reducible exact bl_refl _) | (with_reducible refine bl_drew ?_) | (with_reducible refine bl_alloc ?_ _) | (with_reducible refine bl_set' ?_ ?_; · (first | omega | (simp; done) | (simp; omega))) | (with_reducible refine bl_last (by assumption) ?_) | (with_reducible refine bl_drewN ?_ _)))
end Go.Proofs.Ytkgklmmkkhbimaa
