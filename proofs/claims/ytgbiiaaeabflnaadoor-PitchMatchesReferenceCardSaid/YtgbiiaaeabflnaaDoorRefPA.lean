/- Pitch: the reference's Of, product and Cmp (picked from BeatAA, BeatAB, PitB, PitC). -/
import Derived.Test.YtgbiiaaeabflnaaDoorFracE
import Derived.Test.YtgbiiaaeabflnaaDoorPitL
import Derived.Test.YtgbiiaaeabflnaaDoorPitQ
import Derived.Test.YtgbiiaaeabflnaaDoorNatK
import Derived.Test.YtgbiiaaeabflnaaDoorBlks
import Derived.LoopN
import Derived.Deep.RegionHeldLaw
namespace Go.Proofs.YtgbiiaaeabflnaaDoor
open Go Go.RowKit

theorem RPrime_c (i : Nat) (h : i < 6) (w : World) : Calls Tryd.prog 51 #[.int .i64 (i : Int)] w (RetS (.int .i64 (prm i : Int)) w) := by
  rcases lt6 h with rfl | rfl | rfl | rfl | rfl | rfl
  all_goals
    simp only [prm]
    go_enter Tryd.func51, Tryd.ntmps51
    go_wp2
    go_ret
    exact ⟨rfl, rfl⟩

/-- A number that the reference returns. -/
def RNumS (x : Nat) (w : World) (e : Ending) (w' : World) : Prop := Below w.heap.size w w' ∧ ∃ b n c, w.heap.size ≤ b ∧ e = .returned (.slice (some ⟨b, 0, none⟩) n c) ∧ Num w' w'.heap.size b n x ∧ n ≤ 640 ∧ n ≤ c
theorem two_len {w : World} {B b n x : Nat} (h : Num w B b n x) (hx : x < 18446744073709551616) : n ≤ 640 := by
  obtain ⟨f, _, hI⟩ := h
  have := isN_len (k := 2) hI (by omega)
  omega

set_option maxHeartbeats 1000000 in
theorem RNcmp_c (ba bb n m x y ca cb : Nat) (w : World) (ha : Num w w.heap.size ba n x) (hb : Num w w.heap.size bb m y) (hn : n ≤ 640) (hm : m ≤ 640) :
    Calls Tryd.prog 49 #[.slice (some ⟨ba, 0, none⟩) n ca, .slice (some ⟨bb, 0, none⟩) m cb] w (Ret (.tuple #[.int .i64 (ordZ (x : Int) (y : Int)), .int .i64 0]) w) := by
  have HB := Lib.hid (RNboth_c ba n x ca bb m y cb w ha hn hb hm)
  have HO := Lib.hid (ROrder_c ba bb n m x y ca cb w ha hb (by omega) (by omega))
  generalize ordZ (x : Int) (y : Int) = O at *
  clear ha hb
  go_enter Tryd.func49, Tryd.ntmps49
  go_wp2_with (first | (go_at_call 71; ((with_reducible refine (HB.out).mono ?_); rintro e w' ⟨rfl, rfl⟩)) | (go_at_call 72; ((with_reducible refine (HO.out).mono ?_); rintro e w' ⟨rfl, hb⟩; obtain ⟨hz, hc, hf⟩ := bcl hb (by first | (simp; rfl) | rfl))))
  go_ret2
  exact ⟨rfl, by (repeat (first | (with_reducible exact bl_refl _) | (with_reducible refine bl_drew ?_) | (with_reducible refine bl_alloc ?_ _) | (with_reducible refine bl_set' ?_ ?_; · (first | omega | (simp; done) | (simp; omega))) | (with_reducible refine bl_last (by assumption) ?_) | (with_reducible refine bl_drewN ?_ _)))⟩
set_option maxRecDepth 100000 in
set_option maxHeartbeats 4000000 in
theorem ROf_c (a b c d e f : Int) (w : World) : Calls Tryd.prog 21 #[.agg #[.int .i64 a, .int .i64 b, .int .i64 c, .int .i64 d, .int .i64 e, .int .i64 f]] w (Ret (ofV a b c d e f) w) := by
  have hI := fun w => RPInt_c a b c d e f w
  unfold ofV
  cases hp : pV a b c d e f 48
  · rw [hp] at hI
    have HI := Lib.hid hI
    clear hp hI
    rw [if_neg (by decide)]
    go_enter Tryd.func21, Tryd.ntmps21
    go_wp2_with (go_at_call 19; ((with_reducible refine (HI.out _).mono ?_); rintro e w' ⟨rfl, hb⟩; obtain ⟨hz, hc, hf⟩ := bcl hb (by first | (simp; rfl) | rfl)))
    (refine bodyPost_ret (v := .tuple #[.agg #[.int .i64 0, .int .i64 0, .int .i64 0, .int .i64 0, .int .i64 0, .int .i64 0], .int .i64 1]) (by simp only [results, Tryd.results21]; go_simp) rfl ⟨rfl, ?_⟩)
    (repeat (first | (with_reducible exact bl_refl _) | (with_reducible refine bl_drew ?_) | (with_reducible refine bl_alloc ?_ _) | (with_reducible refine bl_set' ?_ ?_; · (first | omega | (simp; done) | (simp; omega))) | (with_reducible refine bl_last (by assumption) ?_) | (with_reducible refine bl_drewN ?_ _)))
  · rw [hp] at hI
    have HI := Lib.hid hI
    rw [if_pos rfl]
    obtain ⟨h1, h2, h3, h4, h5, h6⟩ := pV_of hp
    have h1 := wi_of h1; have h2 := wi_of h2; have h3 := wi_of h3; have h4 := wi_of h4; have h5 := wi_of h5; have h6 := wi_of h6
    clear hp hI
    have q1 : IntKind.i64.wrap (a * 12) = a * 12 := by rw [IntKind.wrap_i64]; omega
    have q2 : IntKind.i64.wrap (b * 12) = b * 12 := by rw [IntKind.wrap_i64]; omega
    have q3 : IntKind.i64.wrap (c * 12) = c * 12 := by rw [IntKind.wrap_i64]; omega
    have q4 : IntKind.i64.wrap (d * 12) = d * 12 := by rw [IntKind.wrap_i64]; omega
    have q5 : IntKind.i64.wrap (e * 12) = e * 12 := by rw [IntKind.wrap_i64]; omega
    have q6 : IntKind.i64.wrap (f * 12) = f * 12 := by rw [IntKind.wrap_i64]; omega
    clear h1 h2 h3 h4 h5 h6
    go_enter Tryd.func21, Tryd.ntmps21
    go_wp2_with (go_at_call 19; ((with_reducible refine (HI.out _).mono ?_); rintro e w' ⟨rfl, hb⟩; obtain ⟨hz, hc, hf⟩ := bcl hb (by first | (simp; rfl) | rfl)))
    refine wp_loop_rounds 7 ?_
    iterate 7 (rw [rounds_succ]; go_wp2)
    (refine bodyPost_ret (v := .tuple #[.agg #[.int .i64 (a * 12), .int .i64 (b * 12), .int .i64 (c * 12), .int .i64 (d * 12), .int .i64 (e * 12), .int .i64 (f * 12)], .int .i64 0]) (by simp only [results, Tryd.results21]; go_simp) rfl ⟨rfl, ?_⟩)
    (repeat (first | (with_reducible exact bl_refl _) | (with_reducible refine bl_drew ?_) | (with_reducible refine bl_alloc ?_ _) | (with_reducible refine bl_set' ?_ ?_; · (first | omega | (simp; done) | (simp; omega))) | (with_reducible refine bl_last (by assumption) ?_) | (with_reducible refine bl_drewN ?_ _)))
set_option maxRecDepth 100000 in
set_option maxHeartbeats 4000000 in
theorem Rprod3_c (s a b c d e f : Int) (w : World) (hs : s = 1 ∨ s = -1) (hp : pV a b c d e f 1152 = true) : Calls Tryd.prog 50 #[.agg #[.int .i64 a, .int .i64 b, .int .i64 c, .int .i64 d, .int .i64 e, .int .i64 f], .int .i64 s] w (RNumS (prodF prm (sgE s a b c d e f) 6) w) := by
  have HBD := Lib.hid (fun i (hi : i < 6) => sgE_bd2 hs hp hi)
  have HCap := Lib.hid (sg_cap2 hs hp)
  have HQ : Hid (∀ i, prodF prm (sgE s a b c d e f) (i + 1) = prodF prm (sgE s a b c d e f) i * pwF (prm i) (sgE s a b c d e f i)) := Lib.hid (fun i => rfl)
  have HPB := Lib.hid (fun i (hi : i < 6) => Nat.lt_of_le_of_lt (sg_le3 hs hp i hi) (by
    have h := Nat.lt_of_le_of_lt (Nat.le_refl (2 ^ prH i)) (lt_big (k := prH i) (Nat.le_refl _) (by rcases lt6 hi with rfl | rfl | rfl | rfl | rfl | rfl <;> decide))
    exact h))
  have HG : Hid (∀ i, sgE s a b c d e f i = s * pex a b c d e f i) := Lib.hid (fun _ => rfl)
  have HQ0 : Hid (prodF prm (sgE s a b c d e f) 0 = 1) := Lib.hid rfl
  have HMk : Hid (∀ w, Calls Tryd.prog 73 #[.int .u64 1] w (RNumP 1 w)) := Lib.hid (fun w => RNmake_c 1 w (by omega))
  generalize sgE s a b c d e f = g at *
  clear hs hp
  go_enter Tryd.func50, Tryd.ntmps50
  go_wp2_with (go_at_call 73; ((with_reducible refine (HMk.out _).mono ?_); rintro e w1 ⟨hb, b1, n1, c1, hk1, hc1, rfl, hN1, _, _⟩; obtain ⟨hz, hc, hf⟩ := bcl hb (by first | (simp; rfl) | rfl)))
  have HB : Hid (Blk w1 w.heap.size 22 #[.int .i64 a, .int .i64 b, .int .i64 c, .int .i64 d, .int .i64 e, .int .i64 f]) := Lib.hid ((Blk.new w _ _).below hb (by simp))
  have hbel : Below w.heap.size w w1 := by (repeat (first | (with_reducible exact bl_refl _) | (with_reducible refine bl_drew ?_) | (with_reducible refine bl_alloc ?_ _) | (with_reducible refine bl_set' ?_ ?_; · (first | omega | (simp; done) | (simp; omega))) | (with_reducible refine bl_last (by assumption) ?_) | (with_reducible refine bl_drewN ?_ _)))
  have hk1' : w.heap.size ≤ b1 := by have : w.heap.size + 1 ≤ b1 := by simpa using hk1
                                     omega
  have hn1 : n1 ≤ 640 := two_len hN1 (by omega)
  go_loopw [5, 6] (fun o i wr => ∃ j q n cc : Nat, j ≤ 6 ∧ i = .int .i64 (j : Int) ∧ o = .slice (some ⟨q, 0, none⟩) n cc ∧ Below w.heap.size w wr ∧ w.heap.size ≤ q ∧ Hid (Blk wr w.heap.size 22 #[.int .i64 a, .int .i64 b, .int .i64 c, .int .i64 d, .int .i64 e, .int .i64 f]) ∧ Hid (Num wr wr.heap.size q n (prodF prm g j)) ∧ n ≤ 640 ∧ n ≤ cc) (fun _ i _ => 6 - (intOf i).toNat)
  case atStart => exact ⟨0, b1, n1, c1, by omega, rfl, rfl, hbel, hk1', HB, Lib.hid (by rw [HQ0.out]; exact hN1), hn1, hc1⟩
  case round =>
    clear HB hbel hc hf hb
    obtain ⟨j, q, n, cc, hj, rfl, rfl, hbw, hwb, HB, HN, hn, hcc⟩ := hrel
    by_cases hlt : j < 6
    · have hv := vec_at HB.out hlt
      have HP := Lib.hid (fun w => RPrime_c j hlt w)
      obtain ⟨x1, x2, x3, x4⟩ := HBD.out j hlt
      obtain ⟨pp, pq⟩ := prm_pos hlt
      have hgj := HG.out j
      have hq := HQ.out j
      have hcp := HCap.out (j + 1) (by omega)
      have hpb := HPB.out j hlt
      have z1 : w.heap.size < wr.heap.size := HB.out.lt
      have e8 : IntKind.i64.wrap ((j : Int) + 1) = ((j + 1 : Nat) : Int) := by rw [IntKind.wrap_i64]; omega
      generalize pex a b c d e f j = x at *
      generalize prm j = P at *
      generalize g j = y at *
      have e9 : IntKind.i64.wrap (x * s) = y := by rw [Int.mul_comm, ← hgj, IntKind.wrap_i64]; omega
      have e10 : IntKind.u64.wrap (P : Int) = (P : Int) := by rw [IntKind.wrap_u64]; omega
      by_cases h0 : 0 < y
      · obtain ⟨E, rfl⟩ : ∃ E : Nat, y = (E : Int) := ⟨y.toNat, by omega⟩
        have hpw : pwF P (E : Int) = P ^ E := by rw [pwF_toNat, Int.toNat_natCast]
        rw [hpw] at hq hpb
        rw [hq] at hcp
        have HS := Lib.hid hq
        have HMP := Lib.hid (fun w => RNmake_c P w (by omega))
        have HPw := Lib.hid (fun b n c W (h : Num W W.heap.size b n P) => RPow_pos b n P c E W h (two_len h (by omega)) (by omega) (by omega) (by omega) hpb)
        have HCP := Lib.hid hcp
        clear hq hcp hpb hpw hgj
        go_wp2
        go_region_held3 (fun w' => w'.cell? ⟨w.heap.size, j, none⟩ = some (.int .i64 x))
          (first | go_keep | (go_simp; done))
          ((first | (go_at_call 51; ((with_reducible refine (HP.out _).mono ?_); rintro e w' ⟨rfl, rfl⟩)) | (go_at_call 73; ((with_reducible refine (HMP.out _).mono ?_); rintro e w2 ⟨hb2, b2, n2, c2, hk2, hc2', rfl, hN2, _, _⟩; obtain ⟨hz2, hc2, hf2⟩ := bcl hb2 (by first | (simp; rfl) | rfl))) | (go_at_call 74; ((with_reducible refine (HPw.out _ _ _ _ hN2).mono ?_); rintro e w3 ⟨hb3, b3, n3, c3, hk3, rfl, hN3, h63, h73⟩; obtain ⟨hz3, hc3, hf3⟩ := bcl hb3 (by first | (simp; rfl) | rfl)))))
        go_wp2_with ((go_at_call 75; ((with_reducible refine (RNmul_c _ _ _ _ _ _ _ _ _ (HN.out.up (by (repeat (first | (with_reducible exact bl_refl _) | (with_reducible refine bl_drew ?_) | (with_reducible refine bl_alloc ?_ _) | (with_reducible refine bl_set' ?_ ?_; · (first | omega | (simp; done) | (simp; omega))) | (with_reducible refine bl_last (by assumption) ?_) | (with_reducible refine bl_drewN ?_ _))))) hN3 hn h63 HCP.out).mono ?_); rintro e w4 ⟨hb4, b4, n4, c4, hk4, rfl, hN4, h64, h74⟩; obtain ⟨hz4, hc4, hf4⟩ := bcl hb4 (by first | (simp; rfl) | rfl))))
        go_roundw
        case rel =>
          have hbb : Below wr.heap.size wr w4 := by (repeat (first | (with_reducible exact bl_refl _) | (with_reducible refine bl_drew ?_) | (with_reducible refine bl_alloc ?_ _) | (with_reducible refine bl_set' ?_ ?_; · (first | omega | (simp; done) | (simp; omega))) | (with_reducible refine bl_last (by assumption) ?_) | (with_reducible refine bl_drewN ?_ _)))
          exact ⟨j + 1, b4, n4, c4, by omega, by go_num, rfl, bl_trans hbw hbb, by have := hbw.size; omega, Lib.hid (HB.out.below hbb z1), Lib.hid (by rw [HS.out]; exact hN4), h64, h74⟩
        case measure => simp [intOf]; omega
      · have hpw : pwF P y = 1 := by rw [pwF, if_neg h0]
        rw [hpw, Nat.mul_one] at hq
        have HS := Lib.hid hq
        clear hq hpw hcp hpb hgj
        go_wp2
        go_roundw
        case rel => exact ⟨j + 1, q, n, cc, by omega, by go_num, rfl, hbw, hwb, HB, Lib.hid (by rw [HS.out]; exact HN.out), hn, hcc⟩
        case measure => simp [intOf]; omega
    · obtain rfl : j = 6 := by omega
      go_wp2
      go_ret
      exact ⟨hbw, q, n, cc, hwb, rfl, HN.out, hn, hcc⟩

set_option maxRecDepth 100000 in
set_option maxHeartbeats 8000000 in
theorem RCmp3_c (a b c d e f x y z s t u : Int) (w : World) : Calls Tryd.prog 28 #[.agg #[.int .i64 a, .int .i64 b, .int .i64 c, .int .i64 d, .int .i64 e, .int .i64 f], .agg #[.int .i64 x, .int .i64 y, .int .i64 z, .int .i64 s, .int .i64 t, .int .i64 u]] w (Ret (pcV a b c d e f x y z s t u) w) := by
  have hA := fun w => RPVld_c a b c d e f w
  have hB := fun w => RPVld_c x y z s t u w
  unfold pcV pcN pcE cbG cmP
  cases ha : pV a b c d e f 576
  · rw [ha] at hA
    have HA := Lib.hid hA
    have HB := Lib.hid hB
    clear ha hA hB
    generalize pV x y z s t u 576 = g at *
    simp only [Bool.false_and, Bool.false_eq_true, if_false]
    go_enter Tryd.func28, Tryd.ntmps28
    go_wp2_with (first | (go_at_call 11; ((with_reducible refine (HA.out _).mono ?_); rintro e w' ⟨rfl, hb⟩; obtain ⟨hz, hc, hf⟩ := bcl hb (by first | (simp; rfl) | rfl))) | (go_at_call 11; ((with_reducible refine (HB.out _).mono ?_); rintro e w' ⟨rfl, hb⟩; obtain ⟨hz, hc, hf⟩ := bcl hb (by first | (simp; rfl) | rfl))))
    go_ret2
    exact ⟨rfl, by (repeat (first | (with_reducible exact bl_refl _) | (with_reducible refine bl_drew ?_) | (with_reducible refine bl_alloc ?_ _) | (with_reducible refine bl_set' ?_ ?_; · (first | omega | (simp; done) | (simp; omega))) | (with_reducible refine bl_last (by assumption) ?_) | (with_reducible refine bl_drewN ?_ _)))⟩
  · rw [ha] at hA
    have HA := Lib.hid hA
    cases hb : pV x y z s t u 576
    · rw [hb] at hB
      have HB := Lib.hid hB
      clear ha hA hB hb
      simp only [Bool.true_and, Bool.false_eq_true, if_false]
      go_enter Tryd.func28, Tryd.ntmps28
      go_wp2_with (first | (go_at_call 11; ((with_reducible refine (HA.out _).mono ?_); rintro e w' ⟨rfl, hb⟩; obtain ⟨hz, hc, hf⟩ := bcl hb (by first | (simp; rfl) | rfl))) | (go_at_call 11; ((with_reducible refine (HB.out _).mono ?_); rintro e w' ⟨rfl, hb⟩; obtain ⟨hz, hc, hf⟩ := bcl hb (by first | (simp; rfl) | rfl))))
      go_ret2
      exact ⟨rfl, by (repeat (first | (with_reducible exact bl_refl _) | (with_reducible refine bl_drew ?_) | (with_reducible refine bl_alloc ?_ _) | (with_reducible refine bl_set' ?_ ?_; · (first | omega | (simp; done) | (simp; omega))) | (with_reducible refine bl_last (by assumption) ?_) | (with_reducible refine bl_drewN ?_ _)))⟩
    · rw [hb] at hB
      have HB := Lib.hid hB
      simp only [Bool.true_and, if_true]
      obtain ⟨h1, h2, h3, h4, h5, h6⟩ := pV_of ha
      have h1 := wi_of h1; have h2 := wi_of h2; have h3 := wi_of h3; have h4 := wi_of h4; have h5 := wi_of h5; have h6 := wi_of h6
      obtain ⟨k1, k2, k3, k4, k5, k6⟩ := pV_of hb
      have k1 := wi_of k1; have k2 := wi_of k2; have k3 := wi_of k3; have k4 := wi_of k4; have k5 := wi_of k5; have k6 := wi_of k6
      have hp : pV (a - x) (b - y) (c - z) (d - s) (e - t) (f - u) 1152 = true := by
        have W : ∀ x : Int, -1152 ≤ x → x ≤ 1152 → wi x 1152 = true := fun x h h' => by
          unfold wi
          rw [decide_eq_true h, decide_eq_true h']
          rfl
        exact pV_mk (W _ (by omega) (by omega)) (W _ (by omega) (by omega)) (W _ (by omega) (by omega)) (W _ (by omega) (by omega)) (W _ (by omega) (by omega)) (W _ (by omega) (by omega))
      have q1 : IntKind.i64.wrap (a - x) = a - x := by rw [IntKind.wrap_i64]; omega
      have q2 : IntKind.i64.wrap (b - y) = b - y := by rw [IntKind.wrap_i64]; omega
      have q3 : IntKind.i64.wrap (c - z) = c - z := by rw [IntKind.wrap_i64]; omega
      have q4 : IntKind.i64.wrap (d - s) = d - s := by rw [IntKind.wrap_i64]; omega
      have q5 : IntKind.i64.wrap (e - t) = e - t := by rw [IntKind.wrap_i64]; omega
      have q6 : IntKind.i64.wrap (f - u) = f - u := by rw [IntKind.wrap_i64]; omega
      clear h1 h2 h3 h4 h5 h6 k1 k2 k3 k4 k5 k6 ha hb hA hB
      have HU := Lib.hid (fun w => Rprod3_c 1 (a - x) (b - y) (c - z) (d - s) (e - t) (f - u) w (Or.inl rfl) hp)
      have HD := Lib.hid (fun w => Rprod3_c (-1) (a - x) (b - y) (c - z) (d - s) (e - t) (f - u) w (Or.inr rfl) hp)
      unfold upN dnN
      generalize prodF prm (sgE 1 (a - x) (b - y) (c - z) (d - s) (e - t) (f - u)) 6 = U at *
      generalize prodF prm (sgE (-1) (a - x) (b - y) (c - z) (d - s) (e - t) (f - u)) 6 = V at *
      clear hp
      go_enter Tryd.func28, Tryd.ntmps28
      go_wp2_with fail
      ((with_reducible refine (HA.out _).mono ?_); rintro en v1 ⟨rfl, d1⟩)
      obtain ⟨hz1, hc1, hf1⟩ := bcl d1 (by first | (simp; rfl) | rfl)
      go_wp2_with fail
      ((with_reducible refine (HB.out _).mono ?_); rintro en v2 ⟨rfl, d2⟩)
      obtain ⟨hz2, hc2, hf2⟩ := bcl d2 (by first | (simp; rfl) | rfl)
      have zz : w.heap.size + 1 + 1 ≤ v2.heap.size := by omega
      have z1 : w.heap.size < v2.heap.size := by omega
      have z2 : w.heap.size + 1 < v2.heap.size := by omega
      go_wp2_with fail
      refine wp_loop_rounds 7 ?_
      iterate 6
        rw [rounds_succ]
        go_wp2
        (refine wp_region_bl [0,1,2,3,4,5,6,7] [8,9] (by kernel_rfl) (by kernel_rfl) (by rfl) ?_
         simp only [pickI, pick, List.getElem?_cons_succ, List.getElem?_cons_zero]
         iterate 8 (first
           | (refine head_val (by rfl) (by rfl) ?_
              apply Exists.intro
              refine ⟨fun X hX => ?_, ?_⟩
              · (obtain ⟨qz, qc, qf⟩ := bcl hX.out (by first | (simp; rfl) | rfl)
                 go_simp
                 first | done | rfl | exact ⟨rfl, rfl⟩)
              simp only [Act.put, List.setIfInBounds_toArray, List.set_cons_zero, List.set_cons_succ])
           | (refine head_pass (by rfl) ?_
              simp only [Act.put, List.setIfInBounds_toArray, List.set_cons_zero, List.set_cons_succ]))
         refine head_nil ?_
         intro w' hw'
         have hb := hw'.out
         clear hw'
         obtain ⟨hz, hc, hf⟩ := bcl hb (by first | (simp; rfl) | rfl))
        have zq : v2.heap.size < w'.heap.size := by omega
        go_wp2
      rw [rounds_succ]
      go_wp2
      refine wp_named ?_
      intro W3 hW3
      clear h1 h2 h3 h4 h5 h6 k1 k2 k3 k4 k5 k6 q1 q2 q3 q4 q5 q6
      have k3 : Below w.heap.size w W3 := by
        rw [hW3]
        repeat (first | (with_reducible exact bl_refl _) | (with_reducible refine bl_alloc ?_ _) | (with_reducible refine bl_set' ?_ ?_; · (dsimp only; omega)) | (with_reducible refine bl_last (by assumption) ?_))
      have hD : Blk W3 v2.heap.size 22 #[.int .i64 (a - x), .int .i64 (b - y), .int .i64 (c - z), .int .i64 (d - s), .int .i64 (e - t), .int .i64 (f - u)] := by
        rw [hW3]
        repeat (first | (with_reducible apply Blk.new) | (with_reducible apply blk_s) | (with_reducible apply blk_up (hb := by assumption)))
        all_goals rfl
      clear hW3
      have zD := hD.lt
      have t0 := hD.cell 0
      have t1 := hD.cell 1
      have t2 := hD.cell 2
      have t3 := hD.cell 3
      have t4 := hD.cell 4
      have t5 := hD.cell 5
      simp only [List.getElem?_toArray, List.getElem?_cons_zero, List.getElem?_cons_succ] at t0 t1 t2 t3 t4 t5
      go_region_held3 (fun W => W.cell? ⟨v2.heap.size, 0, none⟩ = some (.int .i64 (a - x)) ∧ W.cell? ⟨v2.heap.size, 1, none⟩ = some (.int .i64 (b - y)) ∧ W.cell? ⟨v2.heap.size, 2, none⟩ = some (.int .i64 (c - z)) ∧ W.cell? ⟨v2.heap.size, 3, none⟩ = some (.int .i64 (d - s)) ∧ W.cell? ⟨v2.heap.size, 4, none⟩ = some (.int .i64 (e - t)) ∧ W.cell? ⟨v2.heap.size, 5, none⟩ = some (.int .i64 (f - u)))
        (first | go_keep | (refine ⟨?_, ?_, ?_, ?_, ?_, ?_⟩ <;> (go_simp; done)))
        ((first | (go_at_call 50; ((with_reducible refine (HU.out _).mono ?_); rintro en w2 ⟨hb2, b2, n2, c2, hk2, rfl, hN2, h62, h72⟩; obtain ⟨hz2, hc2, hf2⟩ := bcl hb2 (by first | (simp; rfl) | rfl))) | (go_at_call 50; ((with_reducible refine (HD.out _).mono ?_); rintro en w3 ⟨hb3, b3, n3, c3, hk3, rfl, hN3, h63, h73⟩; obtain ⟨hz3, hc3, hf3⟩ := bcl hb3 (by first | (simp; rfl) | rfl))) | (go_at_call 49; ((with_reducible refine (RNcmp_c _ _ _ _ U V _ _ _ (hN2.up (by (repeat (first | (with_reducible exact bl_refl _) | (with_reducible refine bl_drew ?_) | (with_reducible refine bl_alloc ?_ _) | (with_reducible refine bl_set' ?_ ?_; · (first | omega | (simp; done) | (simp; omega))) | (with_reducible refine bl_last (by assumption) ?_) | (with_reducible refine bl_drewN ?_ _))))) hN3 h62 h63).mono ?_); rintro en w4 ⟨rfl, hb4⟩; obtain ⟨hz4, hc4, hf4⟩ := bcl hb4 (by first | (simp; rfl) | rfl))) | (go_at_call 49; ((with_reducible refine (RNcmp_c _ _ _ _ U V _ _ _ hN2 (hN3.up (by (repeat (first | (with_reducible exact bl_refl _) | (with_reducible refine bl_drew ?_) | (with_reducible refine bl_alloc ?_ _) | (with_reducible refine bl_set' ?_ ?_; · (first | omega | (simp; done) | (simp; omega))) | (with_reducible refine bl_last (by assumption) ?_) | (with_reducible refine bl_drewN ?_ _))))) h62 h63).mono ?_); rintro en w4 ⟨rfl, hb4⟩; obtain ⟨hz4, hc4, hf4⟩ := bcl hb4 (by first | (simp; rfl) | rfl)))))
      all_goals
        go_wp2
        go_ret2
        exact ⟨rfl, bl_trans k3 (by (repeat (first | (with_reducible exact bl_refl _) | (with_reducible refine bl_drew ?_) | (with_reducible refine bl_alloc ?_ _) | (with_reducible refine bl_set' ?_ ?_; · (first | omega | (simp; done) | (simp; omega))) | (with_reducible refine bl_last (by assumption) ?_) | (with_reducible refine bl_drewN ?_ _))))⟩

end Go.Proofs.YtgbiiaaeabflnaaDoor
