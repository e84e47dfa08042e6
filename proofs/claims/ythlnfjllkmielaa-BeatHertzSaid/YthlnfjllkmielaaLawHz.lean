/- Pitch: the reference's Of, product and Cmp. Pitch: the reference's Cmp. BeatHertz: the plain law. BeatHertz: the plain law, second part. BeatHertz: the walk. -/
import Derived.Test.YthlnfjllkmielaaBeatAD
import Derived.Test.YthlnfjllkmielaaBlks
import Derived.Test.YthlnfjllkmielaaBeatAF
import Derived.Test.YthlnfjllkmielaaLawBnd
import Derived.Test.YthlnfjllkmielaaBeatW
import Derived.Test.YthlnfjllkmielaaBeatX
import Derived.Deep.Cut
namespace Go.Proofs.Ythlnfjllkmielaa
open Go.RowKit

set_option maxHeartbeats 1000000 in
theorem RNcmp_c (ba bb n m x y ca cb : Nat) (w : World) (ha : Num w w.heap.size ba n x) (hb : Num w w.heap.size bb m y) (hn : n ≤ 640) (hm : m ≤ 640) :
    Calls Try.prog 66 #[.slice (some ⟨ba, 0, none⟩) n ca, .slice (some ⟨bb, 0, none⟩) m cb] w (Ret (.tuple #[.int .i64 (ordZ (x : Int) (y : Int)), .int .i64 0]) w) := by
  have HB := Lib.hid (RNboth_c ba n x ca bb m y cb w ha hn hb hm)
  have HO := Lib.hid (ROrder_c ba bb n m x y ca cb w ha hb (by omega) (by omega))
  generalize ordZ (x : Int) (y : Int) = O at *
  clear ha hb
  go_enter Try.func66, Try.ntmps66
  go_wp2_with (first | (go_at_call 81; ((with_reducible refine (HB.out).mono ?_); rintro e w' ⟨rfl, rfl⟩)) | (go_at_call 61; ((with_reducible refine (HO.out).mono ?_); rintro e w' ⟨rfl, hb⟩; obtain ⟨hz, hc, hf⟩ := bcl hb (by first | (simp; rfl) | rfl))))
  go_ret2
  exact ⟨rfl, by (repeat (first | (with_reducible exact bl_refl _) | (with_reducible refine bl_drew ?_) | (with_reducible refine bl_alloc ?_ _) | (with_reducible refine bl_set' ?_ ?_; · (first | omega | (simp; done) | (simp; omega))) | (with_reducible refine bl_last (by assumption) ?_) | (with_reducible refine bl_drewN ?_ _)))⟩

/-- An interval as a pitch. -/
def ofV (a b c d e f : Int) : Value := if pV a b c d e f 48 then .tuple #[.agg #[.int .i64 (a * 12), .int .i64 (b * 12), .int .i64 (c * 12), .int .i64 (d * 12), .int .i64 (e * 12), .int .i64 (f * 12)], .int .i64 0] else .tuple #[.agg #[.int .i64 0, .int .i64 0, .int .i64 0, .int .i64 0, .int .i64 0, .int .i64 0], .int .i64 1]
set_option maxRecDepth 100000 in
set_option maxHeartbeats 4000000 in
theorem ROf_c (a b c d e f : Int) (w : World) : Calls Try.prog 33 #[.agg #[.int .i64 a, .int .i64 b, .int .i64 c, .int .i64 d, .int .i64 e, .int .i64 f]] w (Ret (ofV a b c d e f) w) := by
  have hI := fun w => RPInt_c a b c d e f w
  unfold ofV
  cases hp : pV a b c d e f 48
  · rw [hp] at hI
    have HI := Lib.hid hI
    clear hp hI
    rw [if_neg (by decide)]
    go_enter Try.func33, Try.ntmps33
    go_wp2_with (go_at_call 44; ((with_reducible refine (HI.out _).mono ?_); rintro e w' ⟨rfl, hb⟩; obtain ⟨hz, hc, hf⟩ := bcl hb (by first | (simp; rfl) | rfl)))
    (refine bodyPost_ret (v := .tuple #[.agg #[.int .i64 0, .int .i64 0, .int .i64 0, .int .i64 0, .int .i64 0, .int .i64 0], .int .i64 1]) (by simp only [results, Try.results33]; go_simp) rfl ⟨rfl, ?_⟩)
    (repeat (first | (with_reducible exact bl_refl _) | (with_reducible refine bl_drew ?_) | (with_reducible refine bl_alloc ?_ _) | (with_reducible refine bl_set' ?_ ?_; · (first | omega | (simp; done) | (simp; omega))) | (with_reducible refine bl_last (by assumption) ?_) | (with_reducible refine bl_drewN ?_ _)))
  · rw [hp] at hI
    have HI := Lib.hid hI
    rw [if_pos rfl]
    obtain ⟨h1, h2, h3, h4, h5, h6⟩ := pV_of hp
    have h1 := wi_of h1; have h2 := wi_of h2; have h3 := wi_of h3; have h4 := wi_of h4; have h5 := wi_of h5; have h6 := wi_of h6
    clear hp hI
    have q1 : IntKind.i64.wrap (a * 12) = a * 12 := by rw [IntKind.wrap_i64]; omega
    have q2 : IntKind.i64.wrap (b * 12) = b * 12 := by rw [IntKind.wrap_i64]; omega
    have q3 : IntKind.i64.wrap (c * 12) = c * 12 := by rw [IntKind.wrap_i64]; omega
    have q4 : IntKind.i64.wrap (d * 12) = d * 12 := by rw [IntKind.wrap_i64]; omega
    have q5 : IntKind.i64.wrap (e * 12) = e * 12 := by rw [IntKind.wrap_i64]; omega
    have q6 : IntKind.i64.wrap (f * 12) = f * 12 := by rw [IntKind.wrap_i64]; omega
    clear h1 h2 h3 h4 h5 h6
    go_enter Try.func33, Try.ntmps33
    go_wp2_with (go_at_call 44; ((with_reducible refine (HI.out _).mono ?_); rintro e w' ⟨rfl, hb⟩; obtain ⟨hz, hc, hf⟩ := bcl hb (by first | (simp; rfl) | rfl)))
    refine wp_loop_rounds 7 ?_
    iterate 7 (rw [rounds_succ]; go_wp2)
    (refine bodyPost_ret (v := .tuple #[.agg #[.int .i64 (a * 12), .int .i64 (b * 12), .int .i64 (c * 12), .int .i64 (d * 12), .int .i64 (e * 12), .int .i64 (f * 12)], .int .i64 0]) (by simp only [results, Try.results33]; go_simp) rfl ⟨rfl, ?_⟩)
    (repeat (first | (with_reducible exact bl_refl _) | (with_reducible refine bl_drew ?_) | (with_reducible refine bl_alloc ?_ _) | (with_reducible refine bl_set' ?_ ?_; · (first | omega | (simp; done) | (simp; omega))) | (with_reducible refine bl_last (by assumption) ?_) | (with_reducible refine bl_drewN ?_ _)))

def prH (i : Nat) : Nat := [1 * 1152, 2 * 1152, 3 * 1152, 3 * 1152, 4 * 1152, 4 * 1152].getD i 0
theorem sgE_bd2 {s a b c d e f : Int} (hs : s = 1 ∨ s = -1) (hp : pV a b c d e f 1152 = true) {i : Nat} (h : i < 6) : -1152 ≤ sgE s a b c d e f i ∧ sgE s a b c d e f i ≤ 1152 ∧ -1152 ≤ pex a b c d e f i ∧ pex a b c d e f i ≤ 1152 := by
  obtain ⟨h1, h2, h3, h4, h5, h6⟩ := pV_of hp
  have hx : -1152 ≤ pex a b c d e f i ∧ pex a b c d e f i ≤ 1152 := by
    rcases lt6 h with rfl | rfl | rfl | rfl | rfl | rfl
    · exact wi_of h1
    · exact wi_of h2
    · exact wi_of h3
    · exact wi_of h4
    · exact wi_of h5
    · exact wi_of h6
  unfold sgE
  rcases hs with rfl | rfl <;> omega
theorem sg_le3 {s a b c d e f : Int} (hs : s = 1 ∨ s = -1) (hp : pV a b c d e f 1152 = true) : ∀ i, i < 6 → pwF (prm i) (sgE s a b c d e f i) ≤ 2 ^ prH i := by
  intro i hi
  obtain ⟨_, hb, _⟩ := sgE_bd2 hs hp hi
  generalize sgE s a b c d e f i = g at *
  rcases lt6 hi with rfl | rfl | rfl | rfl | rfl | rfl
  · exact pwF_le2 (k := prH 0) (b := 2) (c := 1) (E := 1152) (by decide) (by omega) rfl
  · exact pwF_le2 (k := prH 1) (b := 3) (c := 2) (E := 1152) (by decide) (by omega) rfl
  · exact pwF_le2 (k := prH 2) (b := 5) (c := 3) (E := 1152) (by decide) (by omega) rfl
  · exact pwF_le2 (k := prH 3) (b := 7) (c := 3) (E := 1152) (by decide) (by omega) rfl
  · exact pwF_le2 (k := prH 4) (b := 11) (c := 4) (E := 1152) (by decide) (by omega) rfl
  · exact pwF_le2 (k := prH 5) (b := 13) (c := 4) (E := 1152) (by decide) (by omega) rfl
theorem sg_cap2 {s a b c d e f : Int} (hs : s = 1 ∨ s = -1) (hp : pV a b c d e f 1152 = true) : ∀ i, i ≤ 6 → prodF prm (sgE s a b c d e f) i < Cap := fun i hi => by
  have h1 := prodF_mono (fb := prm) (fe := sgE s a b c d e f) (k := 6) (fun j hj => by have := prm_pos hj; omega) i hi
  have h2 := prodF_le (sg_le3 hs hp) 6 (Nat.le_refl _)
  rw [show sumF prH 6 = 19584 from rfl] at h2
  exact lt_big (k := 19584) (Nat.le_trans h1 h2) (by omega)

set_option maxRecDepth 100000 in
set_option maxHeartbeats 4000000 in
theorem Rprod3_c (s a b c d e f : Int) (w : World) (hs : s = 1 ∨ s = -1) (hp : pV a b c d e f 1152 = true) : Calls Try.prog 67 #[.agg #[.int .i64 a, .int .i64 b, .int .i64 c, .int .i64 d, .int .i64 e, .int .i64 f], .int .i64 s] w (RNumS (prodF prm (sgE s a b c d e f) 6) w) := by
  have HBD := Lib.hid (fun i (hi : i < 6) => sgE_bd2 hs hp hi)
  have HCap := Lib.hid (sg_cap2 hs hp)
  have HQ : Hid (∀ i, prodF prm (sgE s a b c d e f) (i + 1) = prodF prm (sgE s a b c d e f) i * pwF (prm i) (sgE s a b c d e f i)) := Lib.hid (fun i => rfl)
  have HPB := Lib.hid (fun i (hi : i < 6) => Nat.lt_of_le_of_lt (sg_le3 hs hp i hi) (by
    have h := Nat.lt_of_le_of_lt (Nat.le_refl (2 ^ prH i)) (lt_big (k := prH i) (Nat.le_refl _) (by rcases lt6 hi with rfl | rfl | rfl | rfl | rfl | rfl <;> decide))
    exact h))
  have HG : Hid (∀ i, sgE s a b c d e f i = s * pex a b c d e f i) := Lib.hid (fun _ => rfl)
  have HQ0 : Hid (prodF prm (sgE s a b c d e f) 0 = 1) := Lib.hid rfl
  have HMk : Hid (∀ w, Calls Try.prog 85 #[.int .u64 1] w (RNumP 1 w)) := Lib.hid (fun w => RNmake_c 1 w (by omega))
  generalize sgE s a b c d e f = g at *
  clear hs hp
  go_enter Try.func67, Try.ntmps67
  go_wp2_with (go_at_call 85; ((with_reducible refine (HMk.out _).mono ?_); rintro e w1 ⟨hb, b1, n1, c1, hk1, hc1, rfl, hN1, _, _⟩; obtain ⟨hz, hc, hf⟩ := bcl hb (by first | (simp; rfl) | rfl)))
  have HB : Hid (Blk w1 w.heap.size 24 #[.int .i64 a, .int .i64 b, .int .i64 c, .int .i64 d, .int .i64 e, .int .i64 f]) := Lib.hid ((Blk.new w _ _).below hb (by simp))
  have hbel : Below w.heap.size w w1 := by (repeat (first | (with_reducible exact bl_refl _) | (with_reducible refine bl_drew ?_) | (with_reducible refine bl_alloc ?_ _) | (with_reducible refine bl_set' ?_ ?_; · (first | omega | (simp; done) | (simp; omega))) | (with_reducible refine bl_last (by assumption) ?_) | (with_reducible refine bl_drewN ?_ _)))
  have hk1' : w.heap.size ≤ b1 := by have : w.heap.size + 1 ≤ b1 := by simpa using hk1
                                     omega
  have hn1 : n1 ≤ 640 := two_len hN1 (by omega)
  go_loopw [5, 6] (fun o i wr => ∃ j q n cc : Nat, j ≤ 6 ∧ i = .int .i64 (j : Int) ∧ o = .slice (some ⟨q, 0, none⟩) n cc ∧ Below w.heap.size w wr ∧ w.heap.size ≤ q ∧ Hid (Blk wr w.heap.size 24 #[.int .i64 a, .int .i64 b, .int .i64 c, .int .i64 d, .int .i64 e, .int .i64 f]) ∧ Hid (Num wr wr.heap.size q n (prodF prm g j)) ∧ n ≤ 640 ∧ n ≤ cc) (fun _ i _ => 6 - (intOf i).toNat)
  case atStart => exact ⟨0, b1, n1, c1, by omega, rfl, rfl, hbel, hk1', HB, Lib.hid (by rw [HQ0.out]; exact hN1), hn1, hc1⟩
  case round =>
    clear HB hbel hc hf hb
    obtain ⟨j, q, n, cc, hj, rfl, rfl, hbw, hwb, HB, HN, hn, hcc⟩ := hrel
    by_cases hlt : j < 6
    · have hv := vec_at HB.out hlt
      have HP := Lib.hid (fun w => RPrime_c j hlt w)
      obtain ⟨x1, x2, x3, x4⟩ := HBD.out j hlt
      obtain ⟨pp, pq⟩ := prm_pos hlt
      have hgj := HG.out j
      have hq := HQ.out j
      have hcp := HCap.out (j + 1) (by omega)
      have hpb := HPB.out j hlt
      have z1 : w.heap.size < wr.heap.size := HB.out.lt
      have e8 : IntKind.i64.wrap ((j : Int) + 1) = ((j + 1 : Nat) : Int) := by rw [IntKind.wrap_i64]; omega
      generalize pex a b c d e f j = x at *
      generalize prm j = P at *
      generalize g j = y at *
      have e9 : IntKind.i64.wrap (x * s) = y := by rw [Int.mul_comm, ← hgj, IntKind.wrap_i64]; omega
      have e10 : IntKind.u64.wrap (P : Int) = (P : Int) := by rw [IntKind.wrap_u64]; omega
      by_cases h0 : 0 < y
      · obtain ⟨E, rfl⟩ : ∃ E : Nat, y = (E : Int) := ⟨y.toNat, by omega⟩
        have hpw : pwF P (E : Int) = P ^ E := by rw [pwF_toNat, Int.toNat_natCast]
        rw [hpw] at hq hpb
        rw [hq] at hcp
        have HS := Lib.hid hq
        have HMP := Lib.hid (fun w => RNmake_c P w (by omega))
        have HPw := Lib.hid (fun b n c W (h : Num W W.heap.size b n P) => RPow_pos b n P c E W h (two_len h (by omega)) (by omega) (by omega) (by omega) hpb)
        have HCP := Lib.hid hcp
        clear hq hcp hpb hpw hgj
        go_wp2
        go_region_held3 (fun w' => w'.cell? ⟨w.heap.size, j, none⟩ = some (.int .i64 x))
          (first | go_keep | (go_simp; done))
          ((first | (go_at_call 45; ((with_reducible refine (HP.out _).mono ?_); rintro e w' ⟨rfl, rfl⟩)) | (go_at_call 85; ((with_reducible refine (HMP.out _).mono ?_); rintro e w2 ⟨hb2, b2, n2, c2, hk2, hc2', rfl, hN2, _, _⟩; obtain ⟨hz2, hc2, hf2⟩ := bcl hb2 (by first | (simp; rfl) | rfl))) | (go_at_call 84; ((with_reducible refine (HPw.out _ _ _ _ hN2).mono ?_); rintro e w3 ⟨hb3, b3, n3, c3, hk3, rfl, hN3, h63, h73⟩; obtain ⟨hz3, hc3, hf3⟩ := bcl hb3 (by first | (simp; rfl) | rfl)))))
        go_wp2_with ((go_at_call 58; ((with_reducible refine (RNmul_c _ _ _ _ _ _ _ _ _ (HN.out.up (by (repeat (first | (with_reducible exact bl_refl _) | (with_reducible refine bl_drew ?_) | (with_reducible refine bl_alloc ?_ _) | (with_reducible refine bl_set' ?_ ?_; · (first | omega | (simp; done) | (simp; omega))) | (with_reducible refine bl_last (by assumption) ?_) | (with_reducible refine bl_drewN ?_ _))))) hN3 hn h63 HCP.out).mono ?_); rintro e w4 ⟨hb4, b4, n4, c4, hk4, rfl, hN4, h64, h74⟩; obtain ⟨hz4, hc4, hf4⟩ := bcl hb4 (by first | (simp; rfl) | rfl))))
        go_roundw
        case rel =>
          have hbb : Below wr.heap.size wr w4 := by (repeat (first | (with_reducible exact bl_refl _) | (with_reducible refine bl_drew ?_) | (with_reducible refine bl_alloc ?_ _) | (with_reducible refine bl_set' ?_ ?_; · (first | omega | (simp; done) | (simp; omega))) | (with_reducible refine bl_last (by assumption) ?_) | (with_reducible refine bl_drewN ?_ _)))
          exact ⟨j + 1, b4, n4, c4, by omega, by go_num, rfl, bl_trans hbw hbb, by have := hbw.size; omega, Lib.hid (HB.out.below hbb z1), Lib.hid (by rw [HS.out]; exact hN4), h64, h74⟩
        case measure => simp [intOf]; omega
      · have hpw : pwF P y = 1 := by rw [pwF, if_neg h0]
        rw [hpw, Nat.mul_one] at hq
        have HS := Lib.hid hq
        clear hq hpw hcp hpb hgj
        go_wp2
        go_roundw
        case rel => exact ⟨j + 1, q, n, cc, by omega, by go_num, rfl, hbw, hwb, HB, Lib.hid (by rw [HS.out]; exact HN.out), hn, hcc⟩
        case measure => simp [intOf]; omega
    · obtain rfl : j = 6 := by omega
      go_wp2
      go_ret
      exact ⟨hbw, q, n, cc, hwb, rfl, HN.out, hn, hcc⟩
end Go.Proofs.Ythlnfjllkmielaa
namespace Go.Proofs.Ythlnfjllkmielaa
open Go.RowKit

def upN (a b c d e f : Int) : Nat := prodF prm (sgE 1 a b c d e f) 6
def dnN (a b c d e f : Int) : Nat := prodF prm (sgE (-1) a b c d e f) 6
def cmG (a b c d e f x y z s t u : Int) : Bool := pV a b c d e f 576 && pV x y z s t u 576
def cm3 (a b c d e f x y z s t u : Int) : Int := if cmG a b c d e f x y z s t u then ordZ ((upN (a - x) (b - y) (c - z) (d - s) (e - t) (f - u) : Nat) : Int) ((dnN (a - x) (b - y) (c - z) (d - s) (e - t) (f - u) : Nat) : Int) else 0
def cmE (a b c d e f x y z s t u : Int) : Int := if cmG a b c d e f x y z s t u then 0 else 1
def cmV (a b c d e f x y z s t u : Int) : Value := .tuple #[.int .i64 (cm3 a b c d e f x y z s t u), .int .i64 (cmE a b c d e f x y z s t u)]
set_option maxRecDepth 100000 in
set_option maxHeartbeats 8000000 in
theorem RCmp3_c (a b c d e f x y z s t u : Int) (w : World) : Calls Try.prog 34 #[.agg #[.int .i64 a, .int .i64 b, .int .i64 c, .int .i64 d, .int .i64 e, .int .i64 f], .agg #[.int .i64 x, .int .i64 y, .int .i64 z, .int .i64 s, .int .i64 t, .int .i64 u]] w (Ret (cmV a b c d e f x y z s t u) w) := by
  have hA := fun w => RPVld_c a b c d e f w
  have hB := fun w => RPVld_c x y z s t u w
  unfold cmV cm3 cmE cmG
  cases ha : pV a b c d e f 576
  · rw [ha] at hA
    have HA := Lib.hid hA
    have HB := Lib.hid hB
    clear ha hA hB
    generalize pV x y z s t u 576 = g at *
    simp only [Bool.false_and, Bool.false_eq_true, if_false]
    go_enter Try.func34, Try.ntmps34
    go_wp2_with (first | (go_at_call 57; ((with_reducible refine (HA.out _).mono ?_); rintro e w' ⟨rfl, hb⟩; obtain ⟨hz, hc, hf⟩ := bcl hb (by first | (simp; rfl) | rfl))) | (go_at_call 57; ((with_reducible refine (HB.out _).mono ?_); rintro e w' ⟨rfl, hb⟩; obtain ⟨hz, hc, hf⟩ := bcl hb (by first | (simp; rfl) | rfl))))
    go_ret2
    exact ⟨rfl, by (repeat (first | (with_reducible exact bl_refl _) | (with_reducible refine bl_drew ?_) | (with_reducible refine bl_alloc ?_ _) | (with_reducible refine bl_set' ?_ ?_; · (first | omega | (simp; done) | (simp; omega))) | (with_reducible refine bl_last (by assumption) ?_) | (with_reducible refine bl_drewN ?_ _)))⟩
  · rw [ha] at hA
    have HA := Lib.hid hA
    cases hb : pV x y z s t u 576
    · rw [hb] at hB
      have HB := Lib.hid hB
      clear ha hA hB hb
      simp only [Bool.true_and, Bool.false_eq_true, if_false]
      go_enter Try.func34, Try.ntmps34
      go_wp2_with (first | (go_at_call 57; ((with_reducible refine (HA.out _).mono ?_); rintro e w' ⟨rfl, hb⟩; obtain ⟨hz, hc, hf⟩ := bcl hb (by first | (simp; rfl) | rfl))) | (go_at_call 57; ((with_reducible refine (HB.out _).mono ?_); rintro e w' ⟨rfl, hb⟩; obtain ⟨hz, hc, hf⟩ := bcl hb (by first | (simp; rfl) | rfl))))
      go_ret2
      exact ⟨rfl, by (repeat (first | (with_reducible exact bl_refl _) | (with_reducible refine bl_drew ?_) | (with_reducible refine bl_alloc ?_ _) | (with_reducible refine bl_set' ?_ ?_; · (first | omega | (simp; done) | (simp; omega))) | (with_reducible refine bl_last (by assumption) ?_) | (with_reducible refine bl_drewN ?_ _)))⟩
    · rw [hb] at hB
      have HB := Lib.hid hB
      simp only [Bool.true_and, if_true]
      obtain ⟨h1, h2, h3, h4, h5, h6⟩ := pV_of ha
      have h1 := wi_of h1; have h2 := wi_of h2; have h3 := wi_of h3; have h4 := wi_of h4; have h5 := wi_of h5; have h6 := wi_of h6
      obtain ⟨k1, k2, k3, k4, k5, k6⟩ := pV_of hb
      have k1 := wi_of k1; have k2 := wi_of k2; have k3 := wi_of k3; have k4 := wi_of k4; have k5 := wi_of k5; have k6 := wi_of k6
      have hp : pV (a - x) (b - y) (c - z) (d - s) (e - t) (f - u) 1152 = true := by
        have W : ∀ x : Int, -1152 ≤ x → x ≤ 1152 → wi x 1152 = true := fun x h h' => by
          unfold wi
          rw [decide_eq_true h, decide_eq_true h']
          rfl
        exact pV_mk (W _ (by omega) (by omega)) (W _ (by omega) (by omega)) (W _ (by omega) (by omega)) (W _ (by omega) (by omega)) (W _ (by omega) (by omega)) (W _ (by omega) (by omega))
      have q1 : IntKind.i64.wrap (a - x) = a - x := by rw [IntKind.wrap_i64]; omega
      have q2 : IntKind.i64.wrap (b - y) = b - y := by rw [IntKind.wrap_i64]; omega
      have q3 : IntKind.i64.wrap (c - z) = c - z := by rw [IntKind.wrap_i64]; omega
      have q4 : IntKind.i64.wrap (d - s) = d - s := by rw [IntKind.wrap_i64]; omega
      have q5 : IntKind.i64.wrap (e - t) = e - t := by rw [IntKind.wrap_i64]; omega
      have q6 : IntKind.i64.wrap (f - u) = f - u := by rw [IntKind.wrap_i64]; omega
      clear h1 h2 h3 h4 h5 h6 k1 k2 k3 k4 k5 k6 ha hb hA hB
      have HU := Lib.hid (fun w => Rprod3_c 1 (a - x) (b - y) (c - z) (d - s) (e - t) (f - u) w (Or.inl rfl) hp)
      have HD := Lib.hid (fun w => Rprod3_c (-1) (a - x) (b - y) (c - z) (d - s) (e - t) (f - u) w (Or.inr rfl) hp)
      unfold upN dnN
      generalize prodF prm (sgE 1 (a - x) (b - y) (c - z) (d - s) (e - t) (f - u)) 6 = U at *
      generalize prodF prm (sgE (-1) (a - x) (b - y) (c - z) (d - s) (e - t) (f - u)) 6 = V at *
      clear hp
      go_enter Try.func34, Try.ntmps34
      go_wp2_with fail
      ((with_reducible refine (HA.out _).mono ?_); rintro en v1 ⟨rfl, d1⟩)
      obtain ⟨hz1, hc1, hf1⟩ := bcl d1 (by first | (simp; rfl) | rfl)
      go_wp2_with fail
      ((with_reducible refine (HB.out _).mono ?_); rintro en v2 ⟨rfl, d2⟩)
      obtain ⟨hz2, hc2, hf2⟩ := bcl d2 (by first | (simp; rfl) | rfl)
      have zz : w.heap.size + 1 + 1 ≤ v2.heap.size := by omega
      have z1 : w.heap.size < v2.heap.size := by omega
      have z2 : w.heap.size + 1 < v2.heap.size := by omega
      go_wp2_with fail
      refine wp_loop_rounds 7 ?_
      iterate 6
        rw [rounds_succ]
        go_wp2
        (refine wp_region_bl [0,1,2,3,4,5,6,7] [8,9] (by kernel_rfl) (by kernel_rfl) (by rfl) ?_
         simp only [pickI, pick, List.getElem?_cons_succ, List.getElem?_cons_zero]
         iterate 8 (first
           | (refine head_val (by rfl) (by rfl) ?_
              apply Exists.intro
              refine ⟨fun X hX => ?_, ?_⟩
              · (obtain ⟨qz, qc, qf⟩ := bcl hX.out (by first | (simp; rfl) | rfl)
                 go_simp
                 first | done | rfl | exact ⟨rfl, rfl⟩)
              simp only [Act.put, List.setIfInBounds_toArray, List.set_cons_zero, List.set_cons_succ])
           | (refine head_pass (by rfl) ?_
              simp only [Act.put, List.setIfInBounds_toArray, List.set_cons_zero, List.set_cons_succ]))
         refine head_nil ?_
         intro w' hw'
         have hb := hw'.out
         clear hw'
         obtain ⟨hz, hc, hf⟩ := bcl hb (by first | (simp; rfl) | rfl))
        have zq : v2.heap.size < w'.heap.size := by omega
        go_wp2
      rw [rounds_succ]
      go_wp2
      refine wp_named ?_
      intro W3 hW3
      clear h1 h2 h3 h4 h5 h6 k1 k2 k3 k4 k5 k6 q1 q2 q3 q4 q5 q6
      have k3 : Below w.heap.size w W3 := by
        rw [hW3]
        repeat (first | (with_reducible exact bl_refl _) | (with_reducible refine bl_alloc ?_ _) | (with_reducible refine bl_set' ?_ ?_; · (dsimp only; omega)) | (with_reducible refine bl_last (by assumption) ?_))
      have hD : Blk W3 v2.heap.size 24 #[.int .i64 (a - x), .int .i64 (b - y), .int .i64 (c - z), .int .i64 (d - s), .int .i64 (e - t), .int .i64 (f - u)] := by
        rw [hW3]
        repeat (first | (with_reducible apply Blk.new) | (with_reducible apply blk_s) | (with_reducible apply blk_up (hb := by assumption)))
        all_goals rfl
      clear hW3
      have zD := hD.lt
      have t0 := hD.cell 0
      have t1 := hD.cell 1
      have t2 := hD.cell 2
      have t3 := hD.cell 3
      have t4 := hD.cell 4
      have t5 := hD.cell 5
      simp only [List.getElem?_toArray, List.getElem?_cons_zero, List.getElem?_cons_succ] at t0 t1 t2 t3 t4 t5
      go_region_held3 (fun W => W.cell? ⟨v2.heap.size, 0, none⟩ = some (.int .i64 (a - x)) ∧ W.cell? ⟨v2.heap.size, 1, none⟩ = some (.int .i64 (b - y)) ∧ W.cell? ⟨v2.heap.size, 2, none⟩ = some (.int .i64 (c - z)) ∧ W.cell? ⟨v2.heap.size, 3, none⟩ = some (.int .i64 (d - s)) ∧ W.cell? ⟨v2.heap.size, 4, none⟩ = some (.int .i64 (e - t)) ∧ W.cell? ⟨v2.heap.size, 5, none⟩ = some (.int .i64 (f - u)))
        (first | go_keep | (refine ⟨?_, ?_, ?_, ?_, ?_, ?_⟩ <;> (go_simp; done)))
        ((first | (go_at_call 67; ((with_reducible refine (HU.out _).mono ?_); rintro en w2 ⟨hb2, b2, n2, c2, hk2, rfl, hN2, h62, h72⟩; obtain ⟨hz2, hc2, hf2⟩ := bcl hb2 (by first | (simp; rfl) | rfl))) | (go_at_call 67; ((with_reducible refine (HD.out _).mono ?_); rintro en w3 ⟨hb3, b3, n3, c3, hk3, rfl, hN3, h63, h73⟩; obtain ⟨hz3, hc3, hf3⟩ := bcl hb3 (by first | (simp; rfl) | rfl))) | (go_at_call 66; ((with_reducible refine (RNcmp_c _ _ _ _ U V _ _ _ (hN2.up (by (repeat (first | (with_reducible exact bl_refl _) | (with_reducible refine bl_drew ?_) | (with_reducible refine bl_alloc ?_ _) | (with_reducible refine bl_set' ?_ ?_; · (first | omega | (simp; done) | (simp; omega))) | (with_reducible refine bl_last (by assumption) ?_) | (with_reducible refine bl_drewN ?_ _))))) hN3 h62 h63).mono ?_); rintro en w4 ⟨rfl, hb4⟩; obtain ⟨hz4, hc4, hf4⟩ := bcl hb4 (by first | (simp; rfl) | rfl))) | (go_at_call 66; ((with_reducible refine (RNcmp_c _ _ _ _ U V _ _ _ hN2 (hN3.up (by (repeat (first | (with_reducible exact bl_refl _) | (with_reducible refine bl_drew ?_) | (with_reducible refine bl_alloc ?_ _) | (with_reducible refine bl_set' ?_ ?_; · (first | omega | (simp; done) | (simp; omega))) | (with_reducible refine bl_last (by assumption) ?_) | (with_reducible refine bl_drewN ?_ _))))) h62 h63).mono ?_); rintro en w4 ⟨rfl, hb4⟩; obtain ⟨hz4, hc4, hf4⟩ := bcl hb4 (by first | (simp; rfl) | rfl)))))
      all_goals
        go_wp2
        go_ret2
        exact ⟨rfl, bl_trans k3 (by (repeat (first | (with_reducible exact bl_refl _) | (with_reducible refine bl_drew ?_) | (with_reducible refine bl_alloc ?_ _) | (with_reducible refine bl_set' ?_ ?_; · (first | omega | (simp; done) | (simp; omega))) | (with_reducible refine bl_last (by assumption) ?_) | (with_reducible refine bl_drewN ?_ _))))⟩
end Go.Proofs.Ythlnfjllkmielaa
namespace Go.Proofs.Ythlnfjllkmielaa
open Go Go.RowKit

theorem mul_le_of {a b c : Int} (hc : 0 < c) (h : a * c ≤ b * c) : a ≤ b := Int.le_of_mul_le_mul_right h hc
theorem mk_fit {p q : Int} (h1 : 0 ≤ p) (h2 : p ≤ 1000000000) (h3 : 1 ≤ q) (h4 : q ≤ 1000000000) : mkE p q = 0 := by
  have hq : q ≠ 0 := by omega
  obtain ⟨k1, k2, k3⟩ := num_low (n := p) hq
  have y1 : yF p q ≤ 1000000000 := by
    have : yF p q ≤ absF q := Nat.div_le_self _ _
    unfold absF at this
    omega
  have x1 : xF p q ≤ 1000000000 := by
    have : xF p q ≤ absF p := Nat.div_le_self _ _
    unfold absF at this
    omega
  exact (mk_of hq (v_mk k1 (by omega) (by omega)) k2.symm).1
/-- Comparison of two quotients. -/
theorem mk_cross {p q r s : Int} (hq : 0 < q) (hs : 0 < s) (h1 : mkE p q = 0) (h2 : mkE r s = 0) (h : p * s ≤ r * q) : mkN p q * mkD r s ≤ mkN r s * mkD p q := by
  obtain ⟨_, v1, e1⟩ := mk_spec h1
  obtain ⟨_, v2, e2⟩ := mk_spec h2
  have d1 := den_pos v1
  have d2 := den_pos v2
  generalize mkN p q = a at *
  generalize mkD p q = b at *
  generalize mkN r s = c at *
  generalize mkD r s = d at *
  have hqs : 0 < q * s := Int.mul_pos hq hs
  refine mul_le_of hqs ?_
  have e3 : a * d * (q * s) = (a * q) * d * s := by grind
  have e4 : c * b * (q * s) = (c * s) * b * q := by grind
  rw [e3, e4, e1, e2]
  have hbd : 0 < b * d := Int.mul_pos d1 d2
  have e5 : p * b * d * s = (p * s) * (b * d) := by grind
  have e6 : r * d * b * q = (r * q) * (b * d) := by grind
  rw [e5, e6]
  exact Int.mul_le_mul_of_nonneg_right h (by omega)
theorem mk_ri {p q r s : Int} (hq : 0 < q) (hs : 0 < s) (h1 : mkE p q = 0) (h2 : mkE r s = 0) (h : p * s ≤ r * q) : riB (mkN p q) (mkD p q) (mkN r s) (mkD r s) = true :=
  ri_mk (mk_spec h1).2.1 (mk_spec h2).2.1 (mk_cross hq hs h1 h2 h)

/-- There is a greatest number not above the frequency. -/
theorem lohi_ex (D R G : Nat) (hG : 0 < G) : ∃ lo hi, LoHi D R G lo hi := by
  have h : ∀ n : Nat, ∃ lo, lo ≤ n ∧ hzVal D R lo ≤ G ∧ (lo < n → G < hzVal D R (lo + 1)) := by
    intro n
    induction n with
    | zero => exact ⟨0, Nat.le_refl _, by unfold hzVal; rw [Nat.zero_mul, Nat.zero_pow (by omega), Nat.zero_mul]; omega, fun h => by omega⟩
    | succ n ih =>
      obtain ⟨lo, h1, h2, h3⟩ := ih
      by_cases e : lo = n
      · subst e
        by_cases g : hzVal D R (lo + 1) ≤ G
        · exact ⟨lo + 1, Nat.le_refl _, g, fun h => by omega⟩
        · exact ⟨lo, by omega, h2, fun _ => by omega⟩
      · exact ⟨lo, by omega, h2, fun _ => h3 (by omega)⟩
  obtain ⟨lo, h1, h2, h3⟩ := h 1000000000
  by_cases e : hzVal D R lo = G
  · exact ⟨lo, lo, h1, h2, h3, Or.inl ⟨e, rfl⟩⟩
  · exact ⟨lo, lo + 1, h1, h2, h3, Or.inr ⟨by omega, rfl⟩⟩
theorem LoHi.hi_ge {D R G lo hi : Nat} (h : LoHi D R G lo hi) (hh : hi ≤ 1000000000) : G ≤ hzVal D R hi := by
  obtain ⟨_, _, h3, h4⟩ := h
  rcases h4 with ⟨e, rfl⟩ | ⟨_, rfl⟩
  · omega
  · exact Nat.le_of_lt (h3 (by omega))
theorem LoHi.le {D R G lo hi : Nat} (h : LoHi D R G lo hi) : lo ≤ hi := by
  obtain ⟨_, _, _, h4⟩ := h
  rcases h4 with ⟨_, rfl⟩ | ⟨_, rfl⟩ <;> omega
theorem LoHi.mono {D R G R' G' lo hi lo' hi' : Nat} (hD : 0 < D) (hR : 0 < R) (hR' : 0 < R') (hx : G * R' ≤ G' * R) (h : LoHi D R G lo hi) (h' : LoHi D R' G' lo' hi') (hh : hi ≤ 1000000000) (hh' : hi' ≤ 1000000000) : lo ≤ lo' ∧ hi ≤ hi' := by
  have hl := h.le
  have hl' := h'.le
  have hg := h.hi_ge hh
  have hg' := h'.hi_ge hh'
  obtain ⟨a1, a2, a3, a4⟩ := h
  obtain ⟨b1, b2, b3, b4⟩ := h'
  have key : ∀ i : Nat, G' < hzVal D R' i → ¬ hzVal D R i ≤ G := by
    intro i h1 h2
    unfold hzVal at h1 h2
    have h3 : (i * D) ^ 12 * R * R' ≤ G * R' := Nat.mul_le_mul_right _ h2
    have h4 : G' * R < (i * D) ^ 12 * R' * R := Nat.mul_lt_mul_of_pos_right h1 hR
    have h5 : (i * D) ^ 12 * R' * R = (i * D) ^ 12 * R * R' := by rw [Nat.mul_assoc, Nat.mul_comm R' R, ← Nat.mul_assoc]
    omega
  have k1 : lo ≤ lo' := by
    rcases Nat.lt_or_ge lo' lo with g | g
    · exfalso
      have h1 := b3 (by omega)
      exact key lo (Nat.lt_of_lt_of_le h1 (hzVal_le hR' hD g)) a2
    · exact g
  refine ⟨k1, ?_⟩
  rcases Nat.lt_or_ge hi' hi with g | g
  · exfalso
    rcases a4 with ⟨_, rfl⟩ | ⟨e, rfl⟩
    · omega
    · have h1 : G' ≤ hzVal D R' lo := Nat.le_trans hg' (hzVal_le hR' hD (by omega))
      unfold hzVal at h1 e
      have h3 : (lo * D) ^ 12 * R * R' < G * R' := Nat.mul_lt_mul_of_pos_right e hR'
      have h4 : G' * R ≤ (lo * D) ^ 12 * R' * R := Nat.mul_le_mul_right _ h1
      have h5 : (lo * D) ^ 12 * R' * R = (lo * D) ^ 12 * R * R' := by rw [Nat.mul_assoc, Nat.mul_comm R' R, ← Nat.mul_assoc]
      omega
  · exact g
theorem hzVal_mul (D R n k : Nat) : hzVal D R (n * k) = n ^ 12 * hzVal D R k := by
  unfold hzVal
  rw [Nat.mul_assoc, Nat.mul_pow, Nat.mul_assoc]
theorem LoHi.fine {D R G n lo hi lo' hi' : Nat} (hD : 0 < D) (hR : 0 < R) (hn : 0 < n) (h : LoHi D R G lo hi) (h' : LoHi D R (n ^ 12 * G) lo' hi') (hh : hi ≤ 1000000000) (hh' : hi' ≤ 1000000000) : n * lo ≤ lo' ∧ hi' ≤ n * hi := by
  have hg := h.hi_ge hh
  have hg' := h'.hi_ge hh'
  obtain ⟨a1, a2, a3, a4⟩ := h
  obtain ⟨b1, b2, b3, b4⟩ := h'
  have c1 : hzVal D R (n * lo) ≤ n ^ 12 * G := by rw [hzVal_mul]; exact Nat.mul_le_mul_left _ a2
  have c2 : n ^ 12 * G ≤ hzVal D R (n * hi) := by rw [hzVal_mul]; exact Nat.mul_le_mul_left _ hg
  have c3 : n * lo ≤ hi' := by
    rcases Nat.lt_or_ge hi' (n * lo) with g | g
    · have := hzVal_mono (R := R) hR hD g
      omega
    · exact g
  constructor
  · rcases Nat.lt_or_ge lo' (n * lo) with g | g
    · have h1 := b3 (by omega)
      have h2 := hzVal_le (D := D) (R := R) hR hD (show lo' + 1 ≤ n * lo from g)
      omega
    · exact g
  · rcases Nat.lt_or_ge (n * hi) hi' with g | g
    · rcases b4 with ⟨e, rfl⟩ | ⟨e, rfl⟩
      · have := hzVal_mono (R := R) hR hD g
        omega
      · have := hzVal_le (D := D) (R := R) hR hD (show n * hi ≤ lo' by omega)
        omega
    · exact g
theorem pwF_twelve (b : Nat) (x : Int) : pwF b (x * 12) = pwF b x ^ 12 := by
  rw [pwF_toNat, pwF_toNat, ← Nat.pow_mul]
  congr 1
  omega
theorem prodF_twelve {fb : Nat → Nat} {fe ge : Nat → Int} : ∀ n, (∀ i, i < n → ge i = fe i * 12) → prodF fb ge n = prodF fb fe n ^ 12
  | 0, _ => by simp [prodF]
  | n + 1, h => by
    show prodF fb ge n * pwF (fb n) (ge n) = (prodF fb fe n * pwF (fb n) (fe n)) ^ 12
    rw [prodF_twelve n (fun i hi => h i (by omega)), h n (by omega), pwF_twelve, Nat.mul_pow]
theorem pex_twelve (a b c d e f : Int) : ∀ i, i < 6 → pex (a * 12) (b * 12) (c * 12) (d * 12) (e * 12) (f * 12) i = pex a b c d e f i * 12 := by
  intro i hi
  rcases lt6 hi with rfl | rfl | rfl | rfl | rfl | rfl <;> rfl
theorem goal_twelve (z : Nat) (a b c d e f : Int) : goalN z (a * 12) (b * 12) (c * 12) (d * 12) (e * 12) (f * 12) = (z * paU a b c d e f 6) ^ 12 := by
  rw [← goal_eq, sgE_one, prodF_twelve 6 (pex_twelve a b c d e f), Nat.mul_pow]
  rfl
theorem rest_twelve (a b c d e f : Int) : restN (a * 12) (b * 12) (c * 12) (d * 12) (e * 12) (f * 12) = paD a b c d e f 6 ^ 12 := by
  show prodF prm _ 6 = _
  rw [prodF_twelve (fe := fun i => -pex a b c d e f i) 6 (fun i hi => by rw [pex_twelve a b c d e f i hi, Int.neg_mul])]
  rfl
theorem pow12_le {a b : Nat} (h : a ^ 12 ≤ b ^ 12) : a ≤ b := by
  rcases Nat.lt_or_ge b a with g | g
  · have := Nat.pow_lt_pow_left g (show (12 : Nat) ≠ 0 by omega)
    omega
  · exact g
/-- The exact frequency of an interval lies between. -/
theorem LoHi.exact {D z lo hi : Nat} {a b c d e f : Int} (h : LoHi D (restN (a * 12) (b * 12) (c * 12) (d * 12) (e * 12) (f * 12)) (goalN z (a * 12) (b * 12) (c * 12) (d * 12) (e * 12) (f * 12)) lo hi) (hh : hi ≤ 1000000000) :
    lo * D * paD a b c d e f 6 ≤ z * paU a b c d e f 6 ∧ z * paU a b c d e f 6 ≤ hi * D * paD a b c d e f 6 := by
  have h1 := h.hi_ge hh
  have h2 := h.2.1
  rw [rest_twelve, goal_twelve] at h1 h2
  unfold hzVal at h1 h2
  rw [← Nat.mul_pow] at h1 h2
  exact ⟨pow12_le h2, pow12_le h1⟩
end Go.Proofs.Ythlnfjllkmielaa
namespace Go.Proofs.Ythlnfjllkmielaa
open Go Go.RowKit

theorem pa_okH {a b c d e f : Int} (h : paK a b c d e f = 0) : paO a b c d e f = true ∧ (1 ≤ (paU a b c d e f 6 : Int) ∧ (paU a b c d e f 6 : Int) ≤ 64) ∧ (1 ≤ (paD a b c d e f 6 : Int) ∧ (paD a b c d e f 6 : Int) ≤ 64) := by
  unfold paK at h
  split at h
  · rename_i ho
    refine ⟨ho, ?_⟩
    unfold paO at ho
    simp only [Bool.and_eq_true, decide_eq_true_eq] at ho
    have u1 : 1 ≤ paU a b c d e f 6 := prodF_mono (fun j hj => by have := prm_pos hj; omega) 0 (by omega)
    have u2 : 1 ≤ paD a b c d e f 6 := prodF_mono (fun j hj => by have := prm_pos hj; omega) 0 (by omega)
    omega
  · split at h <;> cases h
theorem mkD_le {p q : Int} (hq : 1 ≤ q) (h : mkE p q = 0) : mkD p q ≤ q ∧ 1 ≤ mkD p q := by
  obtain ⟨h0, h1, h2, h3, h4⟩ := mk_parts h
  have hv := (v_of (mk_spec h).2.1).1
  have : yF p q ≤ absF q := Nat.div_le_self _ _
  rw [h4] at hv ⊢
  unfold absF at this
  omega
theorem mkN_nn {p q : Int} (hp : 0 ≤ p) (hq : 1 ≤ q) (h : mkE p q = 0) : 0 ≤ mkN p q ∧ mkN p q ≤ 1000000000 := by
  obtain ⟨_, v, e⟩ := mk_spec h
  have d := den_pos v
  refine ⟨?_, (v_of v).2.2.2.1⟩
  rcases Int.lt_or_le (mkN p q) 0 with g | g
  · have h1 : mkN p q * q < 0 := Int.mul_neg_of_neg_of_pos g (by omega)
    have h2 : 0 ≤ p * mkD p q := Int.mul_nonneg hp (by omega)
    omega
  · exact g
/-- What Hertz returns, as numbers. -/
def HzF (N D a b c d e f k x1 x2 x3 x4 E : Int) : Prop := E ≠ 0 ∨ (E = 0 ∧ hzG N D a b c d e f k = true ∧ ∃ lo hi : Nat, LoHi D.toNat (restN a b c d e f) (goalN (k * N).toNat a b c d e f) lo hi ∧ 1 ≤ lo ∧ hi ≤ 1000000000 ∧ x1 = mkN (lo : Int) k ∧ x2 = mkD (lo : Int) k ∧ x3 = mkN (hi : Int) k ∧ x4 = mkD (hi : Int) k)
theorem hz_bounds {N D a b c d e f k : Int} (h : hzG N D a b c d e f k = true) : 0 < N ∧ N ≤ 1000000000 ∧ 0 < D ∧ D ≤ 100000000 ∧ 1 ≤ k ∧ k ≤ 1000000 := by
  obtain ⟨g1, g2, g3, g4⟩ := hz_of h
  obtain ⟨g5, g6⟩ := sd_of g1
  obtain ⟨g7, g8, g9, g10⟩ := rt_of g5
  omega
theorem Hertz_v (N D a b c d e f k : Int) : ∃ x1 x2 x3 x4 E : Int, HzF N D a b c d e f k x1 x2 x3 x4 E ∧ ∀ w : World, Calls Try.prog 24 #[.agg #[.int .i64 N, .int .i64 D], .agg #[.int .i64 a, .int .i64 b, .int .i64 c, .int .i64 d, .int .i64 e, .int .i64 f], .int .i64 k] w (Ret (.tuple #[.agg #[.int .i64 x1, .int .i64 x2, .int .i64 x3, .int .i64 x4], .int .i64 E]) w) := by
  cases h : hzG N D a b c d e f k
  · refine ⟨0, 0, 0, 0, 1, Or.inl (by decide), fun w => (Hertz_c N D a b c d e f k w).mono ?_⟩
    rintro en w' ⟨hb, ⟨_, rfl⟩ | ⟨h', _⟩⟩
    · exact ⟨rfl, hb⟩
    · rw [h] at h'; cases h'
  · obtain ⟨b1, b2, b3, b4, b5, b6⟩ := hz_bounds h
    have hG : 0 < goalN (k * N).toNat a b c d e f := goal_pos (by
      have := Int.mul_pos (show 0 < k by omega) b1
      omega)
    obtain ⟨lo, hi, hL⟩ := lohi_ex D.toNat (restN a b c d e f) (goalN (k * N).toNat a b c d e f) hG
    have hs : ∀ (w : World) (en : Ending) (w' : World), HzP N D a b c d e f k w en w' → Below w.heap.size w w' ∧ ((lo < 1 ∨ 1000000000 < hi) ∧ en = .returned (band0 3) ∨ (1 ≤ lo ∧ hi ≤ 1000000000) ∧ en = .returned (bandOf lo hi k)) := by
      rintro w en w' ⟨hb, ⟨h', _⟩ | ⟨_, lo', hi', hL', hr⟩⟩
      · rw [h] at h'; cases h'
      · obtain ⟨rfl, rfl⟩ := hL.same (rest_pos a b c d e f) (by omega) hL'
        exact ⟨hb, hr⟩
    by_cases g : lo < 1 ∨ 1000000000 < hi
    · refine ⟨0, 0, 0, 0, 3, Or.inl (by decide), fun w => (Hertz_c N D a b c d e f k w).mono ?_⟩
      intro en w' hp
      obtain ⟨hb, ⟨_, rfl⟩ | ⟨g', _⟩⟩ := hs w en w' hp
      · exact ⟨rfl, hb⟩
      · omega
    · refine ⟨_, _, _, _, 0, Or.inr ⟨rfl, h, lo, hi, hL, by omega, by omega, rfl, rfl, rfl, rfl⟩, fun w => (Hertz_c N D a b c d e f k w).mono ?_⟩
      intro en w' hp
      obtain ⟨hb, ⟨g', _⟩ | ⟨_, rfl⟩⟩ := hs w en w' hp
      · exact absurd g' g
      · exact ⟨rfl, hb⟩
/-- The exact frequency. -/
theorem hz_exact {N D a b c d e f k x1 x2 x3 x4 : Int} (h : HzF N D (a * 12) (b * 12) (c * 12) (d * 12) (e * 12) (f * 12) k x1 x2 x3 x4 0) {P Q : Int} (hP : P = (paU a b c d e f 6 : Int)) (hQ : Q = (paD a b c d e f 6 : Int)) (h1 : 1 ≤ P) (h2 : P ≤ 64) (h3 : 1 ≤ Q) (h4 : Q ≤ 64) :
    (IntKind.i64.wrap (x1 * D) = x1 * D ∧ IntKind.i64.wrap (x1 * D * Q) = x1 * D * Q ∧ IntKind.i64.wrap (N * P) = N * P ∧ IntKind.i64.wrap (N * P * x2) = N * P * x2) ∧ (IntKind.i64.wrap (N * P * x4) = N * P * x4 ∧ IntKind.i64.wrap (x3 * D) = x3 * D ∧ IntKind.i64.wrap (x3 * D * Q) = x3 * D * Q) ∧ x1 * D * Q ≤ N * P * x2 ∧ N * P * x4 ≤ x3 * D * Q := by
  rcases h with h | ⟨_, hG, lo, hi, hL, l1, l2, rfl, rfl, rfl, rfl⟩
  · exact absurd rfl h
  obtain ⟨b1, b2, b3, b4, b5, b6⟩ := hz_bounds hG
  obtain ⟨k1, k2⟩ := hL.exact l2
  have hle := hL.le
  have m1 : mkE (lo : Int) k = 0 := mk_fit (by omega) (by omega) b5 (by omega)
  have m2 : mkE (hi : Int) k = 0 := mk_fit (by omega) (by omega) b5 (by omega)
  obtain ⟨_, _, e1⟩ := mk_spec m1
  obtain ⟨_, _, e2⟩ := mk_spec m2
  obtain ⟨d1, d2⟩ := mkD_le b5 m1
  obtain ⟨d3, d4⟩ := mkD_le b5 m2
  obtain ⟨n1, n2⟩ := mkN_nn (by omega) b5 m1
  obtain ⟨n3, n4⟩ := mkN_nn (by omega) b5 m2
  have hz : ((k * N).toNat : Int) = k * N := by
    have := Int.mul_pos (show 0 < k by omega) b1
    omega
  have hDn : ((D.toNat : Nat) : Int) = D := by omega
  have k1' : (lo : Int) * D * Q ≤ k * N * P := by
    have := Int.ofNat_le.mpr k1
    rw [Int.natCast_mul, Int.natCast_mul, Int.natCast_mul, hz, hDn] at this
    rw [hP, hQ]
    exact this
  have k2' : k * N * P ≤ (hi : Int) * D * Q := by
    have := Int.ofNat_le.mpr k2
    rw [Int.natCast_mul, Int.natCast_mul, Int.natCast_mul, hz, hDn] at this
    rw [hP, hQ]
    exact this
  clear k1 k2 hP hQ hL hG hz hDn
  generalize mkN (lo : Int) k = x1 at *
  generalize mkD (lo : Int) k = x2 at *
  generalize mkN (hi : Int) k = x3 at *
  generalize mkD (hi : Int) k = x4 at *
  have f1 : 0 ≤ x1 * D := Int.mul_nonneg n1 (by omega)
  have f2 : x1 * D ≤ 1000000000 * 100000000 := Int.mul_le_mul n2 b4 (by omega) (by omega)
  have f3 : 0 ≤ x1 * D * Q := Int.mul_nonneg f1 (by omega)
  have f4 : x1 * D * Q ≤ 1000000000 * 100000000 * 64 := Int.mul_le_mul f2 h4 (by omega) (by omega)
  have f5 : 0 ≤ N * P := Int.mul_nonneg (by omega) (by omega)
  have f6 : N * P ≤ 1000000000 * 64 := Int.mul_le_mul b2 h2 (by omega) (by omega)
  have f7 : 0 ≤ N * P * x2 := Int.mul_nonneg f5 (by omega)
  have f8 : N * P * x2 ≤ 1000000000 * 64 * 1000000 := Int.mul_le_mul f6 (by omega) (by omega) (by omega)
  have f9 : 0 ≤ N * P * x4 := Int.mul_nonneg f5 (by omega)
  have f10 : N * P * x4 ≤ 1000000000 * 64 * 1000000 := Int.mul_le_mul f6 (by omega) (by omega) (by omega)
  have g1 : 0 ≤ x3 * D := Int.mul_nonneg n3 (by omega)
  have g2 : x3 * D ≤ 1000000000 * 100000000 := Int.mul_le_mul n4 b4 (by omega) (by omega)
  have g3 : 0 ≤ x3 * D * Q := Int.mul_nonneg g1 (by omega)
  have g4 : x3 * D * Q ≤ 1000000000 * 100000000 * 64 := Int.mul_le_mul g2 h4 (by omega) (by omega)
  refine ⟨⟨?_, ?_, ?_, ?_⟩, ⟨?_, ?_, ?_⟩, ?_, ?_⟩
  · rw [IntKind.wrap_i64]; omega
  · rw [IntKind.wrap_i64]; omega
  · rw [IntKind.wrap_i64]; omega
  · rw [IntKind.wrap_i64]; omega
  · rw [IntKind.wrap_i64]; omega
  · rw [IntKind.wrap_i64]; omega
  · rw [IntKind.wrap_i64]; omega
  · refine mul_le_of (c := k) (by omega) ?_
    have e3 : x1 * D * Q * k = (lo : Int) * D * Q * x2 := by grind
    have e4 : N * P * x2 * k = k * N * P * x2 := by grind
    rw [e3, e4]
    exact Int.mul_le_mul_of_nonneg_right k1' (by omega)
  · refine mul_le_of (c := k) (by omega) ?_
    have e3 : x3 * D * Q * k = (hi : Int) * D * Q * x4 := by grind
    have e4 : N * P * x4 * k = k * N * P * x4 := by grind
    rw [e3, e4]
    exact Int.mul_le_mul_of_nonneg_right k2' (by omega)
theorem pw_three (P : Nat) (x y : Int) : pwF P x * pwF P (-y) * pwF P (-(x - y)) = pwF P y * pwF P (-x) * pwF P (x - y) := by
  simp only [pwF_toNat]
  rw [← Nat.pow_add, ← Nat.pow_add, ← Nat.pow_add, ← Nat.pow_add]
  congr 1
  omega
theorem prod_three {fb : Nat → Nat} {A B C D E F : Nat → Int} : ∀ n, (∀ i, i < n → pwF (fb i) (A i) * pwF (fb i) (B i) * pwF (fb i) (C i) = pwF (fb i) (D i) * pwF (fb i) (E i) * pwF (fb i) (F i)) → prodF fb A n * prodF fb B n * prodF fb C n = prodF fb D n * prodF fb E n * prodF fb F n
  | 0, _ => by simp [prodF]
  | n + 1, h => by
    have h1 := prod_three n (fun i hi => h i (by omega))
    have h2 := h n (by omega)
    show prodF fb A n * pwF (fb n) (A n) * (prodF fb B n * pwF (fb n) (B n)) * (prodF fb C n * pwF (fb n) (C n)) = prodF fb D n * pwF (fb n) (D n) * (prodF fb E n * pwF (fb n) (E n)) * (prodF fb F n * pwF (fb n) (F n))
    generalize prodF fb A n = a at *
    generalize prodF fb B n = b at *
    generalize prodF fb C n = c at *
    generalize prodF fb D n = d at *
    generalize prodF fb E n = e at *
    generalize prodF fb F n = f at *
    generalize pwF (fb n) (A n) = a' at *
    generalize pwF (fb n) (B n) = b' at *
    generalize pwF (fb n) (C n) = c' at *
    generalize pwF (fb n) (D n) = d' at *
    generalize pwF (fb n) (E n) = e' at *
    generalize pwF (fb n) (F n) = f' at *
    have e1 : a * a' * (b * b') * (c * c') = (a * b * c) * (a' * b' * c') := by grind
    have e2 : d * d' * (e * e') * (f * f') = (d * e * f) * (d' * e' * f') := by grind
    rw [e1, e2, h1, h2]
theorem up_dn (a b c d e f x y z s t u : Int) : upN a b c d e f * dnN x y z s t u * dnN (a - x) (b - y) (c - z) (d - s) (e - t) (f - u) = upN x y z s t u * dnN a b c d e f * upN (a - x) (b - y) (c - z) (d - s) (e - t) (f - u) := by
  unfold upN dnN
  rw [sgE_one, sgE_one, sgE_one, sgE_neg, sgE_neg, sgE_neg]
  refine prod_three 6 (fun i hi => ?_)
  rcases lt6 hi with rfl | rfl | rfl | rfl | rfl | rfl <;> exact pw_three _ _ _
theorem dn_pos (a b c d e f : Int) : 0 < dnN a b c d e f := by
  unfold dnN
  rw [rest_eq]
  exact rest_pos a b c d e f
theorem cm_cross {a b c d e f x y z s t u : Int} (h : upN (a - x) (b - y) (c - z) (d - s) (e - t) (f - u) ≤ dnN (a - x) (b - y) (c - z) (d - s) (e - t) (f - u)) : upN a b c d e f * dnN x y z s t u ≤ upN x y z s t u * dnN a b c d e f := by
  have h1 := up_dn a b c d e f x y z s t u
  have h2 := dn_pos (a - x) (b - y) (c - z) (d - s) (e - t) (f - u)
  generalize upN a b c d e f * dnN x y z s t u = A at *
  generalize upN x y z s t u * dnN a b c d e f = B at *
  generalize upN (a - x) (b - y) (c - z) (d - s) (e - t) (f - u) = U at *
  generalize dnN (a - x) (b - y) (c - z) (d - s) (e - t) (f - u) = V at *
  refine Nat.le_of_mul_le_mul_right ?_ h2
  rw [h1]
  exact Nat.mul_le_mul_left _ h
/-- A higher pitch has no lower band. -/
theorem hz_order {N D a b c d e f x y z s t u k x1 x2 x3 x4 y1 y2 y3 y4 : Int} (h : HzF N D a b c d e f k x1 x2 x3 x4 0) (h' : HzF N D x y z s t u k y1 y2 y3 y4 0) (hc : cm3 a b c d e f x y z s t u ≤ 0) (he : cmE a b c d e f x y z s t u = 0) : (cmpE x1 x2 y1 y2 = 0 ∧ cmpN x1 x2 y1 y2 ≤ 0) ∧ (cmpE x3 x4 y3 y4 = 0 ∧ cmpN x3 x4 y3 y4 ≤ 0) := by
  rcases h with h | ⟨_, hG, lo, hi, hL, l1, l2, rfl, rfl, rfl, rfl⟩
  · exact absurd rfl h
  rcases h' with h' | ⟨_, hG', lo', hi', hL', l1', l2', rfl, rfl, rfl, rfl⟩
  · exact absurd rfl h'
  obtain ⟨b1, b2, b3, b4, b5, b6⟩ := hz_bounds hG
  have hcr : upN (a - x) (b - y) (c - z) (d - s) (e - t) (f - u) ≤ dnN (a - x) (b - y) (c - z) (d - s) (e - t) (f - u) := by
    unfold cm3 at hc
    unfold cmE at he
    cases hg : cmG a b c d e f x y z s t u
    · rw [hg] at he
      simp at he
    · rw [hg, if_pos rfl] at hc
      generalize upN (a - x) (b - y) (c - z) (d - s) (e - t) (f - u) = U at *
      generalize dnN (a - x) (b - y) (c - z) (d - s) (e - t) (f - u) = V at *
      unfold ordZ at hc
      split at hc
      · omega
      · split at hc
        · omega
        · omega
  have hx := cm_cross hcr
  have hx2 : goalN (k * N).toNat a b c d e f * restN x y z s t u ≤ goalN (k * N).toNat x y z s t u * restN a b c d e f := by
    rw [← goal_eq, ← goal_eq, ← rest_eq, ← rest_eq]
    show (k * N).toNat ^ 12 * upN a b c d e f * dnN x y z s t u ≤ (k * N).toNat ^ 12 * upN x y z s t u * dnN a b c d e f
    rw [Nat.mul_assoc, Nat.mul_assoc]
    exact Nat.mul_le_mul_left _ hx
  obtain ⟨m1, m2⟩ := hL.mono (by omega) (rest_pos _ _ _ _ _ _) (rest_pos _ _ _ _ _ _) hx2 hL' l2 l2'
  have hle := hL.le
  have hle' := hL'.le
  have hk : 0 < k := by omega
  have M : ∀ i j : Nat, i ≤ j → j ≤ 1000000000 → cmpE (mkN (i : Int) k) (mkD (i : Int) k) (mkN (j : Int) k) (mkD (j : Int) k) = 0 ∧ cmpN (mkN (i : Int) k) (mkD (i : Int) k) (mkN (j : Int) k) (mkD (j : Int) k) ≤ 0 := by
    intro i j hij hj
    have q1 : mkE (i : Int) k = 0 := mk_fit (by omega) (by omega) b5 (by omega)
    have q2 : mkE (j : Int) k = 0 := mk_fit (by omega) (by omega) b5 (by omega)
    have q3 := mk_cross hk hk q1 q2 (Int.mul_le_mul_of_nonneg_right (show (i : Int) ≤ j by omega) (by omega))
    obtain ⟨_, v1, _⟩ := mk_spec q1
    obtain ⟨_, v2, _⟩ := mk_spec q2
    generalize mkN (i : Int) k = p1 at *
    generalize mkD (i : Int) k = p2 at *
    generalize mkN (j : Int) k = p3 at *
    generalize mkD (j : Int) k = p4 at *
    unfold cmpE cmpN
    rw [v1, v2]
    have := sg_ways (p1 * p4 - p3 * p2)
    simp
    omega
  exact ⟨M lo lo' m1 (by omega), M hi hi' m2 (by omega)⟩
/-- A finer band lies within. -/
theorem hz_fine {N D a b c d e f k n x1 x2 x3 x4 y1 y2 y3 y4 : Int} (hn : 0 < n) (h : HzF N D a b c d e f k x1 x2 x3 x4 0) (h' : HzF N D a b c d e f (k * n) y1 y2 y3 y4 0) :
    (riB x1 x2 y1 y2 && riB y1 y2 x3 x4) = true ∧ (riB x1 x2 y3 y4 && riB y3 y4 x3 x4) = true := by
  rcases h with h | ⟨_, hG, lo, hi, hL, l1, l2, rfl, rfl, rfl, rfl⟩
  · exact absurd rfl h
  rcases h' with h' | ⟨_, hG', lo', hi', hL', l1', l2', rfl, rfl, rfl, rfl⟩
  · exact absurd rfl h'
  obtain ⟨b1, b2, b3, b4, b5, b6⟩ := hz_bounds hG
  obtain ⟨_, _, _, _, b7, b8⟩ := hz_bounds hG'
  obtain ⟨m, rfl⟩ : ∃ m : Nat, n = m := ⟨n.toNat, by omega⟩
  have hg : goalN (k * (m : Int) * N).toNat a b c d e f = m ^ 12 * goalN (k * N).toNat a b c d e f := by
    have e1 : (k * (m : Int) * N).toNat = m * (k * N).toNat := by
      have e2 : k * (m : Int) * N = (m : Int) * (k * N) := by grind
      have e3 : 0 < k * N := Int.mul_pos (by omega) b1
      rw [e2, Int.toNat_mul (by omega) (by omega), Int.toNat_natCast]
    rw [e1, ← goal_eq, ← goal_eq, Nat.mul_pow, Nat.mul_assoc]
  rw [hg] at hL'
  obtain ⟨m1, m2⟩ := hL.fine (by omega) (rest_pos _ _ _ _ _ _) (by omega) hL' l2 l2'
  have hle := hL.le
  have hle' := hL'.le
  have hk : 0 < k := by omega
  have hkm : 0 < k * (m : Int) := by omega
  have q1 : mkE (lo : Int) k = 0 := mk_fit (by omega) (by omega) b5 (by omega)
  have q2 : mkE (hi : Int) k = 0 := mk_fit (by omega) (by omega) b5 (by omega)
  have q3 : mkE (lo' : Int) (k * (m : Int)) = 0 := mk_fit (by omega) (by omega) (by omega) (by omega)
  have q4 : mkE (hi' : Int) (k * (m : Int)) = 0 := mk_fit (by omega) (by omega) (by omega) (by omega)
  have up : ∀ i j : Nat, m * i ≤ j → (i : Int) * (k * (m : Int)) ≤ (j : Int) * k := by
    intro i j hij
    have e1 : (i : Int) * (k * (m : Int)) = (m : Int) * (i : Int) * k := by grind
    rw [e1]
    refine Int.mul_le_mul_of_nonneg_right ?_ (by omega)
    rw [← Int.natCast_mul]
    omega
  have dn : ∀ i j : Nat, j ≤ m * i → (j : Int) * k ≤ (i : Int) * (k * (m : Int)) := by
    intro i j hij
    have e1 : (i : Int) * (k * (m : Int)) = (m : Int) * (i : Int) * k := by grind
    rw [e1]
    refine Int.mul_le_mul_of_nonneg_right ?_ (by omega)
    rw [← Int.natCast_mul]
    omega
  rw [mk_ri hk hkm q1 q3 (up lo lo' m1), mk_ri hkm hk q3 q2 (dn hi lo' (by omega)), mk_ri hk hkm q1 q4 (up lo hi' (by omega)), mk_ri hkm hk q4 q2 (dn hi hi' m2)]
  exact ⟨rfl, rfl⟩
end Go.Proofs.Ythlnfjllkmielaa
namespace Go.Proofs.Ythlnfjllkmielaa
open Go Go.RowKit

set_option maxRecDepth 100000 in
set_option maxHeartbeats 16000000 in
theorem walk_BeatHertz (N D v0 v1 v2 v3 v4 v5 x0 x1 x2 x3 x4 x5 y0 y1 y2 y3 y4 y5 d n : Int) (w : World)
    (_ : (Lit.int .i64 N).wf = true) (_ : (Lit.int .i64 D).wf = true) (_ : (Lit.int .i64 v0).wf = true) (_ : (Lit.int .i64 v1).wf = true) (_ : (Lit.int .i64 v2).wf = true) (_ : (Lit.int .i64 v3).wf = true) (_ : (Lit.int .i64 v4).wf = true) (_ : (Lit.int .i64 v5).wf = true) (_ : (Lit.int .i64 x0).wf = true) (_ : (Lit.int .i64 x1).wf = true) (_ : (Lit.int .i64 x2).wf = true) (_ : (Lit.int .i64 x3).wf = true) (_ : (Lit.int .i64 x4).wf = true) (_ : (Lit.int .i64 x5).wf = true) (_ : (Lit.int .i64 y0).wf = true) (_ : (Lit.int .i64 y1).wf = true) (_ : (Lit.int .i64 y2).wf = true) (_ : (Lit.int .i64 y3).wf = true) (_ : (Lit.int .i64 y4).wf = true) (_ : (Lit.int .i64 y5).wf = true) (wd : (Lit.int .i64 d).wf = true) (wn : (Lit.int .u8 n).wf = true) :
    Calls Try.prog 10 #[.agg #[.int .i64 N, .int .i64 D], .agg #[.int .i64 v0, .int .i64 v1, .int .i64 v2, .int .i64 v3, .int .i64 v4, .int .i64 v5], .agg #[.int .i64 x0, .int .i64 x1, .int .i64 x2, .int .i64 x3, .int .i64 x4, .int .i64 x5], .agg #[.int .i64 y0, .int .i64 y1, .int .i64 y2, .int .i64 y3, .int .i64 y4, .int .i64 y5], .int .i64 d, .int .u8 n] w (Ret (.bool true) w) := by
  have hn : 0 ≤ n ∧ n ≤ 255 := by
    have h1 : (decide ((0 : Int) ≤ n) && decide (n ≤ 255)) = true := wn
    simpa using h1
  clear wd wn
  have HH := Lib.hid (fun w => head17_c w)
  obtain ⟨P, Q, Ep, hP, hPe⟩ : ∃ P Q Ep : Int, paV v0 v1 v2 v3 v4 v5 = .tuple #[.int .i64 P, .int .i64 Q, .int .i64 Ep] ∧ (Ep = 0 → P = (paU v0 v1 v2 v3 v4 v5 6 : Int) ∧ Q = (paD v0 v1 v2 v3 v4 v5 6 : Int) ∧ 1 ≤ P ∧ P ≤ 64 ∧ 1 ≤ Q ∧ Q ≤ 64) := by
    refine ⟨_, _, _, rfl, fun h => ?_⟩
    obtain ⟨ho, ⟨h1, h2⟩, h3, h4⟩ := pa_okH h
    rw [if_pos ho, if_pos ho]
    exact ⟨rfl, rfl, h1, h2, h3, h4⟩
  have h1 := fun w => Pair_c v0 v1 v2 v3 v4 v5 w
  rw [hP] at h1
  obtain ⟨o0, o1, o2, o3, o4, o5, Eo, hO, hOe⟩ : ∃ o0 o1 o2 o3 o4 o5 Eo : Int, ofV v0 v1 v2 v3 v4 v5 = .tuple #[.agg #[.int .i64 o0, .int .i64 o1, .int .i64 o2, .int .i64 o3, .int .i64 o4, .int .i64 o5], .int .i64 Eo] ∧ (Eo = 0 → o0 = v0 * 12 ∧ o1 = v1 * 12 ∧ o2 = v2 * 12 ∧ o3 = v3 * 12 ∧ o4 = v4 * 12 ∧ o5 = v5 * 12) := by
    unfold ofV
    cases pV v0 v1 v2 v3 v4 v5 48
    · exact ⟨_, _, _, _, _, _, _, rfl, fun h => by cases h⟩
    · exact ⟨_, _, _, _, _, _, _, rfl, fun _ => ⟨rfl, rfl, rfl, rfl, rfl, rfl⟩⟩
  have h2 := fun w => ROf_c v0 v1 v2 v3 v4 v5 w
  rw [hO] at h2
  obtain ⟨b1, b2, b3, b4, Eb, hB, h3⟩ := Hertz_v N D o0 o1 o2 o3 o4 o5 d
  obtain ⟨s1, s2, s3, s4, Es, hS, h4⟩ := Hertz_v N D x0 x1 x2 x3 x4 x5 d
  obtain ⟨t1, t2, t3, t4, Et, hT, h5⟩ := Hertz_v N D y0 y1 y2 y3 y4 y5 d
  obtain ⟨z1, z2, z3, z4, Ez, hZ, h10⟩ := Hertz_v N D x0 x1 x2 x3 x4 x5 (d * n)
  have h6 := fun w => RCmp3_c x0 x1 x2 x3 x4 x5 y0 y1 y2 y3 y4 y5 w
  unfold cmV at h6
  obtain ⟨tA, hA, htA⟩ : ∃ tA : Bool, ((Ep == 0) && (Eo == 0) && (Eb == 0)) = tA ∧ (tA = true → ((IntKind.i64.wrap (b1 * D) = b1 * D ∧ IntKind.i64.wrap (b1 * D * Q) = b1 * D * Q ∧ IntKind.i64.wrap (N * P) = N * P ∧ IntKind.i64.wrap (N * P * b2) = N * P * b2) ∧ (IntKind.i64.wrap (N * P * b4) = N * P * b4 ∧ IntKind.i64.wrap (b3 * D) = b3 * D ∧ IntKind.i64.wrap (b3 * D * Q) = b3 * D * Q) ∧ b1 * D * Q ≤ N * P * b2 ∧ N * P * b4 ≤ b3 * D * Q)) := ⟨_, rfl, fun h => by
    simp only [Bool.and_eq_true, beq_iff_eq] at h
    obtain ⟨⟨e1, e2⟩, e3⟩ := h
    obtain ⟨p1, p2, p3, p4, p5, p6⟩ := hPe e1
    obtain ⟨rfl, rfl, rfl, rfl, rfl, rfl⟩ := hOe e2
    rw [e3] at hB
    exact hz_exact hB p1 p2 p3 p4 p5 p6⟩
  clear hPe hOe hB hP hO
  have h7 := fun w => RCmp_c s1 s2 t1 t2 w
  have h8 := fun w => RCmp_c s3 s4 t3 t4 w
  unfold cmpV at h7 h8
  obtain ⟨tB, hB, htB⟩ : ∃ tB : Bool, ((Es == 0) && (Et == 0) && (cmE x0 x1 x2 x3 x4 x5 y0 y1 y2 y3 y4 y5 == 0) && decide (cm3 x0 x1 x2 x3 x4 x5 y0 y1 y2 y3 y4 y5 ≤ 0)) = tB ∧ (tB = true → ((cmpE s1 s2 t1 t2 = 0 ∧ cmpN s1 s2 t1 t2 ≤ 0) ∧ (cmpE s3 s4 t3 t4 = 0 ∧ cmpN s3 s4 t3 t4 ≤ 0))) := ⟨_, rfl, fun h => by
    simp only [Bool.and_eq_true, beq_iff_eq, decide_eq_true_eq] at h
    obtain ⟨⟨⟨e1, e2⟩, e3⟩, e4⟩ := h
    rw [e1] at hS
    rw [e2] at hT
    exact hz_order hS hT e4 e3⟩
  clear hT
  generalize cm3 x0 x1 x2 x3 x4 x5 y0 y1 y2 y3 y4 y5 = c at *
  generalize cmE x0 x1 x2 x3 x4 x5 y0 y1 y2 y3 y4 y5 = k at *
  generalize cmpN s1 s2 t1 t2 = lo at *
  generalize cmpE s1 s2 t1 t2 = l at *
  generalize cmpN s3 s4 t3 t4 = hi at *
  generalize cmpE s3 s4 t3 t4 = m at *
  have h11 := fun w => in_c s1 s2 s3 s4 z1 z2 w
  have h12 := fun w => in_c s1 s2 s3 s4 z3 z4 w
  obtain ⟨hn1, hn2⟩ := hn
  have hC : Es = 0 → Ez = 0 → n ≠ 0 → (riB s1 s2 z1 z2 && riB z1 z2 s3 s4) = true ∧ (riB s1 s2 z3 z4 && riB z3 z4 s3 s4) = true := fun e1 e2 e3 => by
    rw [e1] at hS
    rw [e2] at hZ
    exact hz_fine (by omega) hS hZ
  clear hS hZ
  have H1 := Lib.hid h1
  have H2 := Lib.hid h2
  have H3 := Lib.hid h3
  have H4 := Lib.hid h4
  have H5 := Lib.hid h5
  have H6 := Lib.hid h6
  have H7 := Lib.hid h7
  have H8 := Lib.hid h8
  have H10 := Lib.hid h10
  clear h1 h2 h3 h4 h5 h6 h7 h8 h10
  generalize (riB s1 s2 z1 z2 && riB z1 z2 s3 s4) = rA at *
  generalize (riB s1 s2 z3 z4 && riB z3 z4 s3 s4) = rB at *
  have H11 := Lib.hid h11
  have H12 := Lib.hid h12
  clear h11 h12
  have HtA := Lib.hid htA
  have HtB := Lib.hid htB
  have HC := Lib.hid hC
  clear htA htB hC
  go_enter Try.func10, Try.ntmps10
  go_wp2_with fail
  ((with_reducible refine (HH.out _).mono ?_); rintro e u0 ⟨rfl, d0⟩)
  obtain ⟨hz0, hc0, hf0⟩ := bcl d0 (by first | (simp; rfl) | rfl)
  have z0_0 : w.heap.size < u0.heap.size := by omega
  have z0_1 : w.heap.size + 1 < u0.heap.size := by omega
  have z0_2 : w.heap.size + 1 + 1 < u0.heap.size := by omega
  have z0_3 : w.heap.size + 1 + 1 + 1 < u0.heap.size := by omega
  go_wp2_with fail
  refine calls_letter ?_
  intro W1 hW1
  have k1 : Below w.heap.size w W1 := by
    rw [hW1]
    (repeat (first | (with_reducible assumption) | (with_reducible exact bl_refl _) | (with_reducible refine bl_alloc ?_ _) | (with_reducible refine bl_set' ?_ ?_; · (dsimp only; first | assumption | exact Nat.le_refl _ | omega)) | (with_reducible refine bl_last (by assumption) ?_)))
  have F1 : Blk W1 (w.heap.size) 23 #[.int .i64 N, .int .i64 D] := by
    rw [hW1]
    (repeat (first | (with_reducible assumption) | (with_reducible apply Blk.new) | (with_reducible exact blkAt _ _ _ _ (by simp; done)) | (with_reducible apply blk_st2) | (with_reducible apply blk_st4) | (with_reducible apply blk_st6) | (with_reducible apply blk_far (hne := by first | (with_reducible assumption) | omega)) | (with_reducible apply blk_up (hb := by assumption)) | (with_reducible apply Blk.alloc)))
  have V1 : Blk W1 (w.heap.size + 1) 25 #[.int .i64 v0, .int .i64 v1, .int .i64 v2, .int .i64 v3, .int .i64 v4, .int .i64 v5] := by
    rw [hW1]
    (repeat (first | (with_reducible assumption) | (with_reducible apply Blk.new) | (with_reducible exact blkAt _ _ _ _ (by simp; done)) | (with_reducible apply blk_st2) | (with_reducible apply blk_st4) | (with_reducible apply blk_st6) | (with_reducible apply blk_far (hne := by first | (with_reducible assumption) | omega)) | (with_reducible apply blk_up (hb := by assumption)) | (with_reducible apply Blk.alloc)))
  have X1 : Blk W1 (w.heap.size + 1 + 1) 28 #[.int .i64 x0, .int .i64 x1, .int .i64 x2, .int .i64 x3, .int .i64 x4, .int .i64 x5] := by
    rw [hW1]
    (repeat (first | (with_reducible assumption) | (with_reducible apply Blk.new) | (with_reducible exact blkAt _ _ _ _ (by simp; done)) | (with_reducible apply blk_st2) | (with_reducible apply blk_st4) | (with_reducible apply blk_st6) | (with_reducible apply blk_far (hne := by first | (with_reducible assumption) | omega)) | (with_reducible apply blk_up (hb := by assumption)) | (with_reducible apply Blk.alloc)))
  have Y1 : Blk W1 (w.heap.size + 1 + 1 + 1) 28 #[.int .i64 y0, .int .i64 y1, .int .i64 y2, .int .i64 y3, .int .i64 y4, .int .i64 y5] := by
    rw [hW1]
    (repeat (first | (with_reducible assumption) | (with_reducible apply Blk.new) | (with_reducible exact blkAt _ _ _ _ (by simp; done)) | (with_reducible apply blk_st2) | (with_reducible apply blk_st4) | (with_reducible apply blk_st6) | (with_reducible apply blk_far (hne := by first | (with_reducible assumption) | omega)) | (with_reducible apply blk_up (hb := by assumption)) | (with_reducible apply Blk.alloc)))
  clear hW1
  try clear hz0
  try clear hc0
  try clear hf0
  try clear d0
  try clear z0_0
  try clear z0_1
  try clear z0_2
  try clear z0_3
  have gF1 := F1.lt
  have lF1 := Nat.le_of_lt gF1
  have gV1 := V1.lt
  have lV1 := Nat.le_of_lt gV1
  have gX1 := X1.lt
  have lX1 := Nat.le_of_lt gX1
  have gY1 := Y1.lt
  have lY1 := Nat.le_of_lt gY1
  have cV1_0 := V1.cell 0
  have cV1_1 := V1.cell 1
  have cV1_2 := V1.cell 2
  have cV1_3 := V1.cell 3
  have cV1_4 := V1.cell 4
  have cV1_5 := V1.cell 5
  simp only [List.getElem?_toArray, List.getElem?_cons_zero, List.getElem?_cons_succ] at cV1_0 cV1_1 cV1_2 cV1_3 cV1_4 cV1_5
  ((with_reducible refine (H1.out _).mono ?_); rintro e u1 ⟨rfl, d1⟩)
  obtain ⟨hz1, hc1, hf1⟩ := bcl d1 (by first | (simp; rfl) | rfl)
  have qF1 : w.heap.size < u1.heap.size := by omega
  have pF1 : w.heap.size ≤ u1.heap.size := by omega
  have qV1 : w.heap.size + 1 < u1.heap.size := by omega
  have pV1 : w.heap.size + 1 ≤ u1.heap.size := by omega
  have qX1 : w.heap.size + 1 + 1 < u1.heap.size := by omega
  have pX1 : w.heap.size + 1 + 1 ≤ u1.heap.size := by omega
  have qY1 : w.heap.size + 1 + 1 + 1 < u1.heap.size := by omega
  have pY1 : w.heap.size + 1 + 1 + 1 ≤ u1.heap.size := by omega
  go_wp2_with fail
  refine calls_letter ?_
  intro W2 hW2
  have k2 : Below w.heap.size w W2 := by
    rw [hW2]
    (repeat (first | (with_reducible assumption) | (with_reducible exact bl_refl _) | (with_reducible refine bl_alloc ?_ _) | (with_reducible refine bl_set' ?_ ?_; · (dsimp only; first | assumption | exact Nat.le_refl _ | omega)) | (with_reducible refine bl_last (by assumption) ?_)))
  have F2 : Blk W2 (w.heap.size) 23 #[.int .i64 N, .int .i64 D] := by
    rw [hW2]
    (repeat (first | (with_reducible assumption) | (with_reducible apply Blk.new) | (with_reducible exact blkAt _ _ _ _ (by simp; done)) | (with_reducible apply blk_st2) | (with_reducible apply blk_st4) | (with_reducible apply blk_st6) | (with_reducible apply blk_far (hne := by first | (with_reducible assumption) | omega)) | (with_reducible apply blk_up (hb := by assumption)) | (with_reducible apply Blk.alloc)))
  have V2 : Blk W2 (w.heap.size + 1) 25 #[.int .i64 v0, .int .i64 v1, .int .i64 v2, .int .i64 v3, .int .i64 v4, .int .i64 v5] := by
    rw [hW2]
    (repeat (first | (with_reducible assumption) | (with_reducible apply Blk.new) | (with_reducible exact blkAt _ _ _ _ (by simp; done)) | (with_reducible apply blk_st2) | (with_reducible apply blk_st4) | (with_reducible apply blk_st6) | (with_reducible apply blk_far (hne := by first | (with_reducible assumption) | omega)) | (with_reducible apply blk_up (hb := by assumption)) | (with_reducible apply Blk.alloc)))
  have X2 : Blk W2 (w.heap.size + 1 + 1) 28 #[.int .i64 x0, .int .i64 x1, .int .i64 x2, .int .i64 x3, .int .i64 x4, .int .i64 x5] := by
    rw [hW2]
    (repeat (first | (with_reducible assumption) | (with_reducible apply Blk.new) | (with_reducible exact blkAt _ _ _ _ (by simp; done)) | (with_reducible apply blk_st2) | (with_reducible apply blk_st4) | (with_reducible apply blk_st6) | (with_reducible apply blk_far (hne := by first | (with_reducible assumption) | omega)) | (with_reducible apply blk_up (hb := by assumption)) | (with_reducible apply Blk.alloc)))
  have Y2 : Blk W2 (w.heap.size + 1 + 1 + 1) 28 #[.int .i64 y0, .int .i64 y1, .int .i64 y2, .int .i64 y3, .int .i64 y4, .int .i64 y5] := by
    rw [hW2]
    (repeat (first | (with_reducible assumption) | (with_reducible apply Blk.new) | (with_reducible exact blkAt _ _ _ _ (by simp; done)) | (with_reducible apply blk_st2) | (with_reducible apply blk_st4) | (with_reducible apply blk_st6) | (with_reducible apply blk_far (hne := by first | (with_reducible assumption) | omega)) | (with_reducible apply blk_up (hb := by assumption)) | (with_reducible apply Blk.alloc)))
  clear hW2
  try clear qY1
  try clear pY1
  try clear qX1
  try clear pX1
  try clear qV1
  try clear pV1
  try clear qF1
  try clear pF1
  try clear hz1
  try clear hc1
  try clear hf1
  try clear d1
  try clear cV1_0
  try clear cV1_1
  try clear cV1_2
  try clear cV1_3
  try clear cV1_4
  try clear cV1_5
  try clear k1
  try clear F1
  try clear V1
  try clear X1
  try clear Y1
  try clear gF1
  try clear lF1
  try clear gV1
  try clear lV1
  try clear gX1
  try clear lX1
  try clear gY1
  try clear lY1
  have gF2 := F2.lt
  have lF2 := Nat.le_of_lt gF2
  have gV2 := V2.lt
  have lV2 := Nat.le_of_lt gV2
  have gX2 := X2.lt
  have lX2 := Nat.le_of_lt gX2
  have gY2 := Y2.lt
  have lY2 := Nat.le_of_lt gY2
  have cF2_0 := F2.cell 0
  have cF2_1 := F2.cell 1
  simp only [List.getElem?_toArray, List.getElem?_cons_zero, List.getElem?_cons_succ] at cF2_0 cF2_1
  ((with_reducible refine (H2.out _).mono ?_); rintro e u2 ⟨rfl, d2⟩)
  obtain ⟨hz2, hc2, hf2⟩ := bcl d2 (by first | (simp; rfl) | rfl)
  have qF2 : w.heap.size < u2.heap.size := by omega
  have pF2 : w.heap.size ≤ u2.heap.size := by omega
  have qV2 : w.heap.size + 1 < u2.heap.size := by omega
  have pV2 : w.heap.size + 1 ≤ u2.heap.size := by omega
  have qX2 : w.heap.size + 1 + 1 < u2.heap.size := by omega
  have pX2 : w.heap.size + 1 + 1 ≤ u2.heap.size := by omega
  have qY2 : w.heap.size + 1 + 1 + 1 < u2.heap.size := by omega
  have pY2 : w.heap.size + 1 + 1 + 1 ≤ u2.heap.size := by omega
  have oO : w.heap.size ≤ u2.heap.size := by omega
  have nFO : w.heap.size ≠ u2.heap.size := by omega
  have mFO : u2.heap.size ≠ w.heap.size := by omega
  have nVO : w.heap.size + 1 ≠ u2.heap.size := by omega
  have mVO : u2.heap.size ≠ w.heap.size + 1 := by omega
  have nXO : w.heap.size + 1 + 1 ≠ u2.heap.size := by omega
  have mXO : u2.heap.size ≠ w.heap.size + 1 + 1 := by omega
  have nYO : w.heap.size + 1 + 1 + 1 ≠ u2.heap.size := by omega
  have mYO : u2.heap.size ≠ w.heap.size + 1 + 1 + 1 := by omega
  go_wp2_with fail
  refine calls_letter ?_
  intro W3 hW3
  have k3 : Below w.heap.size w W3 := by
    rw [hW3]
    (repeat (first | (with_reducible assumption) | (with_reducible exact bl_refl _) | (with_reducible refine bl_alloc ?_ _) | (with_reducible refine bl_set' ?_ ?_; · (dsimp only; first | assumption | exact Nat.le_refl _ | omega)) | (with_reducible refine bl_last (by assumption) ?_)))
  have F3 : Blk W3 (w.heap.size) 23 #[.int .i64 N, .int .i64 D] := by
    rw [hW3]
    (repeat (first | (with_reducible assumption) | (with_reducible apply Blk.new) | (with_reducible exact blkAt _ _ _ _ (by simp; done)) | (with_reducible apply blk_st2) | (with_reducible apply blk_st4) | (with_reducible apply blk_st6) | (with_reducible apply blk_far (hne := by first | (with_reducible assumption) | omega)) | (with_reducible apply blk_up (hb := by assumption)) | (with_reducible apply Blk.alloc)))
  have V3 : Blk W3 (w.heap.size + 1) 25 #[.int .i64 v0, .int .i64 v1, .int .i64 v2, .int .i64 v3, .int .i64 v4, .int .i64 v5] := by
    rw [hW3]
    (repeat (first | (with_reducible assumption) | (with_reducible apply Blk.new) | (with_reducible exact blkAt _ _ _ _ (by simp; done)) | (with_reducible apply blk_st2) | (with_reducible apply blk_st4) | (with_reducible apply blk_st6) | (with_reducible apply blk_far (hne := by first | (with_reducible assumption) | omega)) | (with_reducible apply blk_up (hb := by assumption)) | (with_reducible apply Blk.alloc)))
  have X3 : Blk W3 (w.heap.size + 1 + 1) 28 #[.int .i64 x0, .int .i64 x1, .int .i64 x2, .int .i64 x3, .int .i64 x4, .int .i64 x5] := by
    rw [hW3]
    (repeat (first | (with_reducible assumption) | (with_reducible apply Blk.new) | (with_reducible exact blkAt _ _ _ _ (by simp; done)) | (with_reducible apply blk_st2) | (with_reducible apply blk_st4) | (with_reducible apply blk_st6) | (with_reducible apply blk_far (hne := by first | (with_reducible assumption) | omega)) | (with_reducible apply blk_up (hb := by assumption)) | (with_reducible apply Blk.alloc)))
  have Y3 : Blk W3 (w.heap.size + 1 + 1 + 1) 28 #[.int .i64 y0, .int .i64 y1, .int .i64 y2, .int .i64 y3, .int .i64 y4, .int .i64 y5] := by
    rw [hW3]
    (repeat (first | (with_reducible assumption) | (with_reducible apply Blk.new) | (with_reducible exact blkAt _ _ _ _ (by simp; done)) | (with_reducible apply blk_st2) | (with_reducible apply blk_st4) | (with_reducible apply blk_st6) | (with_reducible apply blk_far (hne := by first | (with_reducible assumption) | omega)) | (with_reducible apply blk_up (hb := by assumption)) | (with_reducible apply Blk.alloc)))
  have O3 : Blk W3 (u2.heap.size) 28 #[.int .i64 o0, .int .i64 o1, .int .i64 o2, .int .i64 o3, .int .i64 o4, .int .i64 o5] := by
    rw [hW3]
    (repeat (first | (with_reducible assumption) | (with_reducible apply Blk.new) | (with_reducible exact blkAt _ _ _ _ (by simp; done)) | (with_reducible apply blk_st2) | (with_reducible apply blk_st4) | (with_reducible apply blk_st6) | (with_reducible apply blk_far (hne := by first | (with_reducible assumption) | omega)) | (with_reducible apply blk_up (hb := by assumption)) | (with_reducible apply Blk.alloc)))
  clear hW3
  try clear qY2
  try clear pY2
  try clear qX2
  try clear pX2
  try clear qV2
  try clear pV2
  try clear qF2
  try clear pF2
  try clear hz2
  try clear hc2
  try clear hf2
  try clear d2
  try clear cF2_0
  try clear cF2_1
  try clear k2
  try clear F2
  try clear V2
  try clear X2
  try clear Y2
  try clear gF2
  try clear lF2
  try clear gV2
  try clear lV2
  try clear gX2
  try clear lX2
  try clear gY2
  try clear lY2
  have gF3 := F3.lt
  have lF3 := Nat.le_of_lt gF3
  have gV3 := V3.lt
  have lV3 := Nat.le_of_lt gV3
  have gX3 := X3.lt
  have lX3 := Nat.le_of_lt gX3
  have gY3 := Y3.lt
  have lY3 := Nat.le_of_lt gY3
  have gO3 := O3.lt
  have lO3 := Nat.le_of_lt gO3
  ((with_reducible refine (H3.out _).mono ?_); rintro e u3 ⟨rfl, d3⟩)
  obtain ⟨hz3, hc3, hf3⟩ := bcl d3 (by first | (simp; rfl) | rfl)
  have qF3 : w.heap.size < u3.heap.size := by omega
  have pF3 : w.heap.size ≤ u3.heap.size := by omega
  have qV3 : w.heap.size + 1 < u3.heap.size := by omega
  have pV3 : w.heap.size + 1 ≤ u3.heap.size := by omega
  have qX3 : w.heap.size + 1 + 1 < u3.heap.size := by omega
  have pX3 : w.heap.size + 1 + 1 ≤ u3.heap.size := by omega
  have qY3 : w.heap.size + 1 + 1 + 1 < u3.heap.size := by omega
  have pY3 : w.heap.size + 1 + 1 + 1 ≤ u3.heap.size := by omega
  have qO3 : u2.heap.size < u3.heap.size := by omega
  have pO3 : u2.heap.size ≤ u3.heap.size := by omega
  have oB : w.heap.size ≤ u3.heap.size := by omega
  have nFB : w.heap.size ≠ u3.heap.size := by omega
  have mFB : u3.heap.size ≠ w.heap.size := by omega
  have nVB : w.heap.size + 1 ≠ u3.heap.size := by omega
  have mVB : u3.heap.size ≠ w.heap.size + 1 := by omega
  have nXB : w.heap.size + 1 + 1 ≠ u3.heap.size := by omega
  have mXB : u3.heap.size ≠ w.heap.size + 1 + 1 := by omega
  have nYB : w.heap.size + 1 + 1 + 1 ≠ u3.heap.size := by omega
  have mYB : u3.heap.size ≠ w.heap.size + 1 + 1 + 1 := by omega
  have nOB : u2.heap.size ≠ u3.heap.size := by omega
  have mOB : u3.heap.size ≠ u2.heap.size := by omega
  go_upto_region 5 with fail
  refine wp_letter ?_
  intro W4 hW4
  have k4 : Below w.heap.size w W4 := by
    rw [hW4]
    (repeat (first | (with_reducible assumption) | (with_reducible exact bl_refl _) | (with_reducible refine bl_alloc ?_ _) | (with_reducible refine bl_set' ?_ ?_; · (dsimp only; first | assumption | exact Nat.le_refl _ | omega)) | (with_reducible refine bl_last (by assumption) ?_)))
  have F4 : Blk W4 (w.heap.size) 23 #[.int .i64 N, .int .i64 D] := by
    rw [hW4]
    (repeat (first | (with_reducible assumption) | (with_reducible apply Blk.new) | (with_reducible exact blkAt _ _ _ _ (by simp; done)) | (with_reducible apply blk_st2) | (with_reducible apply blk_st4) | (with_reducible apply blk_st6) | (with_reducible apply blk_far (hne := by first | (with_reducible assumption) | omega)) | (with_reducible apply blk_up (hb := by assumption)) | (with_reducible apply Blk.alloc)))
  have X4 : Blk W4 (w.heap.size + 1 + 1) 28 #[.int .i64 x0, .int .i64 x1, .int .i64 x2, .int .i64 x3, .int .i64 x4, .int .i64 x5] := by
    rw [hW4]
    (repeat (first | (with_reducible assumption) | (with_reducible apply Blk.new) | (with_reducible exact blkAt _ _ _ _ (by simp; done)) | (with_reducible apply blk_st2) | (with_reducible apply blk_st4) | (with_reducible apply blk_st6) | (with_reducible apply blk_far (hne := by first | (with_reducible assumption) | omega)) | (with_reducible apply blk_up (hb := by assumption)) | (with_reducible apply Blk.alloc)))
  have Y4 : Blk W4 (w.heap.size + 1 + 1 + 1) 28 #[.int .i64 y0, .int .i64 y1, .int .i64 y2, .int .i64 y3, .int .i64 y4, .int .i64 y5] := by
    rw [hW4]
    (repeat (first | (with_reducible assumption) | (with_reducible apply Blk.new) | (with_reducible exact blkAt _ _ _ _ (by simp; done)) | (with_reducible apply blk_st2) | (with_reducible apply blk_st4) | (with_reducible apply blk_st6) | (with_reducible apply blk_far (hne := by first | (with_reducible assumption) | omega)) | (with_reducible apply blk_up (hb := by assumption)) | (with_reducible apply Blk.alloc)))
  have B4 : Blk W4 (u3.heap.size) 27 #[.int .i64 b1, .int .i64 b2, .int .i64 b3, .int .i64 b4] := by
    rw [hW4]
    (repeat (first | (with_reducible assumption) | (with_reducible apply Blk.new) | (with_reducible exact blkAt _ _ _ _ (by simp; done)) | (with_reducible apply blk_st2) | (with_reducible apply blk_st4) | (with_reducible apply blk_st6) | (with_reducible apply blk_far (hne := by first | (with_reducible assumption) | omega)) | (with_reducible apply blk_up (hb := by assumption)) | (with_reducible apply Blk.alloc)))
  clear hW4
  try clear qO3
  try clear pO3
  try clear qY3
  try clear pY3
  try clear qX3
  try clear pX3
  try clear qV3
  try clear pV3
  try clear qF3
  try clear pF3
  try clear hz3
  try clear hc3
  try clear hf3
  try clear d3
  try clear k3
  try clear F3
  try clear V3
  try clear X3
  try clear Y3
  try clear O3
  try clear gF3
  try clear lF3
  try clear gV3
  try clear lV3
  try clear gX3
  try clear lX3
  try clear gY3
  try clear lY3
  try clear gO3
  try clear lO3
  have gF4 := F4.lt
  have lF4 := Nat.le_of_lt gF4
  have gX4 := X4.lt
  have lX4 := Nat.le_of_lt gX4
  have gY4 := Y4.lt
  have lY4 := Nat.le_of_lt gY4
  have gB4 := B4.lt
  have lB4 := Nat.le_of_lt gB4
  have cF4_0 := F4.cell 0
  have cF4_1 := F4.cell 1
  simp only [List.getElem?_toArray, List.getElem?_cons_zero, List.getElem?_cons_succ] at cF4_0 cF4_1
  have cB4_0 := B4.cell 0
  have cB4_1 := B4.cell 1
  have cB4_2 := B4.cell 2
  have cB4_3 := B4.cell 3
  simp only [List.getElem?_toArray, List.getElem?_cons_zero, List.getElem?_cons_succ] at cB4_0 cB4_1 cB4_2 cB4_3
  have cX4_0 := X4.cell 0
  have cX4_1 := X4.cell 1
  have cX4_2 := X4.cell 2
  have cX4_3 := X4.cell 3
  have cX4_4 := X4.cell 4
  have cX4_5 := X4.cell 5
  simp only [List.getElem?_toArray, List.getElem?_cons_zero, List.getElem?_cons_succ] at cX4_0 cX4_1 cX4_2 cX4_3 cX4_4 cX4_5
  have cY4_0 := Y4.cell 0
  have cY4_1 := Y4.cell 1
  have cY4_2 := Y4.cell 2
  have cY4_3 := Y4.cell 3
  have cY4_4 := Y4.cell 4
  have cY4_5 := Y4.cell 5
  simp only [List.getElem?_toArray, List.getElem?_cons_zero, List.getElem?_cons_succ] at cY4_0 cY4_1 cY4_2 cY4_3 cY4_4 cY4_5
  go_cut [61, 16, 18, 20] from 33 (fun u a0 a1 a2 W => u = .bool tA ∧ a0 = .int .i64 Ep ∧ a1 = .int .i64 Eo ∧ a2 = .int .i64 Eb ∧ W = W4)
  case first =>
    as_aux_lemma =>
    go_wp2
    all_goals
      go_meet
      case rel => exact ⟨by subst hA; (simp [*]; done), by (first | rfl | (simp only [*]; done) | (simp [*]; done)), by (first | rfl | (simp only [*]; done) | (simp [*]; done)), by (first | rfl | (simp only [*]; done) | (simp [*]; done)), rfl⟩
  case rest =>
  obtain ⟨rfl, rfl, rfl, rfl, hw⟩ := hcut
  rw [hw]
  clear hw
  go_upto_if 61 with fail
  go_cut [13] from 33 (fun u W => u = .bool true ∧ W = W4)
  case first =>
    as_aux_lemma =>
    clear hA
    cases tA
    · go_wp2
      go_meet
      case rel => exact ⟨rfl, rfl⟩
    · obtain ⟨⟨i1, i2, i3, i4⟩, ⟨i5, i6, i7⟩, i8, i9⟩ := HtA.out rfl
      go_wp2
      all_goals
        go_meet
        case rel => exact ⟨by (first | rfl | (simp [*]; done)), rfl⟩
  case rest =>
  obtain ⟨rfl, hw⟩ := hcut
  rw [hw]
  clear hw
  clear hA
  go_wp2_with fail
  ((with_reducible refine (H4.out _).mono ?_); rintro e u4 ⟨rfl, d4⟩)
  obtain ⟨hz4, hc4, hf4⟩ := bcl d4 (by first | (simp; rfl) | rfl)
  have qF4 : w.heap.size < u4.heap.size := by omega
  have pF4 : w.heap.size ≤ u4.heap.size := by omega
  have qX4 : w.heap.size + 1 + 1 < u4.heap.size := by omega
  have pX4 : w.heap.size + 1 + 1 ≤ u4.heap.size := by omega
  have qY4 : w.heap.size + 1 + 1 + 1 < u4.heap.size := by omega
  have pY4 : w.heap.size + 1 + 1 + 1 ≤ u4.heap.size := by omega
  have oS : w.heap.size ≤ u4.heap.size := by omega
  have nFS : w.heap.size ≠ u4.heap.size := by omega
  have mFS : u4.heap.size ≠ w.heap.size := by omega
  have nXS : w.heap.size + 1 + 1 ≠ u4.heap.size := by omega
  have mXS : u4.heap.size ≠ w.heap.size + 1 + 1 := by omega
  have nYS : w.heap.size + 1 + 1 + 1 ≠ u4.heap.size := by omega
  have mYS : u4.heap.size ≠ w.heap.size + 1 + 1 + 1 := by omega
  go_wp2_with fail
  refine calls_letter ?_
  intro W5 hW5
  have k5 : Below w.heap.size w W5 := by
    rw [hW5]
    (repeat (first | (with_reducible assumption) | (with_reducible exact bl_refl _) | (with_reducible refine bl_alloc ?_ _) | (with_reducible refine bl_set' ?_ ?_; · (dsimp only; first | assumption | exact Nat.le_refl _ | omega)) | (with_reducible refine bl_last (by assumption) ?_)))
  have F5 : Blk W5 (w.heap.size) 23 #[.int .i64 N, .int .i64 D] := by
    rw [hW5]
    (repeat (first | (with_reducible assumption) | (with_reducible apply Blk.new) | (with_reducible exact blkAt _ _ _ _ (by simp; done)) | (with_reducible apply blk_st2) | (with_reducible apply blk_st4) | (with_reducible apply blk_st6) | (with_reducible apply blk_far (hne := by first | (with_reducible assumption) | omega)) | (with_reducible apply blk_up (hb := by assumption)) | (with_reducible apply Blk.alloc)))
  have X5 : Blk W5 (w.heap.size + 1 + 1) 28 #[.int .i64 x0, .int .i64 x1, .int .i64 x2, .int .i64 x3, .int .i64 x4, .int .i64 x5] := by
    rw [hW5]
    (repeat (first | (with_reducible assumption) | (with_reducible apply Blk.new) | (with_reducible exact blkAt _ _ _ _ (by simp; done)) | (with_reducible apply blk_st2) | (with_reducible apply blk_st4) | (with_reducible apply blk_st6) | (with_reducible apply blk_far (hne := by first | (with_reducible assumption) | omega)) | (with_reducible apply blk_up (hb := by assumption)) | (with_reducible apply Blk.alloc)))
  have Y5 : Blk W5 (w.heap.size + 1 + 1 + 1) 28 #[.int .i64 y0, .int .i64 y1, .int .i64 y2, .int .i64 y3, .int .i64 y4, .int .i64 y5] := by
    rw [hW5]
    (repeat (first | (with_reducible assumption) | (with_reducible apply Blk.new) | (with_reducible exact blkAt _ _ _ _ (by simp; done)) | (with_reducible apply blk_st2) | (with_reducible apply blk_st4) | (with_reducible apply blk_st6) | (with_reducible apply blk_far (hne := by first | (with_reducible assumption) | omega)) | (with_reducible apply blk_up (hb := by assumption)) | (with_reducible apply Blk.alloc)))
  have S5 : Blk W5 (u4.heap.size) 27 #[.int .i64 s1, .int .i64 s2, .int .i64 s3, .int .i64 s4] := by
    rw [hW5]
    (repeat (first | (with_reducible assumption) | (with_reducible apply Blk.new) | (with_reducible exact blkAt _ _ _ _ (by simp; done)) | (with_reducible apply blk_st2) | (with_reducible apply blk_st4) | (with_reducible apply blk_st6) | (with_reducible apply blk_far (hne := by first | (with_reducible assumption) | omega)) | (with_reducible apply blk_up (hb := by assumption)) | (with_reducible apply Blk.alloc)))
  clear hW5
  try clear qY4
  try clear pY4
  try clear qX4
  try clear pX4
  try clear qF4
  try clear pF4
  try clear hz4
  try clear hc4
  try clear hf4
  try clear d4
  try clear cY4_0
  try clear cY4_1
  try clear cY4_2
  try clear cY4_3
  try clear cY4_4
  try clear cY4_5
  try clear cX4_0
  try clear cX4_1
  try clear cX4_2
  try clear cX4_3
  try clear cX4_4
  try clear cX4_5
  try clear cB4_0
  try clear cB4_1
  try clear cB4_2
  try clear cB4_3
  try clear cF4_0
  try clear cF4_1
  try clear k4
  try clear F4
  try clear X4
  try clear Y4
  try clear B4
  try clear gF4
  try clear lF4
  try clear gX4
  try clear lX4
  try clear gY4
  try clear lY4
  try clear gB4
  try clear lB4
  have gF5 := F5.lt
  have lF5 := Nat.le_of_lt gF5
  have gX5 := X5.lt
  have lX5 := Nat.le_of_lt gX5
  have gY5 := Y5.lt
  have lY5 := Nat.le_of_lt gY5
  have gS5 := S5.lt
  have lS5 := Nat.le_of_lt gS5
  have cX5_0 := X5.cell 0
  have cX5_1 := X5.cell 1
  have cX5_2 := X5.cell 2
  have cX5_3 := X5.cell 3
  have cX5_4 := X5.cell 4
  have cX5_5 := X5.cell 5
  simp only [List.getElem?_toArray, List.getElem?_cons_zero, List.getElem?_cons_succ] at cX5_0 cX5_1 cX5_2 cX5_3 cX5_4 cX5_5
  have cY5_0 := Y5.cell 0
  have cY5_1 := Y5.cell 1
  have cY5_2 := Y5.cell 2
  have cY5_3 := Y5.cell 3
  have cY5_4 := Y5.cell 4
  have cY5_5 := Y5.cell 5
  simp only [List.getElem?_toArray, List.getElem?_cons_zero, List.getElem?_cons_succ] at cY5_0 cY5_1 cY5_2 cY5_3 cY5_4 cY5_5
  ((with_reducible refine (H5.out _).mono ?_); rintro e u5 ⟨rfl, d5⟩)
  obtain ⟨hz5, hc5, hf5⟩ := bcl d5 (by first | (simp; rfl) | rfl)
  have qF5 : w.heap.size < u5.heap.size := by omega
  have pF5 : w.heap.size ≤ u5.heap.size := by omega
  have qX5 : w.heap.size + 1 + 1 < u5.heap.size := by omega
  have pX5 : w.heap.size + 1 + 1 ≤ u5.heap.size := by omega
  have qY5 : w.heap.size + 1 + 1 + 1 < u5.heap.size := by omega
  have pY5 : w.heap.size + 1 + 1 + 1 ≤ u5.heap.size := by omega
  have qS5 : u4.heap.size < u5.heap.size := by omega
  have pS5 : u4.heap.size ≤ u5.heap.size := by omega
  have oT : w.heap.size ≤ u5.heap.size := by omega
  have nFT : w.heap.size ≠ u5.heap.size := by omega
  have mFT : u5.heap.size ≠ w.heap.size := by omega
  have nXT : w.heap.size + 1 + 1 ≠ u5.heap.size := by omega
  have mXT : u5.heap.size ≠ w.heap.size + 1 + 1 := by omega
  have nYT : w.heap.size + 1 + 1 + 1 ≠ u5.heap.size := by omega
  have mYT : u5.heap.size ≠ w.heap.size + 1 + 1 + 1 := by omega
  have nST : u4.heap.size ≠ u5.heap.size := by omega
  have mST : u5.heap.size ≠ u4.heap.size := by omega
  go_wp2_with fail
  refine calls_letter ?_
  intro W6 hW6
  have k6 : Below w.heap.size w W6 := by
    rw [hW6]
    (repeat (first | (with_reducible assumption) | (with_reducible exact bl_refl _) | (with_reducible refine bl_alloc ?_ _) | (with_reducible refine bl_set' ?_ ?_; · (dsimp only; first | assumption | exact Nat.le_refl _ | omega)) | (with_reducible refine bl_last (by assumption) ?_)))
  have F6 : Blk W6 (w.heap.size) 23 #[.int .i64 N, .int .i64 D] := by
    rw [hW6]
    (repeat (first | (with_reducible assumption) | (with_reducible apply Blk.new) | (with_reducible exact blkAt _ _ _ _ (by simp; done)) | (with_reducible apply blk_st2) | (with_reducible apply blk_st4) | (with_reducible apply blk_st6) | (with_reducible apply blk_far (hne := by first | (with_reducible assumption) | omega)) | (with_reducible apply blk_up (hb := by assumption)) | (with_reducible apply Blk.alloc)))
  have X6 : Blk W6 (w.heap.size + 1 + 1) 28 #[.int .i64 x0, .int .i64 x1, .int .i64 x2, .int .i64 x3, .int .i64 x4, .int .i64 x5] := by
    rw [hW6]
    (repeat (first | (with_reducible assumption) | (with_reducible apply Blk.new) | (with_reducible exact blkAt _ _ _ _ (by simp; done)) | (with_reducible apply blk_st2) | (with_reducible apply blk_st4) | (with_reducible apply blk_st6) | (with_reducible apply blk_far (hne := by first | (with_reducible assumption) | omega)) | (with_reducible apply blk_up (hb := by assumption)) | (with_reducible apply Blk.alloc)))
  have Y6 : Blk W6 (w.heap.size + 1 + 1 + 1) 28 #[.int .i64 y0, .int .i64 y1, .int .i64 y2, .int .i64 y3, .int .i64 y4, .int .i64 y5] := by
    rw [hW6]
    (repeat (first | (with_reducible assumption) | (with_reducible apply Blk.new) | (with_reducible exact blkAt _ _ _ _ (by simp; done)) | (with_reducible apply blk_st2) | (with_reducible apply blk_st4) | (with_reducible apply blk_st6) | (with_reducible apply blk_far (hne := by first | (with_reducible assumption) | omega)) | (with_reducible apply blk_up (hb := by assumption)) | (with_reducible apply Blk.alloc)))
  have S6 : Blk W6 (u4.heap.size) 27 #[.int .i64 s1, .int .i64 s2, .int .i64 s3, .int .i64 s4] := by
    rw [hW6]
    (repeat (first | (with_reducible assumption) | (with_reducible apply Blk.new) | (with_reducible exact blkAt _ _ _ _ (by simp; done)) | (with_reducible apply blk_st2) | (with_reducible apply blk_st4) | (with_reducible apply blk_st6) | (with_reducible apply blk_far (hne := by first | (with_reducible assumption) | omega)) | (with_reducible apply blk_up (hb := by assumption)) | (with_reducible apply Blk.alloc)))
  have T6 : Blk W6 (u5.heap.size) 27 #[.int .i64 t1, .int .i64 t2, .int .i64 t3, .int .i64 t4] := by
    rw [hW6]
    (repeat (first | (with_reducible assumption) | (with_reducible apply Blk.new) | (with_reducible exact blkAt _ _ _ _ (by simp; done)) | (with_reducible apply blk_st2) | (with_reducible apply blk_st4) | (with_reducible apply blk_st6) | (with_reducible apply blk_far (hne := by first | (with_reducible assumption) | omega)) | (with_reducible apply blk_up (hb := by assumption)) | (with_reducible apply Blk.alloc)))
  clear hW6
  try clear qS5
  try clear pS5
  try clear qY5
  try clear pY5
  try clear qX5
  try clear pX5
  try clear qF5
  try clear pF5
  try clear hz5
  try clear hc5
  try clear hf5
  try clear d5
  try clear cY5_0
  try clear cY5_1
  try clear cY5_2
  try clear cY5_3
  try clear cY5_4
  try clear cY5_5
  try clear cX5_0
  try clear cX5_1
  try clear cX5_2
  try clear cX5_3
  try clear cX5_4
  try clear cX5_5
  try clear k5
  try clear F5
  try clear X5
  try clear Y5
  try clear S5
  try clear gF5
  try clear lF5
  try clear gX5
  try clear lX5
  try clear gY5
  try clear lY5
  try clear gS5
  try clear lS5
  have gF6 := F6.lt
  have lF6 := Nat.le_of_lt gF6
  have gX6 := X6.lt
  have lX6 := Nat.le_of_lt gX6
  have gY6 := Y6.lt
  have lY6 := Nat.le_of_lt gY6
  have gS6 := S6.lt
  have lS6 := Nat.le_of_lt gS6
  have gT6 := T6.lt
  have lT6 := Nat.le_of_lt gT6
  ((with_reducible refine (H6.out _).mono ?_); rintro e u6 ⟨rfl, d6⟩)
  obtain ⟨hz6, hc6, hf6⟩ := bcl d6 (by first | (simp; rfl) | rfl)
  have qF6 : w.heap.size < u6.heap.size := by omega
  have pF6 : w.heap.size ≤ u6.heap.size := by omega
  have qX6 : w.heap.size + 1 + 1 < u6.heap.size := by omega
  have pX6 : w.heap.size + 1 + 1 ≤ u6.heap.size := by omega
  have qY6 : w.heap.size + 1 + 1 + 1 < u6.heap.size := by omega
  have pY6 : w.heap.size + 1 + 1 + 1 ≤ u6.heap.size := by omega
  have qS6 : u4.heap.size < u6.heap.size := by omega
  have pS6 : u4.heap.size ≤ u6.heap.size := by omega
  have qT6 : u5.heap.size < u6.heap.size := by omega
  have pT6 : u5.heap.size ≤ u6.heap.size := by omega
  go_upto_region 10 with fail
  refine wp_letter ?_
  intro W7 hW7
  have k7 : Below w.heap.size w W7 := by
    rw [hW7]
    (repeat (first | (with_reducible assumption) | (with_reducible exact bl_refl _) | (with_reducible refine bl_alloc ?_ _) | (with_reducible refine bl_set' ?_ ?_; · (dsimp only; first | assumption | exact Nat.le_refl _ | omega)) | (with_reducible refine bl_last (by assumption) ?_)))
  have F7 : Blk W7 (w.heap.size) 23 #[.int .i64 N, .int .i64 D] := by
    rw [hW7]
    (repeat (first | (with_reducible assumption) | (with_reducible apply Blk.new) | (with_reducible exact blkAt _ _ _ _ (by simp; done)) | (with_reducible apply blk_st2) | (with_reducible apply blk_st4) | (with_reducible apply blk_st6) | (with_reducible apply blk_far (hne := by first | (with_reducible assumption) | omega)) | (with_reducible apply blk_up (hb := by assumption)) | (with_reducible apply Blk.alloc)))
  have X7 : Blk W7 (w.heap.size + 1 + 1) 28 #[.int .i64 x0, .int .i64 x1, .int .i64 x2, .int .i64 x3, .int .i64 x4, .int .i64 x5] := by
    rw [hW7]
    (repeat (first | (with_reducible assumption) | (with_reducible apply Blk.new) | (with_reducible exact blkAt _ _ _ _ (by simp; done)) | (with_reducible apply blk_st2) | (with_reducible apply blk_st4) | (with_reducible apply blk_st6) | (with_reducible apply blk_far (hne := by first | (with_reducible assumption) | omega)) | (with_reducible apply blk_up (hb := by assumption)) | (with_reducible apply Blk.alloc)))
  have S7 : Blk W7 (u4.heap.size) 27 #[.int .i64 s1, .int .i64 s2, .int .i64 s3, .int .i64 s4] := by
    rw [hW7]
    (repeat (first | (with_reducible assumption) | (with_reducible apply Blk.new) | (with_reducible exact blkAt _ _ _ _ (by simp; done)) | (with_reducible apply blk_st2) | (with_reducible apply blk_st4) | (with_reducible apply blk_st6) | (with_reducible apply blk_far (hne := by first | (with_reducible assumption) | omega)) | (with_reducible apply blk_up (hb := by assumption)) | (with_reducible apply Blk.alloc)))
  have T7 : Blk W7 (u5.heap.size) 27 #[.int .i64 t1, .int .i64 t2, .int .i64 t3, .int .i64 t4] := by
    rw [hW7]
    (repeat (first | (with_reducible assumption) | (with_reducible apply Blk.new) | (with_reducible exact blkAt _ _ _ _ (by simp; done)) | (with_reducible apply blk_st2) | (with_reducible apply blk_st4) | (with_reducible apply blk_st6) | (with_reducible apply blk_far (hne := by first | (with_reducible assumption) | omega)) | (with_reducible apply blk_up (hb := by assumption)) | (with_reducible apply Blk.alloc)))
  clear hW7
  try clear qT6
  try clear pT6
  try clear qS6
  try clear pS6
  try clear qY6
  try clear pY6
  try clear qX6
  try clear pX6
  try clear qF6
  try clear pF6
  try clear hz6
  try clear hc6
  try clear hf6
  try clear d6
  try clear k6
  try clear F6
  try clear X6
  try clear Y6
  try clear S6
  try clear T6
  try clear gF6
  try clear lF6
  try clear gX6
  try clear lX6
  try clear gY6
  try clear lY6
  try clear gS6
  try clear lS6
  try clear gT6
  try clear lT6
  have gF7 := F7.lt
  have lF7 := Nat.le_of_lt gF7
  have gX7 := X7.lt
  have lX7 := Nat.le_of_lt gX7
  have gS7 := S7.lt
  have lS7 := Nat.le_of_lt gS7
  have gT7 := T7.lt
  have lT7 := Nat.le_of_lt gT7
  have cS7_0 := S7.cell 0
  have cS7_1 := S7.cell 1
  have cS7_2 := S7.cell 2
  have cS7_3 := S7.cell 3
  simp only [List.getElem?_toArray, List.getElem?_cons_zero, List.getElem?_cons_succ] at cS7_0 cS7_1 cS7_2 cS7_3
  have cT7_0 := T7.cell 0
  have cT7_1 := T7.cell 1
  have cT7_2 := T7.cell 2
  have cT7_3 := T7.cell 3
  simp only [List.getElem?_toArray, List.getElem?_cons_zero, List.getElem?_cons_succ] at cT7_0 cT7_1 cT7_2 cT7_3
  go_cut [134, 22, 24, 25, 26] from 33 (fun u a0 a1 a2 a3 W => u = .bool tB ∧ a0 = .int .i64 Es ∧ a1 = .int .i64 Et ∧ a2 = .int .i64 c ∧ a3 = .int .i64 k ∧ W = W7)
  case first =>
    as_aux_lemma =>
    go_wp2
    all_goals
      go_meet
      case rel => exact ⟨by subst hB; (simp [*]; done), by (first | rfl | (simp only [*]; done) | (simp [*]; done)), by (first | rfl | (simp only [*]; done) | (simp [*]; done)), by (first | rfl | (simp only [*]; done) | (simp [*]; done)), by (first | rfl | (simp only [*]; done) | (simp [*]; done)), rfl⟩
  case rest =>
  obtain ⟨rfl, rfl, rfl, rfl, rfl, hw⟩ := hcut
  rw [hw]
  clear hw
  go_upto_if 134 with fail
  go_cut [13] from 33 (fun u W => u = .bool true ∧ Below W7.heap.size W7 W)
  case first =>
    as_aux_lemma =>
    clear hB
    cases tB
    · go_wp2
      go_meet
      case rel => exact ⟨rfl, bl_refl _⟩
    · obtain ⟨⟨rfl, i2⟩, rfl, i4⟩ := HtB.out rfl
      go_wp2_with (first | (go_at_call 30; ((with_reducible refine (H7.out _).mono ?_); rintro e w' ⟨rfl, hb⟩; obtain ⟨hz, hc, hf⟩ := bcl hb (by first | (simp; rfl) | rfl))) | (go_at_call 30; ((with_reducible refine (H8.out _).mono ?_); rintro e w' ⟨rfl, hb⟩; obtain ⟨hz, hc, hf⟩ := bcl hb (by first | (simp; rfl) | rfl))))
      all_goals
        go_meet
        case rel => exact ⟨by (first | rfl | (simp [*]; done)), by (repeat (first | (with_reducible exact bl_refl _) | (with_reducible refine bl_drew ?_) | (with_reducible refine bl_alloc ?_ _) | (with_reducible refine bl_set' ?_ ?_; · (first | omega | (simp; done) | (simp; omega))) | (with_reducible refine bl_last (by assumption) ?_) | (with_reducible refine bl_drewN ?_ _)))⟩
  case rest =>
  obtain ⟨rfl, hbw⟩ := hcut
  clear hB
  go_upto_region 14 with fail
  refine wp_letter ?_
  intro W8 hW8
  have k8 : Below w.heap.size w W8 := by
    rw [hW8]
    (repeat (first | (with_reducible assumption) | (with_reducible exact bl_refl _) | (with_reducible refine bl_alloc ?_ _) | (with_reducible refine bl_set' ?_ ?_; · (dsimp only; first | assumption | exact Nat.le_refl _ | omega)) | (with_reducible refine bl_last (by assumption) ?_)))
  have F8 : Blk W8 (w.heap.size) 23 #[.int .i64 N, .int .i64 D] := by
    rw [hW8]
    (repeat (first | (with_reducible assumption) | (with_reducible apply Blk.new) | (with_reducible exact blkAt _ _ _ _ (by simp; done)) | (with_reducible apply blk_st2) | (with_reducible apply blk_st4) | (with_reducible apply blk_st6) | (with_reducible apply blk_far (hne := by first | (with_reducible assumption) | omega)) | (with_reducible apply blk_up (hb := by assumption)) | (with_reducible apply Blk.alloc)))
  have X8 : Blk W8 (w.heap.size + 1 + 1) 28 #[.int .i64 x0, .int .i64 x1, .int .i64 x2, .int .i64 x3, .int .i64 x4, .int .i64 x5] := by
    rw [hW8]
    (repeat (first | (with_reducible assumption) | (with_reducible apply Blk.new) | (with_reducible exact blkAt _ _ _ _ (by simp; done)) | (with_reducible apply blk_st2) | (with_reducible apply blk_st4) | (with_reducible apply blk_st6) | (with_reducible apply blk_far (hne := by first | (with_reducible assumption) | omega)) | (with_reducible apply blk_up (hb := by assumption)) | (with_reducible apply Blk.alloc)))
  have S8 : Blk W8 (u4.heap.size) 27 #[.int .i64 s1, .int .i64 s2, .int .i64 s3, .int .i64 s4] := by
    rw [hW8]
    (repeat (first | (with_reducible assumption) | (with_reducible apply Blk.new) | (with_reducible exact blkAt _ _ _ _ (by simp; done)) | (with_reducible apply blk_st2) | (with_reducible apply blk_st4) | (with_reducible apply blk_st6) | (with_reducible apply blk_far (hne := by first | (with_reducible assumption) | omega)) | (with_reducible apply blk_up (hb := by assumption)) | (with_reducible apply Blk.alloc)))
  clear hW8
  try clear cT7_0
  try clear cT7_1
  try clear cT7_2
  try clear cT7_3
  try clear cS7_0
  try clear cS7_1
  try clear cS7_2
  try clear cS7_3
  try clear k7
  try clear F7
  try clear X7
  try clear S7
  try clear T7
  try clear gF7
  try clear lF7
  try clear gX7
  try clear lX7
  try clear gS7
  try clear lS7
  try clear gT7
  try clear lT7
  have gF8 := F8.lt
  have lF8 := Nat.le_of_lt gF8
  have gX8 := X8.lt
  have lX8 := Nat.le_of_lt gX8
  have gS8 := S8.lt
  have lS8 := Nat.le_of_lt gS8
  have cF8_0 := F8.cell 0
  have cF8_1 := F8.cell 1
  simp only [List.getElem?_toArray, List.getElem?_cons_zero, List.getElem?_cons_succ] at cF8_0 cF8_1
  have cX8_0 := X8.cell 0
  have cX8_1 := X8.cell 1
  have cX8_2 := X8.cell 2
  have cX8_3 := X8.cell 3
  have cX8_4 := X8.cell 4
  have cX8_5 := X8.cell 5
  simp only [List.getElem?_toArray, List.getElem?_cons_zero, List.getElem?_cons_succ] at cX8_0 cX8_1 cX8_2 cX8_3 cX8_4 cX8_5
  have cS8_0 := S8.cell 0
  have cS8_1 := S8.cell 1
  have cS8_2 := S8.cell 2
  have cS8_3 := S8.cell 3
  simp only [List.getElem?_toArray, List.getElem?_cons_zero, List.getElem?_cons_succ] at cS8_0 cS8_1 cS8_2 cS8_3
  obtain ⟨tC, hC⟩ : ∃ tC : Bool, ((Es != 0) || decide (d < 1) || decide (1000000 < d) || (n == 0)) = tC := ⟨_, rfl⟩
  go_cut [181, 22, 4, 5] from 33 (fun u a0 a1 a2 W => u = .bool tC ∧ a0 = .int .i64 Es ∧ a1 = .int .i64 d ∧ a2 = .int .u8 n ∧ W = W8)
  case first =>
    as_aux_lemma =>
    go_wp2
    all_goals
      go_meet
      case rel => exact ⟨by subst hC; (simp [*]; done), by (first | rfl | (simp only [*]; done) | (simp [*]; done)), by (first | rfl | (simp only [*]; done) | (simp [*]; done)), by (first | rfl | (simp only [*]; done) | (simp [*]; done)), rfl⟩
  case rest =>
  obtain ⟨rfl, rfl, rfl, rfl, hw⟩ := hcut
  rw [hw]
  clear hw
  cases tC
  case true =>
    as_aux_lemma =>
    go_wp2
    go_ret
    exact ⟨rfl, k8⟩
  simp only [Bool.or_eq_false_iff, bne_eq_false_iff_eq, decide_eq_false_iff_not, beq_eq_false_iff_ne] at hC
  obtain ⟨⟨⟨e1, e2⟩, e3⟩, e4⟩ := hC
  have c1 : IntKind.i64.wrap n = n := by rw [IntKind.wrap_i64]; omega
  have c2 : IntKind.i64.wrap (d * n) = d * n := by
    have h1 : 0 ≤ d * n := Int.mul_nonneg (by omega) hn1
    have h2 : d * n ≤ 1000000 * 255 := Int.mul_le_mul (by omega) hn2 hn1 (by omega)
    rw [IntKind.wrap_i64]; omega
  by_cases e5 : Ez = 0
  case neg =>
    as_aux_lemma =>
    have e6 : (Ez != 0) = true := by simpa using e5
    go_wp2_with fail
    ((with_reducible refine (H10.out _).mono ?_); rintro e u9 ⟨rfl, d9⟩)
    obtain ⟨hz9, hc9, hf9⟩ := bcl d9 (by first | (simp; rfl) | rfl)
    go_wp2
    go_ret
    refine ⟨rfl, bl_trans k8 ?_⟩
    (repeat (first | (with_reducible exact bl_refl _) | (with_reducible refine bl_drew ?_) | (with_reducible refine bl_alloc ?_ _) | (with_reducible refine bl_set' ?_ ?_; · (first | omega | (simp; done) | (simp; omega))) | (with_reducible refine bl_last (by assumption) ?_) | (with_reducible refine bl_drewN ?_ _)))
  obtain ⟨rfl, rfl⟩ := HC.out e1 e5 e4
  subst e5
  go_wp2_with fail
  ((with_reducible refine (H10.out _).mono ?_); rintro e u8 ⟨rfl, d8⟩)
  obtain ⟨hz8, hc8, hf8⟩ := bcl d8 (by first | (simp; rfl) | rfl)
  have qF8 : w.heap.size < u8.heap.size := by omega
  have pF8 : w.heap.size ≤ u8.heap.size := by omega
  have qX8 : w.heap.size + 1 + 1 < u8.heap.size := by omega
  have pX8 : w.heap.size + 1 + 1 ≤ u8.heap.size := by omega
  have qS8 : u4.heap.size < u8.heap.size := by omega
  have pS8 : u4.heap.size ≤ u8.heap.size := by omega
  have oZ : w.heap.size ≤ u8.heap.size := by omega
  have nFZ : w.heap.size ≠ u8.heap.size := by omega
  have mFZ : u8.heap.size ≠ w.heap.size := by omega
  have nXZ : w.heap.size + 1 + 1 ≠ u8.heap.size := by omega
  have mXZ : u8.heap.size ≠ w.heap.size + 1 + 1 := by omega
  have nSZ : u4.heap.size ≠ u8.heap.size := by omega
  have mSZ : u8.heap.size ≠ u4.heap.size := by omega
  go_wp2_with fail
  refine calls_letter ?_
  intro W9 hW9
  have k9 : Below w.heap.size w W9 := by
    rw [hW9]
    (repeat (first | (with_reducible assumption) | (with_reducible exact bl_refl _) | (with_reducible refine bl_alloc ?_ _) | (with_reducible refine bl_set' ?_ ?_; · (dsimp only; first | assumption | exact Nat.le_refl _ | omega)) | (with_reducible refine bl_last (by assumption) ?_)))
  have S9 : Blk W9 (u4.heap.size) 27 #[.int .i64 s1, .int .i64 s2, .int .i64 s3, .int .i64 s4] := by
    rw [hW9]
    (repeat (first | (with_reducible assumption) | (with_reducible apply Blk.new) | (with_reducible exact blkAt _ _ _ _ (by simp; done)) | (with_reducible apply blk_st2) | (with_reducible apply blk_st4) | (with_reducible apply blk_st6) | (with_reducible apply blk_far (hne := by first | (with_reducible assumption) | omega)) | (with_reducible apply blk_up (hb := by assumption)) | (with_reducible apply Blk.alloc)))
  have Z9 : Blk W9 (u8.heap.size) 27 #[.int .i64 z1, .int .i64 z2, .int .i64 z3, .int .i64 z4] := by
    rw [hW9]
    (repeat (first | (with_reducible assumption) | (with_reducible apply Blk.new) | (with_reducible exact blkAt _ _ _ _ (by simp; done)) | (with_reducible apply blk_st2) | (with_reducible apply blk_st4) | (with_reducible apply blk_st6) | (with_reducible apply blk_far (hne := by first | (with_reducible assumption) | omega)) | (with_reducible apply blk_up (hb := by assumption)) | (with_reducible apply Blk.alloc)))
  clear hW9
  try clear qS8
  try clear pS8
  try clear qX8
  try clear pX8
  try clear qF8
  try clear pF8
  try clear hz8
  try clear hc8
  try clear hf8
  try clear d8
  try clear cS8_0
  try clear cS8_1
  try clear cS8_2
  try clear cS8_3
  try clear cX8_0
  try clear cX8_1
  try clear cX8_2
  try clear cX8_3
  try clear cX8_4
  try clear cX8_5
  try clear cF8_0
  try clear cF8_1
  try clear k8
  try clear F8
  try clear X8
  try clear S8
  try clear gF8
  try clear lF8
  try clear gX8
  try clear lX8
  try clear gS8
  try clear lS8
  try clear hbw
  have gS9 := S9.lt
  have lS9 := Nat.le_of_lt gS9
  have gZ9 := Z9.lt
  have lZ9 := Nat.le_of_lt gZ9
  have cS9_0 := S9.cell 0
  have cS9_1 := S9.cell 1
  have cS9_2 := S9.cell 2
  have cS9_3 := S9.cell 3
  simp only [List.getElem?_toArray, List.getElem?_cons_zero, List.getElem?_cons_succ] at cS9_0 cS9_1 cS9_2 cS9_3
  have cZ9_0 := Z9.cell 0
  have cZ9_1 := Z9.cell 1
  have cZ9_2 := Z9.cell 2
  have cZ9_3 := Z9.cell 3
  simp only [List.getElem?_toArray, List.getElem?_cons_zero, List.getElem?_cons_succ] at cZ9_0 cZ9_1 cZ9_2 cZ9_3
  ((with_reducible refine (H11.out _).mono ?_); rintro e u9 ⟨rfl, d9⟩)
  obtain ⟨hz9, hc9, hf9⟩ := bcl d9 (by first | (simp; rfl) | rfl)
  have qS9 : u4.heap.size < u9.heap.size := by omega
  have pS9 : u4.heap.size ≤ u9.heap.size := by omega
  have qZ9 : u8.heap.size < u9.heap.size := by omega
  have pZ9 : u8.heap.size ≤ u9.heap.size := by omega
  go_wp2_with fail
  refine calls_letter ?_
  intro W10 hW10
  have k10 : Below w.heap.size w W10 := by
    rw [hW10]
    (repeat (first | (with_reducible assumption) | (with_reducible exact bl_refl _) | (with_reducible refine bl_alloc ?_ _) | (with_reducible refine bl_set' ?_ ?_; · (dsimp only; first | assumption | exact Nat.le_refl _ | omega)) | (with_reducible refine bl_last (by assumption) ?_)))
  have S10 : Blk W10 (u4.heap.size) 27 #[.int .i64 s1, .int .i64 s2, .int .i64 s3, .int .i64 s4] := by
    rw [hW10]
    (repeat (first | (with_reducible assumption) | (with_reducible apply Blk.new) | (with_reducible exact blkAt _ _ _ _ (by simp; done)) | (with_reducible apply blk_st2) | (with_reducible apply blk_st4) | (with_reducible apply blk_st6) | (with_reducible apply blk_far (hne := by first | (with_reducible assumption) | omega)) | (with_reducible apply blk_up (hb := by assumption)) | (with_reducible apply Blk.alloc)))
  have Z10 : Blk W10 (u8.heap.size) 27 #[.int .i64 z1, .int .i64 z2, .int .i64 z3, .int .i64 z4] := by
    rw [hW10]
    (repeat (first | (with_reducible assumption) | (with_reducible apply Blk.new) | (with_reducible exact blkAt _ _ _ _ (by simp; done)) | (with_reducible apply blk_st2) | (with_reducible apply blk_st4) | (with_reducible apply blk_st6) | (with_reducible apply blk_far (hne := by first | (with_reducible assumption) | omega)) | (with_reducible apply blk_up (hb := by assumption)) | (with_reducible apply Blk.alloc)))
  clear hW10
  try clear qZ9
  try clear pZ9
  try clear qS9
  try clear pS9
  try clear hz9
  try clear hc9
  try clear hf9
  try clear d9
  try clear cZ9_0
  try clear cZ9_1
  try clear cZ9_2
  try clear cZ9_3
  try clear cS9_0
  try clear cS9_1
  try clear cS9_2
  try clear cS9_3
  try clear k9
  try clear S9
  try clear Z9
  try clear gS9
  try clear lS9
  try clear gZ9
  try clear lZ9
  have gS10 := S10.lt
  have lS10 := Nat.le_of_lt gS10
  have gZ10 := Z10.lt
  have lZ10 := Nat.le_of_lt gZ10
  ((with_reducible refine (H12.out _).mono ?_); rintro e u10 ⟨rfl, d10⟩)
  obtain ⟨hz10, hc10, hf10⟩ := bcl d10 (by first | (simp; rfl) | rfl)
  have qS10 : u4.heap.size < u10.heap.size := by omega
  have pS10 : u4.heap.size ≤ u10.heap.size := by omega
  have qZ10 : u8.heap.size < u10.heap.size := by omega
  have pZ10 : u8.heap.size ≤ u10.heap.size := by omega
  go_wp2
  go_ret
  refine ⟨rfl, ?_⟩
  (repeat (first | (with_reducible assumption) | (with_reducible exact bl_refl _) | (with_reducible refine bl_alloc ?_ _) | (with_reducible refine bl_set' ?_ ?_; · (dsimp only; first | assumption | exact Nat.le_refl _ | omega)) | (with_reducible refine bl_last (by assumption) ?_)))
end Go.Proofs.Ythlnfjllkmielaa
