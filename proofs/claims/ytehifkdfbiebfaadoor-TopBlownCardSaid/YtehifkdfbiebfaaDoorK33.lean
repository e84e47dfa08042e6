/- Sizes: Gap, Near. -/
import Derived.Test.YtehifkdfbiebfaaDoorK32
import Derived.Test.YtehifkdfbiebfaaDoorK04
namespace Go.Proofs.YtehifkdfbiebfaaDoor
open Go Go.RowKit

def gpG (a b : Nat → Int) : Bool := pV6 a 576 && pV6 b 576
def dfF (a b : Nat → Int) (i : Nat) : Int := a i - b i
def gpL (a b : Nat → Int) : Int := if gpG a b then szL (dfF a b) 6 else 0
def gpH (a b : Nat → Int) : Int := if gpG a b then szH (dfF a b) 6 else 0
def gpE (a b : Nat → Int) : Int := if gpG a b then 0 else 1
/-- What Gap returns. -/
def gpV (a b : Nat → Int) : Value := .tuple #[.agg #[.int .i64 (gpL a b), .int .i64 (gpH a b)], .int .i64 (gpE a b)]
theorem ex6_lt {f : Nat → Int} {k : Nat} (h : k < 6) : ex6 (f 0) (f 1) (f 2) (f 3) (f 4) (f 5) k = f k := by
  rcases lt6 h with rfl | rfl | rfl | rfl | rfl | rfl <;> rfl
theorem szL_ext {f g : Nat → Int} : ∀ n, (∀ i, i < n → f i = g i) → szL f n = szL g n
  | 0, _ => rfl
  | n + 1, h => by
    show szL f n + f n * (if f n < 0 then lgH n else lgL n) = szL g n + g n * (if g n < 0 then lgH n else lgL n)
    rw [szL_ext n (fun i hi => h i (by omega)), h n (by omega)]
theorem szH_ext {f g : Nat → Int} : ∀ n, (∀ i, i < n → f i = g i) → szH f n = szH g n
  | 0, _ => rfl
  | n + 1, h => by
    show szH f n + f n * (if f n < 0 then lgL n else lgH n) = szH g n + g n * (if g n < 0 then lgL n else lgH n)
    rw [szH_ext n (fun i hi => h i (by omega)), h n (by omega)]
def gpU (a b : Nat → Int) (k i : Nat) : Int := if i < k then a i - b i else a i
set_option maxRecDepth 100000 in
set_option maxHeartbeats 8000000 in
theorem Gap_c (a b : Nat → Int) (w : World) (hg : LG w) : Calls Tryd.prog 37 #[.agg #[.int .i64 (a 0), .int .i64 (a 1), .int .i64 (a 2), .int .i64 (a 3), .int .i64 (a 4), .int .i64 (a 5)], .agg #[.int .i64 (b 0), .int .i64 (b 1), .int .i64 (b 2), .int .i64 (b 3), .int .i64 (b 4), .int .i64 (b 5)]] w (Ret (gpV a b) w) := by
  have hA := fun w => PVld_c (a 0) (a 1) (a 2) (a 3) (a 4) (a 5) w
  have hB := fun w => PVld_c (b 0) (b 1) (b 2) (b 3) (b 4) (b 5) w
  have hbad : gpG a b = false → gpV a b = .tuple #[.agg #[.int .i64 0, .int .i64 0], .int .i64 1] := fun h => by
    unfold gpV gpL gpH gpE
    rw [h]
    simp
  cases ha : pV (a 0) (a 1) (a 2) (a 3) (a 4) (a 5) 576
  · rw [hbad (by unfold gpG pV6; rw [ha, Bool.false_and])]
    rw [ha] at hA
    have HA := Lib.hid hA
    clear hA hB hbad ha
    go_enter Tryd.func37, Tryd.ntmps37
    go_wp2_with (go_at_call 80; ((with_reducible refine (HA.out _).mono ?_); rintro e w' ⟨rfl, hb⟩; obtain ⟨hz, hc, hf⟩ := bcl hb (by first | (simp; rfl) | rfl)))
    (refine bodyPost_ret (v := .tuple #[.agg #[.int .i64 0, .int .i64 0], .int .i64 1]) (by simp only [results, Tryd.results37]; go_simp) rfl ⟨rfl, ?_⟩)
    (repeat (first | (with_reducible exact bl_refl _) | (with_reducible refine bl_drew ?_) | (with_reducible refine bl_alloc ?_ _) | (with_reducible refine bl_set' ?_ ?_; · (first | omega | (simp; done) | (simp; omega))) | (with_reducible refine bl_last (by assumption) ?_) | (with_reducible refine bl_drewN ?_ _)))
  cases hb : pV (b 0) (b 1) (b 2) (b 3) (b 4) (b 5) 576
  · rw [hbad (by unfold gpG pV6; rw [hb, Bool.and_false])]
    rw [ha] at hA
    rw [hb] at hB
    have HA := Lib.hid hA
    have HB := Lib.hid hB
    clear hA hB hbad ha hb
    go_enter Tryd.func37, Tryd.ntmps37
    go_wp2_with (first | (go_at_call 80; ((with_reducible refine (HA.out _).mono ?_); rintro e w' ⟨rfl, hb⟩; obtain ⟨hz, hc, hf⟩ := bcl hb (by first | (simp; rfl) | rfl))) | (go_at_call 80; ((with_reducible refine (HB.out _).mono ?_); rintro e w' ⟨rfl, hb⟩; obtain ⟨hz, hc, hf⟩ := bcl hb (by first | (simp; rfl) | rfl))))
    (refine bodyPost_ret (v := .tuple #[.agg #[.int .i64 0, .int .i64 0], .int .i64 1]) (by simp only [results, Tryd.results37]; go_simp) rfl ⟨rfl, ?_⟩)
    (repeat (first | (with_reducible exact bl_refl _) | (with_reducible refine bl_drew ?_) | (with_reducible refine bl_alloc ?_ _) | (with_reducible refine bl_set' ?_ ?_; · (first | omega | (simp; done) | (simp; omega))) | (with_reducible refine bl_last (by assumption) ?_) | (with_reducible refine bl_drewN ?_ _)))
  have hG : gpG a b = true := by unfold gpG pV6; rw [ha, hb]; rfl
  have hV : gpV a b = .tuple #[.agg #[.int .i64 (szL (dfF a b) 6), .int .i64 (szH (dfF a b) 6)], .int .i64 0] := by
    unfold gpV gpL gpH gpE
    rw [hG]
    simp
  have HV := Lib.hid hV
  have HAb := Lib.hid (pV_six (f := a) ha)
  have HBb := Lib.hid (pV_six (f := b) hb)
  have HLG := Lib.hid hg
  rw [ha] at hA
  rw [hb] at hB
  have HA := Lib.hid hA
  have HB := Lib.hid hB
  clear hA hB hbad ha hb hG hV hg
  go_enter Tryd.func37, Tryd.ntmps37
  go_upto_region 1 with fail
  refine wp_letter ?_
  intro W1 hW1
  have B1 : Below w.heap.size w W1 := by rw [hW1]; (repeat (first | (with_reducible exact bl_refl _) | (with_reducible refine bl_drew ?_) | (with_reducible refine bl_alloc ?_ _) | (with_reducible refine bl_set' ?_ ?_; · (first | omega | (simp; done) | (simp; omega))) | (with_reducible refine bl_last (by assumption) ?_) | (with_reducible refine bl_drewN ?_ _)))
  have P1 : Blk W1 w.heap.size 72 (cell6 a) := by rw [hW1]; exact ((Blk.new _ _ _).alloc _).alloc _
  have Q1 : Blk W1 (w.heap.size + 1) 72 (cell6 b) := by rw [hW1]; exact (blkAt _ _ _ _ (by simp)).alloc _
  have S1 : Blk W1 (w.heap.size + 1 + 1) 35 #[.int .i64 0, .int .i64 0] := by rw [hW1]; exact blkAt _ _ _ _ (by simp)
  have HB1 := Lib.hid B1
  have HP1 := Lib.hid P1
  have HQ1 := Lib.hid Q1
  have HS1 := Lib.hid S1
  have g0 := P1.cell 0
  have g1 := P1.cell 1
  have g2 := P1.cell 2
  have g3 := P1.cell 3
  have g4 := P1.cell 4
  have g5 := P1.cell 5
  have h0 := Q1.cell 0
  have h1 := Q1.cell 1
  have h2 := Q1.cell 2
  have h3 := Q1.cell 3
  have h4 := Q1.cell 4
  have h5 := Q1.cell 5
  have zp := P1.lt
  have zq := Q1.lt
  unfold cell6 at g0 g1 g2 g3 g4 g5 h0 h1 h2 h3 h4 h5
  simp only [List.getElem?_toArray, List.getElem?_cons_zero, List.getElem?_cons_succ] at g0 g1 g2 g3 g4 g5 h0 h1 h2 h3 h4 h5
  clear hW1 B1 P1 Q1 S1
  go_wp2_with fail
  (with_reducible refine (HA.out _).mono ?_)
  rintro e W2 ⟨rfl, hb2⟩
  obtain ⟨hz, hc, hf⟩ := bcl hb2 (by first | (simp; rfl) | rfl)
  go_wp2_with fail
  (with_reducible refine (HB.out _).mono ?_)
  rintro e W3 ⟨rfl, hb3⟩
  have k3 := bl_trans hb2 hb3
  have HB3 := Lib.hid (bl_trans HB1.out k3)
  have HP3 : Hid (Blk W3 w.heap.size 72 (cell6 (gpU a b 0))) := Lib.hid (HP1.out.below k3 HP1.out.lt)
  have HQ3 := Lib.hid (HQ1.out.below k3 HQ1.out.lt)
  have HS3 := Lib.hid (HS1.out.below k3 HS1.out.lt)
  clear g0 g1 g2 g3 g4 g5 h0 h1 h2 h3 h4 h5 zp zq hb2 hb3 hz hc hf k3 HB1 HP1 HQ1 HS1 HA HB
  go_wp2
  go_loopw [16] (fun y wr => ∃ k : Nat, k ≤ 6 ∧ y = .int .i64 (k : Int) ∧ Hid (Below w.heap.size w wr) ∧ Hid (Blk wr w.heap.size 72 (cell6 (gpU a b k))) ∧ Hid (Blk wr (w.heap.size + 1) 72 (cell6 b)) ∧ Hid (Blk wr (w.heap.size + 1 + 1) 35 #[.int .i64 0, .int .i64 0])) (fun y _ => 6 - (intOf y).toNat)
  case atStart => exact ⟨0, by omega, rfl, HB3, HP3, HQ3, HS3⟩
  case round =>
    clear HB3 HP3 HQ3 HS3
    obtain ⟨k, hk, rfl, HBr, HPr, HQr, HSr⟩ := hrel
    by_cases hlt : k < 6
    · have hki : (k : Int) < 6 := by omega
      have e8 : IntKind.i64.wrap ((k : Int) + 1) = ((k + 1 : Nat) : Int) := by rw [IntKind.wrap_i64]; omega
      have cP := (HPr.out.cell k).trans (cell6_get _ hlt)
      have fP := HPr.out.frozen k
      have zP := HPr.out.lt
      have cQ := (HQr.out.cell k).trans (cell6_get _ hlt)
      have zQ := HQr.out.lt
      have a1 := HAb.out k hlt
      have b1 := HBb.out k hlt
      have hu : gpU a b k k = a k := by unfold gpU; rw [if_neg (by omega)]
      rw [hu] at cP
      have HN : Hid (upd6 (gpU a b k) k (a k - b k) = gpU a b (k + 1)) := Lib.hid (by
        funext i
        unfold upd6 gpU
        split
        · rename_i e
          subst e
          rw [if_pos (by omega)]
        · by_cases h : i < k
          · rw [if_pos h, if_pos (by omega)]
          · rw [if_neg h, if_neg (by omega)])
      have wv : IntKind.i64.wrap (a k - b k) = a k - b k := by rw [IntKind.wrap_i64]; omega
      clear hu
      generalize a k = x at *
      generalize b k = y at *
      go_wp2
      (refine wp_region_bl [0,1,2,3,4,5,6,7] [8] (by kernel_rfl) (by kernel_rfl) (by rfl) ?_
       simp only [pickI, pick, List.getElem?_cons_succ, List.getElem?_cons_zero]
       iterate 8 (first
         | (refine head_val (by rfl) (by first | exact wanted_free rfl | rfl) ?_
            apply Exists.intro
            refine ⟨fun X hX => ?_, ?_⟩
            · (obtain ⟨qz, qc, qf⟩ := bcl hX.out (by first | (simp; rfl) | rfl)
               go_simp
               first | done | rfl | exact ⟨rfl, rfl⟩)
            simp only [Act.put, List.setIfInBounds_toArray, List.set_cons_zero, List.set_cons_succ])
         | (refine head_pass (by rfl) ?_
            simp only [Act.put, List.setIfInBounds_toArray, List.set_cons_zero, List.set_cons_succ]))
       refine head_nil ?_
       intro w' hw'
       have hb := hw'.out
       clear hw'
       obtain ⟨hz, hc, hf⟩ := bcl hb (by first | (simp; rfl) | rfl))
      have HB6 := Lib.hid (bl_trans HBr.out hb)
      have HP6 := Lib.hid (HPr.out.below hb HPr.out.lt)
      have HQ6 := Lib.hid (HQr.out.below hb HQr.out.lt)
      have HS6 := Lib.hid (HSr.out.below hb HSr.out.lt)
      clear hb hz hc hf cP fP zP cQ zQ HBr HPr HQr HSr
      have fP := HP6.out.frozen k
      have zP := HP6.out.lt
      have cP := (HP6.out.cell k).trans (cell6_get _ hlt)
      go_wp2
      go_roundw
      case rel => exact ⟨k + 1, by omega, by go_num, Lib.hid (bl_set' (by show w.heap.size ≤ w.heap.size; omega) HB6.out), Lib.hid (by
        have h5 := HP6.out.set_ k (.int .i64 (x - y))
        rw [cell6_set _ hlt, HN.out] at h5
        exact h5), Lib.hid (HQ6.out.far (by show w.heap.size + 1 ≠ w.heap.size; omega) _), Lib.hid (HS6.out.far (by show w.heap.size + 1 + 1 ≠ w.heap.size; omega) _)⟩
      case measure => simp [intOf]; omega
    · obtain rfl : k = 6 := by omega
      have HR : Hid (cell6 (gpU a b 6) = cell6 (dfF a b)) := Lib.hid (cell6_ext (fun i hi => if_pos hi))
      have hq := HPr.out
      rw [HR.out] at hq
      have hE := exponents_c (dfF a b 0) (dfF a b 1) (dfF a b 2) (dfF a b 3) (dfF a b 4) (dfF a b 5) wr (HLG.out.up HBr.out) (fun i hi => by
        rw [ex6_lt hi]
        have h1 := HAb.out i hi
        have h2 := HBb.out i hi
        unfold dfF
        omega)
      rw [szL_ext 6 (fun i hi => ex6_lt hi), szH_ext 6 (fun i hi => ex6_lt hi)] at hE
      have HE := Lib.hid hE
      have c0 := hq.cell 0
      have c1 := hq.cell 1
      have c2 := hq.cell 2
      have c3 := hq.cell 3
      have c4 := hq.cell 4
      have c5 := hq.cell 5
      have zq := hq.lt
      have zs := HSr.out.lt
      have f0 := HSr.out.frozen 0
      have f1 := HSr.out.frozen 1
      have d0 := HSr.out.cell 0
      have d1 := HSr.out.cell 1
      unfold cell6 at c0 c1 c2 c3 c4 c5
      simp only [List.getElem?_toArray, List.getElem?_cons_zero, List.getElem?_cons_succ] at c0 c1 c2 c3 c4 c5 d0 d1
      have hbr := HBr.out
      clear hq hE
      generalize szL (dfF a b) 6 = sl at *
      generalize szH (dfF a b) 6 = sh at *
      generalize dfF a b 0 = y0 at *
      generalize dfF a b 1 = y1 at *
      generalize dfF a b 2 = y2 at *
      generalize dfF a b 3 = y3 at *
      generalize dfF a b 4 = y4 at *
      generalize dfF a b 5 = y5 at *
      go_wp2_with (go_at_call 93; ((with_reducible refine (HE.out).mono ?_); rintro e w' ⟨rfl, hb⟩; obtain ⟨hz, hc, hf⟩ := bcl hb (by first | (simp; rfl) | rfl)))
      (refine bodyPost_ret (v := .tuple #[.agg #[.int .i64 sl, .int .i64 sh], .int .i64 0]) (by simp only [results, Tryd.results37]; go_simp) rfl ⟨by rw [HV.out], ?_⟩)
      have hb2 := bl_trans hbr hb
      (repeat (first | (with_reducible exact hb2) | (with_reducible refine bl_set' ?_ ?_; · (dsimp only; omega))))
/-- Whether a size is surely from -c to c. -/
def suN3 (l h lo hi : Int) : Int := if lo ≤ l ∧ h ≤ hi then 1 else if h < lo ∨ hi < l then -1 else 0
set_option maxRecDepth 100000 in
set_option maxHeartbeats 8000000 in
theorem surely_c (l h lo hi : Int) (w : World) : Calls Tryd.prog 121 #[.agg #[.int .i64 l, .int .i64 h], .int .i64 lo, .int .i64 hi] w (Ret (.int .i64 (suN3 l h lo hi)) w) := by
  by_cases p1 : lo ≤ l <;> by_cases p2 : h ≤ hi <;> by_cases p3 : h < lo <;> by_cases p4 : hi < l
  · skip
    have q1 : decide (lo ≤ l) = true := decide_eq_true p1
    have q2 : decide (h ≤ hi) = true := decide_eq_true p2
    have q3 : decide (h < lo) = true := decide_eq_true p3
    have q4 : decide (hi < l) = true := decide_eq_true p4
    have hr : suN3 l h lo hi = 1 := by unfold suN3; simp [p1, p2]
    rw [hr]
    clear hr p1 p2 p3 p4
    go_enter Tryd.func121, Tryd.ntmps121
    go_wp2
    go_ret
    exact ⟨rfl, by (repeat (first | (with_reducible exact bl_refl _) | (with_reducible refine bl_drew ?_) | (with_reducible refine bl_alloc ?_ _) | (with_reducible refine bl_set' ?_ ?_; · (first | omega | (simp; done) | (simp; omega))) | (with_reducible refine bl_last (by assumption) ?_) | (with_reducible refine bl_drewN ?_ _)))⟩
  · skip
    have q1 : decide (lo ≤ l) = true := decide_eq_true p1
    have q2 : decide (h ≤ hi) = true := decide_eq_true p2
    have q3 : decide (h < lo) = true := decide_eq_true p3
    have q4 : decide (hi < l) = false := decide_eq_false p4
    have hr : suN3 l h lo hi = 1 := by unfold suN3; simp [p1, p2]
    rw [hr]
    clear hr p1 p2 p3 p4
    go_enter Tryd.func121, Tryd.ntmps121
    go_wp2
    go_ret
    exact ⟨rfl, by (repeat (first | (with_reducible exact bl_refl _) | (with_reducible refine bl_drew ?_) | (with_reducible refine bl_alloc ?_ _) | (with_reducible refine bl_set' ?_ ?_; · (first | omega | (simp; done) | (simp; omega))) | (with_reducible refine bl_last (by assumption) ?_) | (with_reducible refine bl_drewN ?_ _)))⟩
  · skip
    have q1 : decide (lo ≤ l) = true := decide_eq_true p1
    have q2 : decide (h ≤ hi) = true := decide_eq_true p2
    have q3 : decide (h < lo) = false := decide_eq_false p3
    have q4 : decide (hi < l) = true := decide_eq_true p4
    have hr : suN3 l h lo hi = 1 := by unfold suN3; simp [p1, p2]
    rw [hr]
    clear hr p1 p2 p3 p4
    go_enter Tryd.func121, Tryd.ntmps121
    go_wp2
    go_ret
    exact ⟨rfl, by (repeat (first | (with_reducible exact bl_refl _) | (with_reducible refine bl_drew ?_) | (with_reducible refine bl_alloc ?_ _) | (with_reducible refine bl_set' ?_ ?_; · (first | omega | (simp; done) | (simp; omega))) | (with_reducible refine bl_last (by assumption) ?_) | (with_reducible refine bl_drewN ?_ _)))⟩
  · skip
    have q1 : decide (lo ≤ l) = true := decide_eq_true p1
    have q2 : decide (h ≤ hi) = true := decide_eq_true p2
    have q3 : decide (h < lo) = false := decide_eq_false p3
    have q4 : decide (hi < l) = false := decide_eq_false p4
    have hr : suN3 l h lo hi = 1 := by unfold suN3; simp [p1, p2]
    rw [hr]
    clear hr p1 p2 p3 p4
    go_enter Tryd.func121, Tryd.ntmps121
    go_wp2
    go_ret
    exact ⟨rfl, by (repeat (first | (with_reducible exact bl_refl _) | (with_reducible refine bl_drew ?_) | (with_reducible refine bl_alloc ?_ _) | (with_reducible refine bl_set' ?_ ?_; · (first | omega | (simp; done) | (simp; omega))) | (with_reducible refine bl_last (by assumption) ?_) | (with_reducible refine bl_drewN ?_ _)))⟩
  · skip
    have q1 : decide (lo ≤ l) = true := decide_eq_true p1
    have q2 : decide (h ≤ hi) = false := decide_eq_false p2
    have q3 : decide (h < lo) = true := decide_eq_true p3
    have q4 : decide (hi < l) = true := decide_eq_true p4
    have hr : suN3 l h lo hi = (-1) := by unfold suN3; simp [p1, p2, p3, p4]
    rw [hr]
    clear hr p1 p2 p3 p4
    go_enter Tryd.func121, Tryd.ntmps121
    go_wp2
    go_ret
    exact ⟨rfl, by (repeat (first | (with_reducible exact bl_refl _) | (with_reducible refine bl_drew ?_) | (with_reducible refine bl_alloc ?_ _) | (with_reducible refine bl_set' ?_ ?_; · (first | omega | (simp; done) | (simp; omega))) | (with_reducible refine bl_last (by assumption) ?_) | (with_reducible refine bl_drewN ?_ _)))⟩
  · skip
    have q1 : decide (lo ≤ l) = true := decide_eq_true p1
    have q2 : decide (h ≤ hi) = false := decide_eq_false p2
    have q3 : decide (h < lo) = true := decide_eq_true p3
    have q4 : decide (hi < l) = false := decide_eq_false p4
    have hr : suN3 l h lo hi = (-1) := by unfold suN3; simp [p1, p2, p3, p4]
    rw [hr]
    clear hr p1 p2 p3 p4
    go_enter Tryd.func121, Tryd.ntmps121
    go_wp2
    go_ret
    exact ⟨rfl, by (repeat (first | (with_reducible exact bl_refl _) | (with_reducible refine bl_drew ?_) | (with_reducible refine bl_alloc ?_ _) | (with_reducible refine bl_set' ?_ ?_; · (first | omega | (simp; done) | (simp; omega))) | (with_reducible refine bl_last (by assumption) ?_) | (with_reducible refine bl_drewN ?_ _)))⟩
  · skip
    have q1 : decide (lo ≤ l) = true := decide_eq_true p1
    have q2 : decide (h ≤ hi) = false := decide_eq_false p2
    have q3 : decide (h < lo) = false := decide_eq_false p3
    have q4 : decide (hi < l) = true := decide_eq_true p4
    have hr : suN3 l h lo hi = (-1) := by unfold suN3; simp [p1, p2, p3, p4]
    rw [hr]
    clear hr p1 p2 p3 p4
    go_enter Tryd.func121, Tryd.ntmps121
    go_wp2
    go_ret
    exact ⟨rfl, by (repeat (first | (with_reducible exact bl_refl _) | (with_reducible refine bl_drew ?_) | (with_reducible refine bl_alloc ?_ _) | (with_reducible refine bl_set' ?_ ?_; · (first | omega | (simp; done) | (simp; omega))) | (with_reducible refine bl_last (by assumption) ?_) | (with_reducible refine bl_drewN ?_ _)))⟩
  · skip
    have q1 : decide (lo ≤ l) = true := decide_eq_true p1
    have q2 : decide (h ≤ hi) = false := decide_eq_false p2
    have q3 : decide (h < lo) = false := decide_eq_false p3
    have q4 : decide (hi < l) = false := decide_eq_false p4
    have hr : suN3 l h lo hi = 0 := by unfold suN3; simp [p1, p2, p3, p4]
    rw [hr]
    clear hr p1 p2 p3 p4
    go_enter Tryd.func121, Tryd.ntmps121
    go_wp2
    go_ret
    exact ⟨rfl, by (repeat (first | (with_reducible exact bl_refl _) | (with_reducible refine bl_drew ?_) | (with_reducible refine bl_alloc ?_ _) | (with_reducible refine bl_set' ?_ ?_; · (first | omega | (simp; done) | (simp; omega))) | (with_reducible refine bl_last (by assumption) ?_) | (with_reducible refine bl_drewN ?_ _)))⟩
  · skip
    have q1 : decide (lo ≤ l) = false := decide_eq_false p1
    have q2 : decide (h ≤ hi) = true := decide_eq_true p2
    have q3 : decide (h < lo) = true := decide_eq_true p3
    have q4 : decide (hi < l) = true := decide_eq_true p4
    have hr : suN3 l h lo hi = (-1) := by unfold suN3; simp [p1, p2, p3, p4]
    rw [hr]
    clear hr p1 p2 p3 p4
    go_enter Tryd.func121, Tryd.ntmps121
    go_wp2
    go_ret
    exact ⟨rfl, by (repeat (first | (with_reducible exact bl_refl _) | (with_reducible refine bl_drew ?_) | (with_reducible refine bl_alloc ?_ _) | (with_reducible refine bl_set' ?_ ?_; · (first | omega | (simp; done) | (simp; omega))) | (with_reducible refine bl_last (by assumption) ?_) | (with_reducible refine bl_drewN ?_ _)))⟩
  · skip
    have q1 : decide (lo ≤ l) = false := decide_eq_false p1
    have q2 : decide (h ≤ hi) = true := decide_eq_true p2
    have q3 : decide (h < lo) = true := decide_eq_true p3
    have q4 : decide (hi < l) = false := decide_eq_false p4
    have hr : suN3 l h lo hi = (-1) := by unfold suN3; simp [p1, p2, p3, p4]
    rw [hr]
    clear hr p1 p2 p3 p4
    go_enter Tryd.func121, Tryd.ntmps121
    go_wp2
    go_ret
    exact ⟨rfl, by (repeat (first | (with_reducible exact bl_refl _) | (with_reducible refine bl_drew ?_) | (with_reducible refine bl_alloc ?_ _) | (with_reducible refine bl_set' ?_ ?_; · (first | omega | (simp; done) | (simp; omega))) | (with_reducible refine bl_last (by assumption) ?_) | (with_reducible refine bl_drewN ?_ _)))⟩
  · skip
    have q1 : decide (lo ≤ l) = false := decide_eq_false p1
    have q2 : decide (h ≤ hi) = true := decide_eq_true p2
    have q3 : decide (h < lo) = false := decide_eq_false p3
    have q4 : decide (hi < l) = true := decide_eq_true p4
    have hr : suN3 l h lo hi = (-1) := by unfold suN3; simp [p1, p2, p3, p4]
    rw [hr]
    clear hr p1 p2 p3 p4
    go_enter Tryd.func121, Tryd.ntmps121
    go_wp2
    go_ret
    exact ⟨rfl, by (repeat (first | (with_reducible exact bl_refl _) | (with_reducible refine bl_drew ?_) | (with_reducible refine bl_alloc ?_ _) | (with_reducible refine bl_set' ?_ ?_; · (first | omega | (simp; done) | (simp; omega))) | (with_reducible refine bl_last (by assumption) ?_) | (with_reducible refine bl_drewN ?_ _)))⟩
  · skip
    have q1 : decide (lo ≤ l) = false := decide_eq_false p1
    have q2 : decide (h ≤ hi) = true := decide_eq_true p2
    have q3 : decide (h < lo) = false := decide_eq_false p3
    have q4 : decide (hi < l) = false := decide_eq_false p4
    have hr : suN3 l h lo hi = 0 := by unfold suN3; simp [p1, p2, p3, p4]
    rw [hr]
    clear hr p1 p2 p3 p4
    go_enter Tryd.func121, Tryd.ntmps121
    go_wp2
    go_ret
    exact ⟨rfl, by (repeat (first | (with_reducible exact bl_refl _) | (with_reducible refine bl_drew ?_) | (with_reducible refine bl_alloc ?_ _) | (with_reducible refine bl_set' ?_ ?_; · (first | omega | (simp; done) | (simp; omega))) | (with_reducible refine bl_last (by assumption) ?_) | (with_reducible refine bl_drewN ?_ _)))⟩
  · skip
    have q1 : decide (lo ≤ l) = false := decide_eq_false p1
    have q2 : decide (h ≤ hi) = false := decide_eq_false p2
    have q3 : decide (h < lo) = true := decide_eq_true p3
    have q4 : decide (hi < l) = true := decide_eq_true p4
    have hr : suN3 l h lo hi = (-1) := by unfold suN3; simp [p1, p2, p3, p4]
    rw [hr]
    clear hr p1 p2 p3 p4
    go_enter Tryd.func121, Tryd.ntmps121
    go_wp2
    go_ret
    exact ⟨rfl, by (repeat (first | (with_reducible exact bl_refl _) | (with_reducible refine bl_drew ?_) | (with_reducible refine bl_alloc ?_ _) | (with_reducible refine bl_set' ?_ ?_; · (first | omega | (simp; done) | (simp; omega))) | (with_reducible refine bl_last (by assumption) ?_) | (with_reducible refine bl_drewN ?_ _)))⟩
  · skip
    have q1 : decide (lo ≤ l) = false := decide_eq_false p1
    have q2 : decide (h ≤ hi) = false := decide_eq_false p2
    have q3 : decide (h < lo) = true := decide_eq_true p3
    have q4 : decide (hi < l) = false := decide_eq_false p4
    have hr : suN3 l h lo hi = (-1) := by unfold suN3; simp [p1, p2, p3, p4]
    rw [hr]
    clear hr p1 p2 p3 p4
    go_enter Tryd.func121, Tryd.ntmps121
    go_wp2
    go_ret
    exact ⟨rfl, by (repeat (first | (with_reducible exact bl_refl _) | (with_reducible refine bl_drew ?_) | (with_reducible refine bl_alloc ?_ _) | (with_reducible refine bl_set' ?_ ?_; · (first | omega | (simp; done) | (simp; omega))) | (with_reducible refine bl_last (by assumption) ?_) | (with_reducible refine bl_drewN ?_ _)))⟩
  · skip
    have q1 : decide (lo ≤ l) = false := decide_eq_false p1
    have q2 : decide (h ≤ hi) = false := decide_eq_false p2
    have q3 : decide (h < lo) = false := decide_eq_false p3
    have q4 : decide (hi < l) = true := decide_eq_true p4
    have hr : suN3 l h lo hi = (-1) := by unfold suN3; simp [p1, p2, p3, p4]
    rw [hr]
    clear hr p1 p2 p3 p4
    go_enter Tryd.func121, Tryd.ntmps121
    go_wp2
    go_ret
    exact ⟨rfl, by (repeat (first | (with_reducible exact bl_refl _) | (with_reducible refine bl_drew ?_) | (with_reducible refine bl_alloc ?_ _) | (with_reducible refine bl_set' ?_ ?_; · (first | omega | (simp; done) | (simp; omega))) | (with_reducible refine bl_last (by assumption) ?_) | (with_reducible refine bl_drewN ?_ _)))⟩
  · skip
    have q1 : decide (lo ≤ l) = false := decide_eq_false p1
    have q2 : decide (h ≤ hi) = false := decide_eq_false p2
    have q3 : decide (h < lo) = false := decide_eq_false p3
    have q4 : decide (hi < l) = false := decide_eq_false p4
    have hr : suN3 l h lo hi = 0 := by unfold suN3; simp [p1, p2, p3, p4]
    rw [hr]
    clear hr p1 p2 p3 p4
    go_enter Tryd.func121, Tryd.ntmps121
    go_wp2
    go_ret
    exact ⟨rfl, by (repeat (first | (with_reducible exact bl_refl _) | (with_reducible refine bl_drew ?_) | (with_reducible refine bl_alloc ?_ _) | (with_reducible refine bl_set' ?_ ?_; · (first | omega | (simp; done) | (simp; omega))) | (with_reducible refine bl_last (by assumption) ?_) | (with_reducible refine bl_drewN ?_ _)))⟩
def nrE (a b : Nat → Int) (c : Int) : Int := if gpE a b = 0 ∧ 0 ≤ c ∧ c ≤ 2400000 then 0 else 1
def nrN (a b : Nat → Int) (c : Int) : Int := if gpE a b = 0 ∧ 0 ≤ c ∧ c ≤ 2400000 then suN3 (gpL a b) (gpH a b) (-10000 * c) (10000 * c) else 0
set_option maxRecDepth 100000 in
set_option maxHeartbeats 8000000 in
theorem Near_c (a b : Nat → Int) (c : Int) (w : World) (hg : LG w) : Calls Tryd.prog 89 #[.agg #[.int .i64 (a 0), .int .i64 (a 1), .int .i64 (a 2), .int .i64 (a 3), .int .i64 (a 4), .int .i64 (a 5)], .agg #[.int .i64 (b 0), .int .i64 (b 1), .int .i64 (b 2), .int .i64 (b 3), .int .i64 (b 4), .int .i64 (b 5)], .int .i64 c] w (Ret (.tuple #[.int .i64 (nrN a b c), .int .i64 (nrE a b c)]) w) := by
  have HGp : Hid (∀ X, Below w.heap.size w X → Calls Tryd.prog 37 #[.agg #[.int .i64 (a 0), .int .i64 (a 1), .int .i64 (a 2), .int .i64 (a 3), .int .i64 (a 4), .int .i64 (a 5)], .agg #[.int .i64 (b 0), .int .i64 (b 1), .int .i64 (b 2), .int .i64 (b 3), .int .i64 (b 4), .int .i64 (b 5)]] X (Ret (.tuple #[.agg #[.int .i64 (gpL a b), .int .i64 (gpH a b)], .int .i64 (gpE a b)]) X)) := Lib.hid (fun X hX => Gap_c a b X (hg.up hX))
  have hN : ∀ e l h : Int, gpE a b = e → gpL a b = l → gpH a b = h → nrN a b c = (if e = 0 ∧ 0 ≤ c ∧ c ≤ 2400000 then suN3 l h (-10000 * c) (10000 * c) else 0) ∧ nrE a b c = (if e = 0 ∧ 0 ≤ c ∧ c ≤ 2400000 then 0 else 1) := by
    rintro e l h rfl rfl rfl
    exact ⟨rfl, rfl⟩
  have hN := hN _ _ _ rfl rfl rfl
  have HSu := Lib.hid (fun l h lo hi w => surely_c l h lo hi w)
  clear hg
  generalize gpE a b = e at *
  generalize gpL a b = l at *
  generalize gpH a b = h at *
  rw [hN.1, hN.2]
  clear hN
  have bad : ¬ (e = 0 ∧ 0 ≤ c ∧ c ≤ 2400000) → (e ≠ 0 ∨ (e = 0 ∧ c < 0) ∨ (e = 0 ∧ 0 ≤ c ∧ 2400000 < c)) := by omega
  by_cases hok : e = 0 ∧ 0 ≤ c ∧ c ≤ 2400000
  · rw [if_pos hok, if_pos hok]
    obtain ⟨rfl, h1, h2⟩ := hok
    have q1 : decide (c < 0) = false := decide_eq_false (by omega)
    have q2 : decide (2400000 < c) = false := decide_eq_false (by omega)
    have w1 : wrap64 (-10000 * c) = -10000 * c := by unfold wrap64; omega
    have w2 : wrap64 (10000 * c) = 10000 * c := by unfold wrap64; omega
    have HS1 := Lib.hid (fun w => surely_c l h (-10000 * c) (10000 * c) w)
    rw [← w1, ← w2] at HS1
    rw [← w1, ← w2]
    have HR : Hid (suN3 l h (wrap64 (-10000 * c)) (wrap64 (10000 * c)) = suN3 l h (wrap64 (-10000 * c)) (wrap64 (10000 * c))) := Lib.hid rfl
    generalize suN3 l h (wrap64 (-10000 * c)) (wrap64 (10000 * c)) = r at *
    clear bad HSu h1 h2 w1 w2
    go_enter Tryd.func89, Tryd.ntmps89
    go_wp2_with fail
    (with_reducible refine (HGp.out _ (by (repeat (first | (with_reducible exact bl_refl _) | (with_reducible refine bl_drew ?_) | (with_reducible refine bl_alloc ?_ _) | (with_reducible refine bl_set' ?_ ?_; · (first | omega | (simp; done) | (simp; omega))) | (with_reducible refine bl_last (by assumption) ?_) | (with_reducible refine bl_drewN ?_ _))))).mono ?_)
    rintro en w2 ⟨rfl, hb2⟩
    obtain ⟨hz, hc, hf⟩ := bcl hb2 (by first | (simp; rfl) | rfl)
    go_wp2_with fail
    (with_reducible refine (HS1.out _).mono ?_)
    rintro en w3 ⟨rfl, hb3⟩
    go_wp2
    go_ret2
    exact ⟨rfl, bl_trans (bl_alloc (bl_trans (by (repeat (first | (with_reducible exact bl_refl _) | (with_reducible refine bl_drew ?_) | (with_reducible refine bl_alloc ?_ _) | (with_reducible refine bl_set' ?_ ?_; · (first | omega | (simp; done) | (simp; omega))) | (with_reducible refine bl_last (by assumption) ?_) | (with_reducible refine bl_drewN ?_ _)))) hb2) _) hb3⟩
  · rw [if_neg hok, if_neg hok]
    clear HSu
    rcases bad hok with he | ⟨rfl, h1⟩ | ⟨rfl, h1, h2⟩
    · have q0 : (e != 0) = true := by simpa using he
      clear hok bad he
      go_enter Tryd.func89, Tryd.ntmps89
      go_wp2_with fail
      (with_reducible refine (HGp.out _ (by (repeat (first | (with_reducible exact bl_refl _) | (with_reducible refine bl_drew ?_) | (with_reducible refine bl_alloc ?_ _) | (with_reducible refine bl_set' ?_ ?_; · (first | omega | (simp; done) | (simp; omega))) | (with_reducible refine bl_last (by assumption) ?_) | (with_reducible refine bl_drewN ?_ _))))).mono ?_)
      rintro en w2 ⟨rfl, hb2⟩
      obtain ⟨hz, hc, hf⟩ := bcl hb2 (by first | (simp; rfl) | rfl)
      go_wp2
      go_ret2
      exact ⟨rfl, bl_alloc (bl_trans (by (repeat (first | (with_reducible exact bl_refl _) | (with_reducible refine bl_drew ?_) | (with_reducible refine bl_alloc ?_ _) | (with_reducible refine bl_set' ?_ ?_; · (first | omega | (simp; done) | (simp; omega))) | (with_reducible refine bl_last (by assumption) ?_) | (with_reducible refine bl_drewN ?_ _)))) hb2) _⟩
    · have q1 : decide (c < 0) = true := decide_eq_true h1
      clear hok bad h1
      go_enter Tryd.func89, Tryd.ntmps89
      go_wp2_with fail
      (with_reducible refine (HGp.out _ (by (repeat (first | (with_reducible exact bl_refl _) | (with_reducible refine bl_drew ?_) | (with_reducible refine bl_alloc ?_ _) | (with_reducible refine bl_set' ?_ ?_; · (first | omega | (simp; done) | (simp; omega))) | (with_reducible refine bl_last (by assumption) ?_) | (with_reducible refine bl_drewN ?_ _))))).mono ?_)
      rintro en w2 ⟨rfl, hb2⟩
      obtain ⟨hz, hc, hf⟩ := bcl hb2 (by first | (simp; rfl) | rfl)
      go_wp2
      go_ret2
      exact ⟨rfl, bl_alloc (bl_trans (by (repeat (first | (with_reducible exact bl_refl _) | (with_reducible refine bl_drew ?_) | (with_reducible refine bl_alloc ?_ _) | (with_reducible refine bl_set' ?_ ?_; · (first | omega | (simp; done) | (simp; omega))) | (with_reducible refine bl_last (by assumption) ?_) | (with_reducible refine bl_drewN ?_ _)))) hb2) _⟩
    · have q1 : decide (c < 0) = false := decide_eq_false (by omega)
      have q2 : decide (2400000 < c) = true := decide_eq_true h2
      clear hok bad h1 h2
      go_enter Tryd.func89, Tryd.ntmps89
      go_wp2_with fail
      (with_reducible refine (HGp.out _ (by (repeat (first | (with_reducible exact bl_refl _) | (with_reducible refine bl_drew ?_) | (with_reducible refine bl_alloc ?_ _) | (with_reducible refine bl_set' ?_ ?_; · (first | omega | (simp; done) | (simp; omega))) | (with_reducible refine bl_last (by assumption) ?_) | (with_reducible refine bl_drewN ?_ _))))).mono ?_)
      rintro en w2 ⟨rfl, hb2⟩
      obtain ⟨hz, hc, hf⟩ := bcl hb2 (by first | (simp; rfl) | rfl)
      go_wp2
      go_ret2
      exact ⟨rfl, bl_alloc (bl_trans (by (repeat (first | (with_reducible exact bl_refl _) | (with_reducible refine bl_drew ?_) | (with_reducible refine bl_alloc ?_ _) | (with_reducible refine bl_set' ?_ ?_; · (first | omega | (simp; done) | (simp; omega))) | (with_reducible refine bl_last (by assumption) ?_) | (with_reducible refine bl_drewN ?_ _)))) hb2) _⟩
end Go.Proofs.YtehifkdfbiebfaaDoor
