/- Beat: Hertz. -/
import Derived.Test.YthlnfjllkmielaaBeatR
import Derived.Test.YthlnfjllkmielaaBeatE
import Derived.Test.YthlnfjllkmielaaRatQ
namespace Go.Proofs.Ythlnfjllkmielaa
open Go.RowKit

@[go_sem] theorem run_store_func {P : Program} (w : World) (a : Addr) (m : Mode) (fn : Fn) (x y : Array Value) : (store a (.func fn x y) m).run P w = stored P w a (.func fn x y) m := run_store P w a _ m rfl
theorem blkAt (w : World) (t : TypeId) (cs : Array Value) (g : Nat) (h : g = w.heap.size) : Blk (w.alloc (.cells cs t)) g t cs := by
  subst h
  exact Blk.new _ _ _
def hzVal (D R k : Nat) : Nat := (k * D) ^ 12 * R
theorem hzVal_mono {D R i j : Nat} (hR : 0 < R) (hD : 0 < D) (h : i < j) : hzVal D R i < hzVal D R j := by
  unfold hzVal
  exact Nat.mul_lt_mul_of_pos_right (Nat.pow_lt_pow_left (Nat.mul_lt_mul_of_pos_right h hD) (by omega)) hR
theorem hzVal_le {D R i j : Nat} (hR : 0 < R) (hD : 0 < D) (h : i ≤ j) : hzVal D R i ≤ hzVal D R j := by
  rcases Nat.eq_or_lt_of_le h with rfl | h
  · exact Nat.le_refl _
  · exact Nat.le_of_lt (hzVal_mono hR hD h)
/-- lo is the greatest number not above the frequency, hi the least one not below it. -/
def LoHi (D R G lo hi : Nat) : Prop := lo ≤ 1000000000 ∧ hzVal D R lo ≤ G ∧ (lo < 1000000000 → G < hzVal D R (lo + 1)) ∧ ((hzVal D R lo = G ∧ hi = lo) ∨ (hzVal D R lo < G ∧ hi = lo + 1))
theorem LoHi.same {D R G lo hi lo' hi' : Nat} (hR : 0 < R) (hD : 0 < D) (h : LoHi D R G lo hi) (h' : LoHi D R G lo' hi') : lo = lo' ∧ hi = hi' := by
  obtain ⟨a1, a2, a3, a4⟩ := h
  obtain ⟨b1, b2, b3, b4⟩ := h'
  have e : lo = lo' := by
    rcases Nat.lt_trichotomy lo lo' with g | g | g
    · have h1 := a3 (by omega)
      have h2 := hzVal_le hR hD (show lo + 1 ≤ lo' from g)
      omega
    · exact g
    · have h1 := b3 (by omega)
      have h2 := hzVal_le hR hD (show lo' + 1 ≤ lo from g)
      omega
  subst e
  exact ⟨rfl, by omega⟩
theorem hzB_false {D R G k : Nat} (h : hzB D R G k = false) : hzVal D R k < G := by
  unfold hzB hzO at h
  have h := of_decide_eq_false h
  unfold hzVal
  rcases Nat.lt_or_ge ((k * D) ^ 12 * R) G with g | g
  · exact g
  · exfalso
    apply h
    unfold ordZ
    rw [if_neg (by omega)]
    split <;> omega
theorem lohi_a {D R G r : Nat} (hr : 1000000000 < r) (s1 : ∀ i, i < r → hzB D R G i = false) : LoHi D R G 1000000000 1000000001 := by
  have h := hzB_false (s1 1000000000 hr)
  exact ⟨Nat.le_refl _, Nat.le_of_lt h, fun h => by omega, Or.inr ⟨h, rfl⟩⟩
theorem lohi_b {D R G r : Nat} (hr : r + 1 ≤ 1000000000) (s1 : ∀ i, i < r + 1 → hzB D R G i = false) (hO : 0 < hzO D R G (r + 1)) : LoHi D R G r (r + 1) := by
  have h := hzB_false (s1 r (by omega))
  have h2 : G < hzVal D R (r + 1) := by
    unfold hzO ordZ at hO
    unfold hzVal
    split at hO
    · omega
    · split at hO <;> omega
  exact ⟨by omega, Nat.le_of_lt h, fun _ => h2, Or.inr ⟨h, rfl⟩⟩
theorem lohi_c {D R G r : Nat} (hR : 0 < R) (hD : 0 < D) (hr : r ≤ 1000000000) (hO : hzO D R G r = 0) : LoHi D R G r r := by
  have h2 : hzVal D R r = G := by
    unfold hzO ordZ at hO
    unfold hzVal
    split at hO
    · omega
    · split at hO <;> omega
  exact ⟨hr, by omega, fun _ => by rw [← h2]; exact hzVal_mono hR hD (by omega), Or.inl ⟨h2, rfl⟩⟩
theorem hzO_zero {D R G : Nat} (hG : 0 < G) : hzB D R G 0 = false := by
  unfold hzB hzO
  rw [Nat.zero_mul, Nat.zero_pow (by omega), Nat.zero_mul, ordZ_lt (by omega)]
  decide
theorem hzB_mono {D R G : Nat} (hR : 0 < R) (hD : 0 < D) : ∀ i j, i ≤ j → hzB D R G i = true → hzB D R G j = true := by
  intro i j hij h
  cases e : hzB D R G j
  · have h1 := hzB_false e
    have h2 := hzVal_le (D := D) (R := R) hR hD hij
    unfold hzB at h
    have h := of_decide_eq_true h
    unfold hzO ordZ at h
    unfold hzVal at h1 h2
    rw [if_pos (by omega)] at h
    omega
  · rfl
theorem pwF_pos {b : Nat} {e : Int} (h : 0 < b) : 0 < pwF b e := by
  unfold pwF
  split
  · exact Nat.pow_pos h
  · omega
theorem prodF_pos {fb : Nat → Nat} {fe : Nat → Int} {k : Nat} (h : ∀ j, j < k → 0 < fb j) : ∀ i, i ≤ k → 0 < prodF fb fe i
  | 0, _ => by simp [prodF]
  | i + 1, hi => Nat.mul_pos (prodF_pos h i (by omega)) (pwF_pos (h i (by omega)))
theorem goal_pos {z : Nat} {a b c d e f : Int} (hz : 0 < z) : 0 < goalN z a b c d e f := prodF_pos (fun j hj => by
  rcases lt7 hj with rfl | rfl | rfl | rfl | rfl | rfl | rfl <;> simp [goB] <;> omega) 7 (Nat.le_refl _)
theorem rest_pos (a b c d e f : Int) : 0 < restN a b c d e f := prodF_pos (fun j hj => by
  rcases lt6 hj with rfl | rfl | rfl | rfl | rfl | rfl <;> simp [prm]) 6 (Nat.le_refl _)
/-- The search of Hertz. -/
theorem hz_search (F A R G br nr cr bg ng cg D r g : Nat) (w : World) (hF : w.cell? ⟨F, 0, none⟩ = some (.func (.func 51) #[] #[.pointer (some ⟨A, 0, none⟩), .pointer (some ⟨R, 0, none⟩), .pointer (some ⟨G, 0, none⟩)])) (h : HzW A R G br nr cr bg ng cg D r g w) (hD : D ≤ 100000000) (hD0 : 0 < D) (hr0 : 0 < r) (hr : r ≤ 2 ^ 9792) (hnr : nr ≤ 640) (hng : ng ≤ 640) :
    Calls Try.prog 54 #[.int .i64 1000000001, .func (.func 55) #[] #[.pointer (some ⟨F, 0, none⟩)]] w (SeaP (hzB D r g) 1000000001 w) :=
  search_c F 1000000001 (hzB D r g) w (by omega) (hzB_mono hr0 hD0) (fun W k hb hk => hertz2_c F A R G br nr cr bg ng cg D r g k W (keep_cell hb hF) (h.up hb) (by omega) hD hr hnr hng)
def hzG (N D a b c d e f k : Int) : Bool := sdV N D && (pV a b c d e f 576 && (decide (1 ≤ k) && decide (k ≤ 1000000)))
theorem hz_ways {N D a b c d e f k : Int} (h : hzG N D a b c d e f k = false) : sdV N D = false ∨ (sdV N D = true ∧ pV a b c d e f 576 = false) ∨ (sdV N D = true ∧ pV a b c d e f 576 = true ∧ k < 1) ∨ (sdV N D = true ∧ pV a b c d e f 576 = true ∧ 1 ≤ k ∧ 1000000 < k) := by
  unfold hzG at h
  cases h1 : sdV N D
  · exact Or.inl rfl
  · cases h2 : pV a b c d e f 576
    · exact Or.inr (Or.inl ⟨rfl, rfl⟩)
    · rw [h1, h2, Bool.true_and, Bool.true_and] at h
      simp at h
      by_cases h3 : k < 1
      · exact Or.inr (Or.inr (Or.inl ⟨rfl, rfl, h3⟩))
      · exact Or.inr (Or.inr (Or.inr ⟨rfl, rfl, by omega, by omega⟩))
theorem hz_of {N D a b c d e f k : Int} (h : hzG N D a b c d e f k = true) : sdV N D = true ∧ pV a b c d e f 576 = true ∧ 1 ≤ k ∧ k ≤ 1000000 := by simpa [hzG] using h
def band0 (E : Int) : Value := .tuple #[.agg #[.int .i64 0, .int .i64 0, .int .i64 0, .int .i64 0], .int .i64 E]
def bandOf (lo hi : Nat) (k : Int) : Value := .tuple #[.agg #[.int .i64 (mkN (lo : Int) k), .int .i64 (mkD (lo : Int) k), .int .i64 (mkN (hi : Int) k), .int .i64 (mkD (hi : Int) k)], .int .i64 0]
/-- What Hertz returns. -/
def HzP (N D a b c d e f k : Int) (w : World) (en : Ending) (w' : World) : Prop := Below w.heap.size w w' ∧
  ((hzG N D a b c d e f k = false ∧ en = .returned (band0 1)) ∨
    (hzG N D a b c d e f k = true ∧ ∃ lo hi : Nat, LoHi D.toNat (restN a b c d e f) (goalN (k * N).toNat a b c d e f) lo hi ∧
      ((lo < 1 ∨ 1000000000 < hi) ∧ en = .returned (band0 3) ∨ (1 ≤ lo ∧ hi ≤ 1000000000) ∧ en = .returned (bandOf lo hi k))))
set_option maxRecDepth 100000 in
set_option maxHeartbeats 4000000 in
theorem hertz_bad (N D a b c d e f k : Int) (w : World) (h : hzG N D a b c d e f k = false) :
    Calls Try.prog 24 #[.agg #[.int .i64 N, .int .i64 D], .agg #[.int .i64 a, .int .i64 b, .int .i64 c, .int .i64 d, .int .i64 e, .int .i64 f], .int .i64 k] w (HzP N D a b c d e f k w) := by
  have HG := Lib.hid h
  have HPV := Lib.hid (fun w => PVld_c a b c d e f w)
  rcases hz_ways h with h1 | ⟨h1, h2⟩ | ⟨h1, h2, h3⟩ | ⟨h1, h2, h3, h4⟩
  all_goals
    clear h
    try rw [h2] at HPV
    have HPV := Lib.hid HPV.out
    go_enter Try.func24, Try.ntmps24
    go_wp2_with (first | (go_at_call 35; ((with_reducible refine (all1_sd N D _ _ (by go_simp) (by go_simp)).mono ?_); rintro e w' ⟨rfl, hb⟩; obtain ⟨hz, hc, hf⟩ := bcl hb (by first | (simp; rfl) | rfl))) | (go_at_call 49; ((with_reducible refine (HPV.out _).mono ?_); rintro e w' ⟨rfl, hb⟩; obtain ⟨hz, hc, hf⟩ := bcl hb (by first | (simp; rfl) | rfl))))
    refine bodyPost_ret (v := .tuple #[.agg #[.int .i64 0, .int .i64 0, .int .i64 0, .int .i64 0], .int .i64 1]) (by simp only [results, Try.results24]; go_simp) rfl ⟨?_, Or.inl ⟨HG.out, rfl⟩⟩
    (repeat (first | (with_reducible exact bl_refl _) | (with_reducible refine bl_drew ?_) | (with_reducible refine bl_alloc ?_ _) | (with_reducible refine bl_set' ?_ ?_; · (first | omega | (simp; done) | (simp; omega))) | (with_reducible refine bl_last (by assumption) ?_) | (with_reducible refine bl_drewN ?_ _)))
set_option maxRecDepth 100000 in
set_option maxHeartbeats 4000000 in
theorem hertz_good (NN DD kk : Nat) (a b c d e f : Int) (w : World) (h : hzG (NN : Int) (DD : Int) a b c d e f (kk : Int) = true) :
    Calls Try.prog 24 #[.agg #[.int .i64 (NN : Int), .int .i64 (DD : Int)], .agg #[.int .i64 a, .int .i64 b, .int .i64 c, .int .i64 d, .int .i64 e, .int .i64 f], .int .i64 (kk : Int)] w (HzP (NN : Int) (DD : Int) a b c d e f (kk : Int) w) := by
  have HG := Lib.hid h
  obtain ⟨g1, g2, g3, g4⟩ := hz_of h
  obtain ⟨g5, g6⟩ := sd_of g1
  obtain ⟨g7, g8, g9, g10⟩ := rt_of g5
  have hz : kk * NN ≤ 1000000000000000 := Nat.mul_le_mul (show kk ≤ 1000000 by omega) (show NN ≤ 1000000000 by omega)
  have HP7 := Lib.hid (fun W q B => bprod7_c W q (kk * NN) a b c d e f hz g2 B)
  have HP6 := Lib.hid (fun W q B => bprod6_c W q a b c d e f g2 B)
  have HPV := Lib.hid (fun w => PVld_c a b c d e f w)
  rw [g2] at HPV
  have HPV := Lib.hid HPV.out
  have hw1 : IntKind.i64.wrap ((kk : Int) * (NN : Int)) = ((kk * NN : Nat) : Int) := by rw [IntKind.wrap_i64, ← Int.natCast_mul]; omega
  obtain ⟨p1, p2, p3, p4, p5, p6⟩ := pV_of g2
  have p1 := wi_of p1; have p2 := wi_of p2; have p3 := wi_of p3; have p4 := wi_of p4; have p5 := wi_of p5; have p6 := wi_of p6
  have HRP := Lib.hid (rest_pos a b c d e f)
  have HRL := Lib.hid (rest_le g2)
  have HGP := Lib.hid (goal_pos (z := kk * NN) (a := a) (b := b) (c := c) (d := d) (e := e) (f := f) (Nat.mul_pos (by omega) (by omega)))
  clear h g2
  have HZ : Hid (((kk : Int) * (NN : Int)).toNat = kk * NN) := Lib.hid (by rw [← Int.natCast_mul]; rfl)
  generalize kk * NN = Z at *
  go_enter Try.func24, Try.ntmps24
  go_wp2_with (first | (go_at_call 35; ((with_reducible refine (all1_sd (NN : Int) (DD : Int) _ _ (by go_simp) (by go_simp)).mono ?_); rintro e w' ⟨rfl, hb⟩; obtain ⟨hz, hc, hf⟩ := bcl hb (by first | (simp; rfl) | rfl))) | (go_at_call 49; ((with_reducible refine (HPV.out _).mono ?_); rintro e w' ⟨rfl, hb⟩; obtain ⟨hz, hc, hf⟩ := bcl hb (by first | (simp; rfl) | rfl))) | (go_at_call 50; ((with_reducible refine (HP7.out _ _ (by first | exact Blk.new _ _ _ | exact blkAt _ _ _ _ (by simp))).mono ?_); rintro e w2 ⟨hb2, b2, n2, hk2, rfl, hN2, h62⟩; obtain ⟨hz2, hc2, hf2⟩ := bcl hb2 (by first | (simp; rfl) | rfl); have hA2 : w.heap.size < w2.heap.size := (by omega); have hA2' : w.heap.size + 1 < w2.heap.size := (by omega); have hA2'' : w.heap.size + 1 + 1 < w2.heap.size := (by omega))) | (go_at_call 50; ((with_reducible refine (HP6.out _ _ (by first | exact Blk.new _ _ _ | exact blkAt _ _ _ _ (by simp))).mono ?_); rintro e w3 ⟨hb3, b3, n3, hk3, rfl, hN3, h63⟩; obtain ⟨hz3, hc3, hf3⟩ := bcl hb3 (by first | (simp; rfl) | rfl); have hA3 : w.heap.size < w3.heap.size := (by omega); have hA3' : w.heap.size + 1 < w3.heap.size := (by omega); have hA3'' : w.heap.size + 1 + 1 < w3.heap.size := (by omega); have hB3 : w2.heap.size < w3.heap.size := (by omega))))
  refine (hz_search _ w.heap.size w3.heap.size w2.heap.size b3 n3 n3 b2 n2 n2 DD _ _ _ (by go_simp) ⟨by go_simp, by go_simp, by go_simp, hN3.up (by (repeat (first | (with_reducible exact bl_refl _) | (with_reducible refine bl_drew ?_) | (with_reducible refine bl_alloc ?_ _) | (with_reducible refine bl_set' ?_ ?_; · (first | omega | (simp; done) | (simp; omega))) | (with_reducible refine bl_last (by assumption) ?_) | (with_reducible refine bl_drewN ?_ _)))), hN2.up (by (repeat (first | (with_reducible exact bl_refl _) | (with_reducible refine bl_drew ?_) | (with_reducible refine bl_alloc ?_ _) | (with_reducible refine bl_set' ?_ ?_; · (first | omega | (simp; done) | (simp; omega))) | (with_reducible refine bl_last (by assumption) ?_) | (with_reducible refine bl_drewN ?_ _))))⟩ (by omega) (by omega) HRP.out HRL.out h63 h62).mono ?_
  rintro e w4 ⟨hb4, r, hr, rfl, s1, s2⟩
  obtain ⟨hz4, hc4, hf4⟩ := bcl hb4 (by first | (simp; rfl) | rfl)
  have hA4 : w.heap.size < w4.heap.size := by omega
  have hA4' : w.heap.size + 1 < w4.heap.size := by omega
  have hA4'' : w.heap.size + 1 + 1 < w4.heap.size := by omega
  have hB4 : w2.heap.size < w4.heap.size := by omega
  have hC4 : w3.heap.size < w4.heap.size := by omega
  have hC4' : w3.heap.size + 1 < w4.heap.size := by omega
  have hr1 : 1 ≤ r := by
    rcases Nat.eq_zero_or_pos r with rfl | h
    · have h1 := s2 0 (Nat.le_refl _) (by omega)
      rw [hzO_zero HGP.out] at h1
      cases h1
    · exact h
  have HW4 : Hid (HzW w.heap.size w3.heap.size w2.heap.size b3 n3 n3 b2 n2 n2 DD (restN a b c d e f) (goalN Z a b c d e f) w4) := Lib.hid ⟨by go_simp, by go_simp, by go_simp, hN3.up (by (repeat (first | (with_reducible exact bl_refl _) | (with_reducible refine bl_drew ?_) | (with_reducible refine bl_alloc ?_ _) | (with_reducible refine bl_set' ?_ ?_; · (first | omega | (simp; done) | (simp; omega))) | (with_reducible refine bl_last (by assumption) ?_) | (with_reducible refine bl_drewN ?_ _)))), hN2.up (by (repeat (first | (with_reducible exact bl_refl _) | (with_reducible refine bl_drew ?_) | (with_reducible refine bl_alloc ?_ _) | (with_reducible refine bl_set' ?_ ?_; · (first | omega | (simp; done) | (simp; omega))) | (with_reducible refine bl_last (by assumption) ?_) | (with_reducible refine bl_drewN ?_ _))))⟩
  have hDt : ((DD : Nat) : Int).toNat = DD := rfl
  have HC := Lib.hid (fun (hr : r ≤ 1000000000) => hertz1_c w.heap.size w3.heap.size w2.heap.size b3 n3 n3 b2 n2 n2 DD (restN a b c d e f) (goalN Z a b c d e f) r w4 HW4.out hr (by omega) HRL.out h63 h62)
  have hcases : (1000000000 < r ∧ LoHi DD (restN a b c d e f) (goalN Z a b c d e f) 1000000000 1000000001) ∨
      (∃ lo, r = lo + 1 ∧ lo + 1 ≤ 1000000000 ∧ LoHi DD (restN a b c d e f) (goalN Z a b c d e f) lo (lo + 1) ∧ ∃ O : Int, 0 < O ∧ hzO DD (restN a b c d e f) (goalN Z a b c d e f) r = O) ∨
      (r ≤ 1000000000 ∧ LoHi DD (restN a b c d e f) (goalN Z a b c d e f) r r ∧ hzO DD (restN a b c d e f) (goalN Z a b c d e f) r = 0) := by
    by_cases h1 : 1000000000 < r
    · exact Or.inl ⟨h1, lohi_a h1 s1⟩
    · have h2 := s2 r (Nat.le_refl _) (by omega)
      unfold hzB at h2
      have h2 := of_decide_eq_true h2
      by_cases h3 : hzO DD (restN a b c d e f) (goalN Z a b c d e f) r = 0
      · exact Or.inr (Or.inr ⟨by omega, lohi_c HRP.out (by omega) (by omega) h3, h3⟩)
      · obtain ⟨lo, rfl⟩ : ∃ lo, r = lo + 1 := ⟨r - 1, by omega⟩
        exact Or.inr (Or.inl ⟨lo, rfl, by omega, lohi_b (by omega) s1 (by omega), _, by omega, rfl⟩)
  clear s1 s2 HW4 hN2 hN3 hDt
  rcases hcases with ⟨h1, hLH⟩ | ⟨lo, rfl, h1, hLH, O, hO, hOe⟩ | ⟨h1, hLH, hO⟩
  · have hLH' : LoHi ((DD : Nat) : Int).toNat (restN a b c d e f) (goalN ((kk : Int) * (NN : Int)).toNat a b c d e f) 1000000000 1000000001 := by rw [HZ.out]; exact hLH
    have HLH := Lib.hid hLH'
    clear hLH hLH' HC
    go_wp2
    refine bodyPost_ret (v := .tuple #[.agg #[.int .i64 0, .int .i64 0, .int .i64 0, .int .i64 0], .int .i64 3]) (by simp only [results, Try.results24]; go_simp) rfl ⟨?_, Or.inr ⟨HG.out, 1000000000, 1000000001, HLH.out, Or.inl ⟨by omega, rfl⟩⟩⟩
    (repeat (first | (with_reducible exact bl_refl _) | (with_reducible refine bl_drew ?_) | (with_reducible refine bl_alloc ?_ _) | (with_reducible refine bl_set' ?_ ?_; · (first | omega | (simp; done) | (simp; omega))) | (with_reducible refine bl_last (by assumption) ?_) | (with_reducible refine bl_drewN ?_ _)))
  · have hLH' : LoHi ((DD : Nat) : Int).toNat (restN a b c d e f) (goalN ((kk : Int) * (NN : Int)).toNat a b c d e f) lo (lo + 1) := by rw [HZ.out]; exact hLH
    have HLH := Lib.hid hLH'
    have hCC := HC.out h1
    rw [hOe] at hCC
    have hlo : lo ≤ 999999999 := by omega
    clear hr hr1 h1
    have hM1 := fun w => Make_c (lo : Int) (kk : Int) w ⟨by omega, by omega⟩ ⟨by omega, by omega⟩
    have hM2 := fun w => Make_c ((lo : Int) + 1) (kk : Int) w ⟨by omega, by omega⟩ ⟨by omega, by omega⟩
    unfold mkV at hM1 hM2
    have HX : Hid (bandOf lo (lo + 1) (kk : Int) = .tuple #[.agg #[.int .i64 (mkN (lo : Int) (kk : Int)), .int .i64 (mkD (lo : Int) (kk : Int)), .int .i64 (mkN ((lo : Int) + 1) (kk : Int)), .int .i64 (mkD ((lo : Int) + 1) (kk : Int))], .int .i64 0]) := Lib.hid rfl
    generalize mkN (lo : Int) (kk : Int) = xn at *
    generalize mkD (lo : Int) (kk : Int) = xd at *
    generalize mkE (lo : Int) (kk : Int) = xe at *
    generalize mkN ((lo : Int) + 1) (kk : Int) = yn at *
    generalize mkD ((lo : Int) + 1) (kk : Int) = yd at *
    generalize mkE ((lo : Int) + 1) (kk : Int) = ye at *
    have hC : Calls Try.prog 51 #[.int .i64 ((lo : Int) + 1), .pointer (some ⟨w.heap.size, 0, none⟩), .pointer (some ⟨w3.heap.size, 0, none⟩), .pointer (some ⟨w2.heap.size, 0, none⟩)] w4 (Ret (.int .i64 O) w4) := hCC
    have HC := Lib.hid hC
    have HM1 := Lib.hid hM1
    have HM2 := Lib.hid hM2
    clear hLH hLH' hC hCC hM1 hM2 hOe
    rw [show ((lo + 1 : Nat) : Int) = (lo : Int) + 1 from rfl]
    have hL0 : 0 ≤ (lo : Int) := by omega
    have hL1 : (lo : Int) ≤ 999999999 := by omega
    by_cases h0 : lo = 0
    · have h0' : (lo : Int) < 1 := by omega
      have H0 := Lib.hid h0
      clear h0 hlo
      generalize (lo : Int) = L at *
      go_wp2_with (first | (go_at_call 51; ((with_reducible refine (HC.out).mono ?_); rintro e w5 ⟨rfl, hb5⟩; obtain ⟨hz5, hc5, hf5⟩ := bcl hb5 (by first | (simp; rfl) | rfl); have hA5 : w.heap.size < w5.heap.size := (by omega); have hA5' : w.heap.size + 1 < w5.heap.size := (by omega); have hA5'' : w.heap.size + 1 + 1 < w5.heap.size := (by omega))))
      refine bodyPost_ret (v := .tuple #[.agg #[.int .i64 0, .int .i64 0, .int .i64 0, .int .i64 0], .int .i64 3]) (by simp only [results, Try.results24]; go_simp) rfl ⟨?_, Or.inr ⟨HG.out, lo, lo + 1, HLH.out, Or.inl ⟨by have := H0.out; omega, rfl⟩⟩⟩
      (repeat (first | (with_reducible exact bl_refl _) | (with_reducible refine bl_drew ?_) | (with_reducible refine bl_alloc ?_ _) | (with_reducible refine bl_set' ?_ ?_; · (first | omega | (simp; done) | (simp; omega))) | (with_reducible refine bl_last (by assumption) ?_) | (with_reducible refine bl_drewN ?_ _)))
    · have h0' : 1 ≤ (lo : Int) := by omega
      have H0 := Lib.hid (show 1 ≤ lo ∧ lo ≤ 999999999 from ⟨by omega, hlo⟩)
      clear h0 hlo
      generalize (lo : Int) = L at *
      go_wp2_with (first | (go_at_call 51; ((with_reducible refine (HC.out).mono ?_); rintro e w5 ⟨rfl, hb5⟩; obtain ⟨hz5, hc5, hf5⟩ := bcl hb5 (by first | (simp; rfl) | rfl); have hA5 : w.heap.size < w5.heap.size := (by omega); have hA5' : w.heap.size + 1 < w5.heap.size := (by omega); have hA5'' : w.heap.size + 1 + 1 < w5.heap.size := (by omega))) | (go_at_call 56; ((with_reducible refine (HM1.out _).mono ?_); rintro e w6 ⟨rfl, hb6⟩; obtain ⟨hz6, hc6, hf6⟩ := bcl hb6 (by first | (simp; rfl) | rfl); have hA6 : w.heap.size < w6.heap.size := (by omega); have hA6' : w.heap.size + 1 < w6.heap.size := (by omega); have hA6'' : w.heap.size + 1 + 1 < w6.heap.size := (by omega))) | (go_at_call 56; ((with_reducible refine (HM2.out _).mono ?_); rintro e w7 ⟨rfl, hb7⟩; obtain ⟨hz7, hc7, hf7⟩ := bcl hb7 (by first | (simp; rfl) | rfl); have hA7 : w.heap.size < w7.heap.size := (by omega); have hA7' : w.heap.size + 1 < w7.heap.size := (by omega); have hA7'' : w.heap.size + 1 + 1 < w7.heap.size := (by omega))))
      refine bodyPost_ret (v := .tuple #[.agg #[.int .i64 xn, .int .i64 xd, .int .i64 yn, .int .i64 yd], .int .i64 0]) (by simp only [results, Try.results24]; go_simp) rfl ⟨?_, Or.inr ⟨HG.out, lo, lo + 1, HLH.out, Or.inr ⟨⟨by have := H0.out; omega, by have := H0.out; omega⟩, by rw [HX.out]⟩⟩⟩
      (repeat (first | (with_reducible exact bl_refl _) | (with_reducible refine bl_drew ?_) | (with_reducible refine bl_alloc ?_ _) | (with_reducible refine bl_set' ?_ ?_; · (first | omega | (simp; done) | (simp; omega))) | (with_reducible refine bl_last (by assumption) ?_) | (with_reducible refine bl_drewN ?_ _)))
  · have hLH' : LoHi ((DD : Nat) : Int).toNat (restN a b c d e f) (goalN ((kk : Int) * (NN : Int)).toNat a b c d e f) r r := by rw [HZ.out]; exact hLH
    have HLH := Lib.hid hLH'
    have hCC := HC.out h1
    rw [hO] at hCC
    have hM1 := fun w => Make_c (r : Int) (kk : Int) w ⟨by omega, by omega⟩ ⟨by omega, by omega⟩
    unfold mkV at hM1
    have HX : Hid (bandOf r r (kk : Int) = .tuple #[.agg #[.int .i64 (mkN (r : Int) (kk : Int)), .int .i64 (mkD (r : Int) (kk : Int)), .int .i64 (mkN (r : Int) (kk : Int)), .int .i64 (mkD (r : Int) (kk : Int))], .int .i64 0]) := Lib.hid rfl
    generalize mkN (r : Int) (kk : Int) = xn at *
    generalize mkD (r : Int) (kk : Int) = xd at *
    generalize mkE (r : Int) (kk : Int) = xe at *
    have H0 := Lib.hid (show 1 ≤ r ∧ r ≤ 1000000000 from ⟨hr1, h1⟩)
    have HC := Lib.hid hCC
    have HM1 := Lib.hid hM1
    have hL0 : 1 ≤ (r : Int) := by omega
    have hL1 : (r : Int) ≤ 1000000000 := by omega
    clear hLH hLH' hCC hM1 hO hr hr1 h1
    generalize (r : Int) = L at *
    go_wp2_with (first | (go_at_call 51; ((with_reducible refine (HC.out).mono ?_); rintro e w5 ⟨rfl, hb5⟩; obtain ⟨hz5, hc5, hf5⟩ := bcl hb5 (by first | (simp; rfl) | rfl); have hA5 : w.heap.size < w5.heap.size := (by omega); have hA5' : w.heap.size + 1 < w5.heap.size := (by omega); have hA5'' : w.heap.size + 1 + 1 < w5.heap.size := (by omega))) | (go_at_call 56; ((with_reducible refine (HM1.out _).mono ?_); rintro e w6 ⟨rfl, hb6⟩; obtain ⟨hz6, hc6, hf6⟩ := bcl hb6 (by first | (simp; rfl) | rfl); have hA6 : w.heap.size < w6.heap.size := (by omega); have hA6' : w.heap.size + 1 < w6.heap.size := (by omega); have hA6'' : w.heap.size + 1 + 1 < w6.heap.size := (by omega))) | (go_at_call 56; ((with_reducible refine (HM1.out _).mono ?_); rintro e w7 ⟨rfl, hb7⟩; obtain ⟨hz7, hc7, hf7⟩ := bcl hb7 (by first | (simp; rfl) | rfl); have hA7 : w.heap.size < w7.heap.size := (by omega); have hA7' : w.heap.size + 1 < w7.heap.size := (by omega); have hA7'' : w.heap.size + 1 + 1 < w7.heap.size := (by omega))))
    refine bodyPost_ret (v := .tuple #[.agg #[.int .i64 xn, .int .i64 xd, .int .i64 xn, .int .i64 xd], .int .i64 0]) (by simp only [results, Try.results24]; go_simp) rfl ⟨?_, Or.inr ⟨HG.out, r, r, HLH.out, Or.inr ⟨⟨by have := H0.out; omega, by have := H0.out; omega⟩, by rw [HX.out]⟩⟩⟩
    (repeat (first | (with_reducible exact bl_refl _) | (with_reducible refine bl_drew ?_) | (with_reducible refine bl_alloc ?_ _) | (with_reducible refine bl_set' ?_ ?_; · (first | omega | (simp; done) | (simp; omega))) | (with_reducible refine bl_last (by assumption) ?_) | (with_reducible refine bl_drewN ?_ _)))

theorem Hertz_c (N D a b c d e f k : Int) (w : World) :
    Calls Try.prog 24 #[.agg #[.int .i64 N, .int .i64 D], .agg #[.int .i64 a, .int .i64 b, .int .i64 c, .int .i64 d, .int .i64 e, .int .i64 f], .int .i64 k] w (HzP N D a b c d e f k w) := by
  cases h : hzG N D a b c d e f k
  · exact hertz_bad N D a b c d e f k w h
  · obtain ⟨g1, g2, g3, g4⟩ := hz_of h
    obtain ⟨g5, g6⟩ := sd_of g1
    obtain ⟨g7, g8, g9, g10⟩ := rt_of g5
    obtain ⟨NN, rfl⟩ : ∃ x : Nat, N = x := ⟨N.toNat, by omega⟩
    obtain ⟨DD, rfl⟩ : ∃ x : Nat, D = x := ⟨D.toNat, by omega⟩
    obtain ⟨kk, rfl⟩ : ∃ x : Nat, k = x := ⟨k.toNat, by omega⟩
    exact hertz_good NN DD kk a b c d e f w h
end Go.Proofs.Ythlnfjllkmielaa
