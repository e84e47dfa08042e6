/- Beat: the reference's Hertz in range. -/
import Derived.Test.YthlnfjllkmielaaBeatAF
namespace Go.Proofs.Ythlnfjllkmielaa
open Go.RowKit

theorem ordZ_hi {x y : Nat} (h : 0 < ordZ (x : Int) (y : Int)) : y < x := by
  unfold ordZ at h
  split at h
  · omega
  · split at h <;> omega
theorem ordZ_lo {x y : Nat} (h : ordZ (x : Int) (y : Int) ≤ 0) : x ≤ y ∧ (ordZ (x : Int) (y : Int) == 0) = decide (x = y) := by
  unfold ordZ at h ⊢
  split
  · exact ⟨by omega, (decide_eq_false (by omega)).symm⟩
  · split
    · rename_i g1 g2
      rw [if_neg g1, if_pos g2] at h
      omega
    · exact ⟨by omega, (decide_eq_true (by omega)).symm⟩
set_option maxRecDepth 100000 in
set_option maxHeartbeats 4000000 in
theorem rhertz_good (NN DD kk : Nat) (a b c d e f : Int) (w : World) (h : hzG (NN : Int) (DD : Int) a b c d e f (kk : Int) = true) :
    Calls Try.prog 25 #[.agg #[.int .i64 (NN : Int), .int .i64 (DD : Int)], .agg #[.int .i64 a, .int .i64 b, .int .i64 c, .int .i64 d, .int .i64 e, .int .i64 f], .int .i64 (kk : Int)] w (HzP (NN : Int) (DD : Int) a b c d e f (kk : Int) w) := by
  have HG := Lib.hid h
  obtain ⟨g1, g2, g3, g4⟩ := hz_of h
  obtain ⟨g5, g6⟩ := sd_of g1
  obtain ⟨g7, g8, g9, g10⟩ := rt_of g5
  have hz : kk * NN ≤ 1000000000000000 := Nat.mul_le_mul (show kk ≤ 1000000 by omega) (show NN ≤ 1000000000 by omega)
  have hz1 : 0 < kk * NN := Nat.mul_pos (by omega) (by omega)
  have hF := fun w => Freq_c (NN : Int) (DD : Int) w
  have hPV := fun w => RPVld_c a b c d e f w
  rw [g1] at hF
  rw [g2] at hPV
  have HF := Lib.hid hF
  have HPV := Lib.hid hPV
  have hgl := goal_le hz g2
  have hw1 : IntKind.i64.wrap ((kk : Int) * (NN : Int)) = ((kk * NN : Nat) : Int) := by rw [IntKind.wrap_i64, ← Int.natCast_mul]; omega
  have hcap : (kk * NN) ^ 12 < Cap := by
    obtain ⟨c1, hc1⟩ : ∃ c : Nat, c = 600 := ⟨_, rfl⟩
    exact lt_big (k := c1) (pow_le_two (m := 50) (Nat.le_trans hz (by decide)) (by omega)) (by omega)
  have HPw : Hid (∀ w, Calls Try.prog 59 #[.int .i64 ((kk * NN : Nat) : Int), .int .i64 12] w (RNumS ((kk * NN) ^ 12) w)) := Lib.hid (fun w => Rpower_c (kk * NN) 12 w (by omega) (by omega) (by omega) (by omega) hcap)
  have HU := Lib.hid (fun w => Rproduct_c 1 a b c d e f w (Or.inl rfl) g2)
  have HD := Lib.hid (fun w => Rproduct_c (-1) a b c d e f w (Or.inr rfl) g2)
  have hMcap : (kk * NN) ^ 12 * prodF prm (sgE 1 a b c d e f) 6 < Cap := by rw [goal_eq]; exact lt_big hgl (by omega)
  have HM := Lib.hid (fun ba bb n m ca cb W h1 h2 h3 h4 => RNmul_c ba bb n m ((kk * NN) ^ 12) (prodF prm (sgE 1 a b c d e f) 6) ca cb W h1 h2 h3 h4 hMcap)
  have hrl := rest_le g2
  clear h hF hPV hgl hcap hMcap g1 g2 g5
  have HZ : Hid (((kk : Int) * (NN : Int)).toNat = kk * NN) := Lib.hid (by rw [← Int.natCast_mul]; rfl)
  have HRP := Lib.hid (rest_pos a b c d e f)
  have hDD : DD ≤ 100000000 := by omega
  have HBig : Hid (∀ k : Nat, k ≤ 1000000000 → (k * DD) ^ 12 < Cap ∧ (k * DD) ^ 12 * restN a b c d e f < Cap) := Lib.hid (fun k hk => by
    have hkD : k * DD ≤ 100000000000000000 := Nat.mul_le_mul hk hDD
    obtain ⟨c1, hc1⟩ : ∃ c : Nat, c = 684 := ⟨_, rfl⟩
    obtain ⟨c2, hc2⟩ : ∃ c : Nat, c = 9792 := ⟨_, rfl⟩
    rw [← hc2] at hrl
    have h1 : (k * DD) ^ 12 ≤ 2 ^ c1 := pow_le_two (m := 57) (Nat.le_trans hkD (show _ ≤ 2 ^ 57 by decide)) (by omega)
    refine ⟨lt_big (k := c1) h1 (by omega), lt_big (k := c1 + c2) ?_ (by omega)⟩
    rw [Nat.pow_add]
    exact Nat.mul_le_mul h1 hrl)
  clear hrl
  generalize kk * NN = Z at *
  go_enter Try.func25, Try.ntmps25
  go_wp2_with (first | (go_at_call 29; ((with_reducible refine (HF.out _).mono ?_); rintro e w' ⟨rfl, hb⟩; obtain ⟨hz, hc, hf⟩ := bcl hb (by first | (simp; rfl) | rfl))) | (go_at_call 57; ((with_reducible refine (HPV.out _).mono ?_); rintro e w' ⟨rfl, hb⟩; obtain ⟨hz, hc, hf⟩ := bcl hb (by first | (simp; rfl) | rfl))))
  go_region_held3 (fun W => W.cell? ⟨w.heap.size, 0, none⟩ = some (.int .i64 (NN : Int)) ∧ W.cell? ⟨w.heap.size + 1, 0, none⟩ = some (.int .i64 a) ∧ W.cell? ⟨w.heap.size + 1, 1, none⟩ = some (.int .i64 b) ∧ W.cell? ⟨w.heap.size + 1, 2, none⟩ = some (.int .i64 c) ∧ W.cell? ⟨w.heap.size + 1, 3, none⟩ = some (.int .i64 d) ∧ W.cell? ⟨w.heap.size + 1, 4, none⟩ = some (.int .i64 e) ∧ W.cell? ⟨w.heap.size + 1, 5, none⟩ = some (.int .i64 f))
    (first | go_keep | (refine ⟨?_, ?_, ?_, ?_, ?_, ?_, ?_⟩ <;> (go_simp; done)))
    ((first | (go_at_call 59; ((with_reducible refine (HPw.out _).mono ?_); rintro en w2 ⟨hb2, b2, n2, c2, hk2, rfl, hN2, h62, h72⟩; obtain ⟨hz2, hc2, hf2⟩ := bcl hb2 (by first | (simp; rfl) | rfl))) | (go_at_call 60; ((with_reducible refine (HU.out _).mono ?_); rintro en w3 ⟨hb3, b3, n3, c3, hk3, rfl, hN3, h63, h73⟩; obtain ⟨hz3, hc3, hf3⟩ := bcl hb3 (by first | (simp; rfl) | rfl))) | (go_at_call 58; ((with_reducible refine (HM.out _ _ _ _ _ _ _ (hN2.up (by (repeat (first | (with_reducible exact bl_refl _) | (with_reducible refine bl_drew ?_) | (with_reducible refine bl_alloc ?_ _) | (with_reducible refine bl_set' ?_ ?_; · (first | omega | (simp; done) | (simp; omega))) | (with_reducible refine bl_last (by assumption) ?_) | (with_reducible refine bl_drewN ?_ _))))) hN3 h62 h63).mono ?_); rintro en w4 ⟨hb4, b4, n4, c4, hk4, rfl, hN4, h64, h74⟩; obtain ⟨hz4, hc4, hf4⟩ := bcl hb4 (by first | (simp; rfl) | rfl)))))
  rw [goal_eq] at hN4
  go_wp2_with (go_at_call 60; ((with_reducible refine (HD.out _).mono ?_); rintro en w5 ⟨hb5, b5, n5, c5, hk5, rfl, hN5, h65, h75⟩; obtain ⟨hz5, hc5, hf5⟩ := bcl hb5 (by first | (simp; rfl) | rfl)))
  have cD : w5.cell? ⟨w.heap.size, 1, none⟩ = some (.int .i64 (DD : Int)) := by go_simp
  have zD : w.heap.size < w5.heap.size := by omega
  have cR0 : w5.cell? ⟨w.heap.size + 1 + 1, 0, none⟩ = some (.int .i64 0) := by go_simp
  have fR0 : w5.frozen? ⟨w.heap.size + 1 + 1, 0, none⟩ = false := by go_simp
  have cR1 : w5.cell? ⟨w.heap.size + 1 + 1, 1, none⟩ = some (.int .i64 0) := by go_simp
  have fR1 : w5.frozen? ⟨w.heap.size + 1 + 1, 1, none⟩ = false := by go_simp
  have cR2 : w5.cell? ⟨w.heap.size + 1 + 1, 2, none⟩ = some (.int .i64 0) := by go_simp
  have fR2 : w5.frozen? ⟨w.heap.size + 1 + 1, 2, none⟩ = false := by go_simp
  have cR3 : w5.cell? ⟨w.heap.size + 1 + 1, 3, none⟩ = some (.int .i64 0) := by go_simp
  have fR3 : w5.frozen? ⟨w.heap.size + 1 + 1, 3, none⟩ = false := by go_simp
  have zR : w.heap.size + 1 + 1 < w5.heap.size := by omega
  have hbel : Below w.heap.size w w5 := by (repeat (first | (with_reducible exact bl_refl _) | (with_reducible refine bl_drew ?_) | (with_reducible refine bl_alloc ?_ _) | (with_reducible refine bl_set' ?_ ?_; · (first | omega | (simp; done) | (simp; omega))) | (with_reducible refine bl_last (by assumption) ?_) | (with_reducible refine bl_drewN ?_ _)))
  have HR0 := Lib.hid (hN4.up hb5)
  rw [rest_eq] at hN5
  have HS0 := Lib.hid hN5
  have HGP : Hid (0 < goalN Z a b c d e f) := Lib.hid (goal_pos hz1)
  have HGR : Hid (∃ G R : Nat, G = goalN Z a b c d e f ∧ R = restN a b c d e f) := Lib.hid ⟨_, _, rfl, rfl⟩
  have HLH : Hid (∀ lo hi : Nat, LoHi DD (restN a b c d e f) (goalN Z a b c d e f) lo hi → LoHi ((DD : Nat) : Int).toNat (restN a b c d e f) (goalN ((kk : Int) * (NN : Int)).toNat a b c d e f) lo hi) := Lib.hid (fun lo hi h => by rw [HZ.out]; exact h)
  have HHz : Hid (∀ lo hi : Nat, LoHi DD (restN a b c d e f) (goalN Z a b c d e f) lo hi → ∀ (W : World) (en : Ending), Below w.heap.size w W → ((lo < 1 ∨ 1000000000 < hi) ∧ en = .returned (band0 3) ∨ (1 ≤ lo ∧ hi ≤ 1000000000) ∧ en = .returned (bandOf lo hi (kk : Int))) → HzP (NN : Int) (DD : Int) a b c d e f (kk : Int) w en W) := Lib.hid (fun lo hi h W en hb he => ⟨hb, Or.inr ⟨HG.out, lo, hi, HLH.out lo hi h, he⟩⟩)
  clear HGR HLH
  generalize goalN Z a b c d e f = G at *
  generalize restN a b c d e f = R at *
  go_loopw [13, 14, 15] (fun lo hi sm wr => ∃ (l h : Nat) (s : Bool), lo = .int .i64 (l : Int) ∧ hi = .int .i64 (h : Int) ∧ sm = .bool s ∧ Below w5.heap.size w5 wr ∧ Hid (Bis DD R G l h s)) (fun lo hi _ _ => (intOf hi - intOf lo).toNat)
  case atStart => exact ⟨0, 1000000001, false, rfl, rfl, rfl, bl_refl _, Lib.hid (Bis.start HGP.out)⟩
  case round =>
    obtain ⟨l, h, s, rfl, rfl, rfl, hbw, HB⟩ := hrel
    have hlt' := HB.out.lt
    have hle := HB.out.le
    by_cases hd : l + 1 < h
    · obtain ⟨k, hk⟩ : ∃ k : Nat, k = (l + h) / 2 := ⟨_, rfl⟩
      have k1 : l < k ∧ k < h ∧ 1 ≤ k ∧ k ≤ 1000000000 := by omega
      obtain ⟨k1, k2, k3, k4⟩ := k1
      have hkD : k * DD ≤ 100000000000000000 := Nat.mul_le_mul k4 hDD
      have hkD1 : 0 < k * DD := Nat.mul_pos k3 (by omega)
      obtain ⟨b1, b2⟩ := HBig.out k k4
      have c1 := (hbw.cell (p := ⟨w.heap.size, 1, none⟩) zD).trans cD
      have z1 : w.heap.size < wr.heap.size := by have := hbw.size; omega
      have q1 : ((l : Int) + (h : Int)) / 2 = (k : Int) := by omega
      clear hk
      have q2 : IntKind.i64.wrap ((k : Int) * (DD : Int)) = ((k * DD : Nat) : Int) := by rw [IntKind.wrap_i64, ← Int.natCast_mul]; omega
      have HP2 : Hid (∀ w, Calls Try.prog 59 #[.int .i64 ((k * DD : Nat) : Int), .int .i64 12] w (RNumS ((k * DD) ^ 12) w)) := Lib.hid (fun w => Rpower_c (k * DD) 12 w (by omega) (by omega) (by omega) (by omega) b1)
      have HM2 := Lib.hid (fun ba bb n m ca cb W h1 h2 h3 h4 => RNmul_c ba bb n m ((k * DD) ^ 12) R ca cb W h1 h2 h3 h4 b2)
      have HV : Hid ((k * DD) ^ 12 * R = hzVal DD R k) := Lib.hid rfl
      clear b1 b2
      generalize k * DD = Y at *
      go_wp2_with (first | (go_at_call 59; ((with_reducible refine (HP2.out _).mono ?_); rintro en w6 ⟨hb6, b6, n6, c6, hk6, rfl, hN6, h66, h76⟩; obtain ⟨hz6, hc6, hf6⟩ := bcl hb6 (by first | (simp; rfl) | rfl))))
      go_wp2_with (first | (go_at_call 58; ((with_reducible refine (HM2.out _ _ _ _ _ _ _ hN6 (HS0.out.up (by (repeat (first | (with_reducible exact bl_refl _) | (with_reducible refine bl_drew ?_) | (with_reducible refine bl_alloc ?_ _) | (with_reducible refine bl_set' ?_ ?_; · (first | omega | (simp; done) | (simp; omega))) | (with_reducible refine bl_last (by assumption) ?_) | (with_reducible refine bl_drewN ?_ _))))) h66 h65).mono ?_); rintro en w7 ⟨hb7, b7, n7, c7, hk7, rfl, hN7, h67, h77⟩; obtain ⟨hz7, hc7, hf7⟩ := bcl hb7 (by first | (simp; rfl) | rfl))) | (go_at_call 61; ((with_reducible refine (ROrder_c _ _ _ _ _ _ _ _ _ hN7 (HR0.out.up (by (repeat (first | (with_reducible exact bl_refl _) | (with_reducible refine bl_drew ?_) | (with_reducible refine bl_alloc ?_ _) | (with_reducible refine bl_set' ?_ ?_; · (first | omega | (simp; done) | (simp; omega))) | (with_reducible refine bl_last (by assumption) ?_) | (with_reducible refine bl_drewN ?_ _))))) (by omega) (by omega)).mono ?_); rintro en w8 ⟨rfl, hb8⟩; obtain ⟨hz8, hc8, hf8⟩ := bcl hb8 (by first | (simp; rfl) | rfl))))
      · rename_i hO
        have ec : ((Y ^ 12 * R : Nat) : Int) = (Y : Int) ^ 12 * (R : Int) := by simp
        rw [← ec] at hO ⊢
        obtain ⟨hv, hb0⟩ := ordZ_lo hO
        rw [HV.out] at hv hb0 ⊢
        exact ⟨⟨k, h, _, rfl, rfl, rfl, bl_trans hbw (by (repeat (first | (with_reducible exact bl_refl _) | (with_reducible refine bl_drew ?_) | (with_reducible refine bl_alloc ?_ _) | (with_reducible refine bl_set' ?_ ?_; · (first | omega | (simp; done) | (simp; omega))) | (with_reducible refine bl_last (by assumption) ?_) | (with_reducible refine bl_drewN ?_ _)))), Lib.hid (by rw [hb0]; exact HB.out.up k2 hv)⟩, by simp [intOf]; omega⟩
      · rename_i hO
        have ec : ((Y ^ 12 * R : Nat) : Int) = (Y : Int) ^ 12 * (R : Int) := by simp
        rw [← ec] at hO
        have hv := ordZ_hi hO
        rw [HV.out] at hv
        exact ⟨⟨l, k, s, rfl, rfl, rfl, bl_trans hbw (by (repeat (first | (with_reducible exact bl_refl _) | (with_reducible refine bl_drew ?_) | (with_reducible refine bl_alloc ?_ _) | (with_reducible refine bl_set' ?_ ?_; · (first | omega | (simp; done) | (simp; omega))) | (with_reducible refine bl_last (by assumption) ?_) | (with_reducible refine bl_drewN ?_ _)))), Lib.hid (HB.out.down k1 k2 hv)⟩, by simp [intOf]; omega⟩
    · have hdone := HB.out.done (by omega)
      obtain ⟨u, hu⟩ : ∃ u : Nat, u = if s then l else l + 1 := ⟨_, rfl⟩
      rw [← hu] at hdone
      have hl9 : l ≤ 1000000000 := by omega
      have e1 : IntKind.i64.wrap ((l : Int) + 1) = ((l + 1 : Nat) : Int) := by rw [IntKind.wrap_i64]; omega
      have hhl : (h : Int) = ((l + 1 : Nat) : Int) := by omega
      have HRes := Lib.hid (fun W en hb he => HHz.out l u hdone W en hb he)
      have HM1 := Lib.hid (fun w => RMake_c (l : Int) (kk : Int) w ⟨by omega, by omega⟩ ⟨by omega, by omega⟩)
      have HM2 := Lib.hid (fun w => RMake_c (u : Int) (kk : Int) w ⟨by omega, by cases s <;> simp at hu <;> omega⟩ ⟨by omega, by omega⟩)
      have hbl : Below w.heap.size w wr := bl_trans hbel (hbw.mono (by omega))
      have r0 := (hbw.cell (p := ⟨w.heap.size + 1 + 1, 0, none⟩) zR).trans cR0
      have t0 := keep_frozen hbw cR0 fR0
      have r1 := (hbw.cell (p := ⟨w.heap.size + 1 + 1, 1, none⟩) zR).trans cR1
      have t1 := keep_frozen hbw cR1 fR1
      have r2 := (hbw.cell (p := ⟨w.heap.size + 1 + 1, 2, none⟩) zR).trans cR2
      have t2 := keep_frozen hbw cR2 fR2
      have r3 := (hbw.cell (p := ⟨w.heap.size + 1 + 1, 3, none⟩) zR).trans cR3
      have t3 := keep_frozen hbw cR3 fR3
      have zR2 : w.heap.size + 1 + 1 < wr.heap.size := by have := hbw.size; omega
      clear hdone HHz HB HBig HR0 HS0 hN4 hN5 hle hlt'
      rw [hhl]
      clear hhl
      cases s
      · obtain rfl : u = l + 1 := by simpa using hu
        clear hu
        by_cases hl1 : l < 1
        · obtain rfl : l = 0 := by omega
          go_wp2
          refine bodyPost_ret (v := .tuple #[.agg #[.int .i64 0, .int .i64 0, .int .i64 0, .int .i64 0], .int .i64 3]) (by simp only [results, Try.results25]; go_simp) rfl ?_
          refine HRes.out _ _ ?_ (Or.inl ⟨Or.inl (by omega), rfl⟩)
          (repeat (first | (with_reducible exact bl_refl _) | (with_reducible refine bl_drew ?_) | (with_reducible refine bl_alloc ?_ _) | (with_reducible refine bl_set' ?_ ?_; · (first | omega | (simp; done) | (simp; omega))) | (with_reducible refine bl_last (by assumption) ?_) | (with_reducible refine bl_drewN ?_ _)))
        · by_cases hl2 : 1000000000 < l + 1
          · go_wp2
            refine bodyPost_ret (v := .tuple #[.agg #[.int .i64 0, .int .i64 0, .int .i64 0, .int .i64 0], .int .i64 3]) (by simp only [results, Try.results25]; go_simp) rfl ?_
            refine HRes.out _ _ ?_ (Or.inl ⟨Or.inr (by omega), rfl⟩)
            (repeat (first | (with_reducible exact bl_refl _) | (with_reducible refine bl_drew ?_) | (with_reducible refine bl_alloc ?_ _) | (with_reducible refine bl_set' ?_ ?_; · (first | omega | (simp; done) | (simp; omega))) | (with_reducible refine bl_last (by assumption) ?_) | (with_reducible refine bl_drewN ?_ _)))
          · have hM1 := HM1.out
            have hM2 := HM2.out
            unfold mkV at hM1 hM2
            have HX : Hid (bandOf l (l + 1) (kk : Int) = .tuple #[.agg #[.int .i64 (mkN (l : Int) (kk : Int)), .int .i64 (mkD (l : Int) (kk : Int)), .int .i64 (mkN ((l + 1 : Nat) : Int) (kk : Int)), .int .i64 (mkD ((l + 1 : Nat) : Int) (kk : Int))], .int .i64 0]) := Lib.hid rfl
            have H0 := Lib.hid (show 1 ≤ l ∧ l + 1 ≤ 1000000000 by omega)
            generalize mkN (l : Int) (kk : Int) = xn at *
            generalize mkD (l : Int) (kk : Int) = xd at *
            generalize mkE (l : Int) (kk : Int) = xe at *
            generalize mkN ((l + 1 : Nat) : Int) (kk : Int) = yn at *
            generalize mkD ((l + 1 : Nat) : Int) (kk : Int) = yd at *
            generalize mkE ((l + 1 : Nat) : Int) (kk : Int) = ye at *
            obtain ⟨L, hL⟩ : ∃ L : Int, L = (l : Int) := ⟨_, rfl⟩
            obtain ⟨H, hH⟩ : ∃ H : Int, H = ((l + 1 : Nat) : Int) := ⟨_, rfl⟩
            have hL1 : 1 ≤ L := by omega
            have hH1 : H ≤ 1000000000 := by omega
            rw [← hL] at hM1
            rw [← hH] at hM2
            rw [← hL, ← hH] at e1 ⊢
            have HM1 := Lib.hid hM1
            have HM2 := Lib.hid hM2
            clear hM1 hM2 hL hH
            go_wp2_with (first | (go_at_call 26; ((with_reducible refine (HM1.out _).mono ?_); rintro e w6 ⟨rfl, hb6⟩; obtain ⟨hz6, hc6, hf6⟩ := bcl hb6 (by first | (simp; rfl) | rfl))) | (go_at_call 26; ((with_reducible refine (HM2.out _).mono ?_); rintro e w7 ⟨rfl, hb7⟩; obtain ⟨hz7, hc7, hf7⟩ := bcl hb7 (by first | (simp; rfl) | rfl))))
            refine bodyPost_ret (v := .tuple #[.agg #[.int .i64 xn, .int .i64 xd, .int .i64 yn, .int .i64 yd], .int .i64 0]) (by simp only [results, Try.results25]; go_simp) rfl ?_
            refine HRes.out _ _ ?_ (Or.inr ⟨⟨by have := H0.out; omega, by have := H0.out; omega⟩, by rw [HX.out]⟩)
            (repeat (first | (with_reducible exact bl_refl _) | (with_reducible refine bl_drew ?_) | (with_reducible refine bl_alloc ?_ _) | (with_reducible refine bl_set' ?_ ?_; · (first | omega | (simp; done) | (simp; omega))) | (with_reducible refine bl_last (by assumption) ?_) | (with_reducible refine bl_drewN ?_ _)))
      · obtain rfl : u = l := by simpa using hu
        clear hu
        by_cases hl1 : u < 1
        · obtain rfl : u = 0 := by omega
          go_wp2
          refine bodyPost_ret (v := .tuple #[.agg #[.int .i64 0, .int .i64 0, .int .i64 0, .int .i64 0], .int .i64 3]) (by simp only [results, Try.results25]; go_simp) rfl ?_
          refine HRes.out _ _ ?_ (Or.inl ⟨Or.inl (by omega), rfl⟩)
          (repeat (first | (with_reducible exact bl_refl _) | (with_reducible refine bl_drew ?_) | (with_reducible refine bl_alloc ?_ _) | (with_reducible refine bl_set' ?_ ?_; · (first | omega | (simp; done) | (simp; omega))) | (with_reducible refine bl_last (by assumption) ?_) | (with_reducible refine bl_drewN ?_ _)))
        · have hM1 := HM1.out
          unfold mkV at hM1
          have HX : Hid (bandOf u u (kk : Int) = .tuple #[.agg #[.int .i64 (mkN (u : Int) (kk : Int)), .int .i64 (mkD (u : Int) (kk : Int)), .int .i64 (mkN (u : Int) (kk : Int)), .int .i64 (mkD (u : Int) (kk : Int))], .int .i64 0]) := Lib.hid rfl
          have H0 := Lib.hid (show 1 ≤ u ∧ u ≤ 1000000000 by omega)
          generalize mkN (u : Int) (kk : Int) = xn at *
          generalize mkD (u : Int) (kk : Int) = xd at *
          generalize mkE (u : Int) (kk : Int) = xe at *
          obtain ⟨L, hL⟩ : ∃ L : Int, L = (u : Int) := ⟨_, rfl⟩
          obtain ⟨H, hH⟩ : ∃ H : Int, H = ((u + 1 : Nat) : Int) := ⟨_, rfl⟩
          have hL1 : 1 ≤ L := by omega
          have hH1 : L ≤ 1000000000 := by omega
          rw [← hL] at hM1
          rw [← hL, ← hH] at e1 ⊢
          have HM1 := Lib.hid hM1
          clear hM1 hL hH HM2
          go_wp2_with (first | (go_at_call 26; ((with_reducible refine (HM1.out _).mono ?_); rintro e w6 ⟨rfl, hb6⟩; obtain ⟨hz6, hc6, hf6⟩ := bcl hb6 (by first | (simp; rfl) | rfl))))
          refine bodyPost_ret (v := .tuple #[.agg #[.int .i64 xn, .int .i64 xd, .int .i64 xn, .int .i64 xd], .int .i64 0]) (by simp only [results, Try.results25]; go_simp) rfl ?_
          refine HRes.out _ _ ?_ (Or.inr ⟨⟨by have := H0.out; omega, by have := H0.out; omega⟩, by rw [HX.out]⟩)
          (repeat (first | (with_reducible exact bl_refl _) | (with_reducible refine bl_drew ?_) | (with_reducible refine bl_alloc ?_ _) | (with_reducible refine bl_set' ?_ ?_; · (first | omega | (simp; done) | (simp; omega))) | (with_reducible refine bl_last (by assumption) ?_) | (with_reducible refine bl_drewN ?_ _)))
end Go.Proofs.Ythlnfjllkmielaa
