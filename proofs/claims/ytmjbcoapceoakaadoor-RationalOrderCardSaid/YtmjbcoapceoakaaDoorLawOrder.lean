/- RationalOrder: the walk of the law. -/
import Derived.Test.YtmjbcoapceoakaaDoorRatU
import Derived.Deep.Cut
namespace Go.Proofs.YtmjbcoapceoakaaDoor
open Go.RowKit

theorem sg_scale {s t k l : Int} (hk : 0 < k) (hl : 0 < l) (e : s * k = t * l) : sgF s = sgF t := by
  rcases Int.lt_trichotomy s 0 with h | h | h
  · have h1 : s * k < 0 := Int.mul_neg_of_neg_of_pos h hk
    have h2 : t < 0 := by
      rcases Int.lt_or_le t 0 with h3 | h3
      · exact h3
      · have := Int.mul_nonneg h3 (Int.le_of_lt hl)
        omega
    unfold sgF
    rw [if_pos h, if_pos h2]
  · subst h
    have h2 : t = 0 := by
      rw [Int.zero_mul] at e
      rcases Int.mul_eq_zero.1 e.symm with h3 | h3
      · exact h3
      · omega
    rw [h2]
  · have h1 : 0 < s * k := Int.mul_pos h hk
    have h2 : 0 < t := by
      rcases Int.lt_or_le 0 t with h3 | h3
      · exact h3
      · have := Int.mul_nonneg (show 0 ≤ -t by omega) (Int.le_of_lt hl)
        rw [Int.neg_mul] at this
        omega
    unfold sgF
    rw [if_neg (by omega), if_pos h, if_neg (by omega), if_pos h2]
theorem sg_neg (s : Int) : sgF (-s) = -sgF s := by
  unfold sgF
  split <;> split <;> (try split) <;> (try split) <;> omega
theorem cmp_sg {an ad bn bd : Int} (h1 : vR an ad = true) (h2 : vR bn bd = true) (w : World) : Calls Tryd.prog 18 #[.agg #[.int .i64 an, .int .i64 ad], .agg #[.int .i64 bn, .int .i64 bd]] w (Ret (.tuple #[.int .i64 (sgF (an * bd - bn * ad)), .int .i64 0]) w) := by
  have HC := Cmp_c an ad bn bd w
  rw [cmp_good (by rw [h1, h2]; rfl)] at HC
  exact HC
theorem cmp_no {an ad bn bd : Int} (h : (vR an ad && vR bn bd) = false) (w : World) : Calls Tryd.prog 18 #[.agg #[.int .i64 an, .int .i64 ad], .agg #[.int .i64 bn, .int .i64 bd]] w (Ret (.tuple #[.int .i64 0, .int .i64 1]) w) := by
  have HC := Cmp_c an ad bn bd w
  rw [cmp_bad h] at HC
  exact HC
/-- The sign of the difference stays if the same number is added to both. -/
theorem add_sg {an ad bn bd cn cd : Int} (h1 : adE an ad cn cd = 0) (h2 : adE bn bd cn cd = 0) :
    sgF (adN an ad cn cd * adD bn bd cn cd - adN bn bd cn cd * adD an ad cn cd) = sgF (an * bd - bn * ad) := by
  obtain ⟨va, vc, vp, ep⟩ := ad_spec h1
  obtain ⟨vb, _, vq, eq⟩ := ad_spec h2
  have pa := den_pos va
  have pb := den_pos vb
  have pc := den_pos vc
  have pp := den_pos vp
  have pq := den_pos vq
  generalize adN an ad cn cd = P at *
  generalize adD an ad cn cd = Q at *
  generalize adN bn bd cn cd = R at *
  generalize adD bn bd cn cd = S at *
  refine sg_scale (k := (ad * cd) * (bd * cd)) (l := Q * S * (cd * cd)) (Int.mul_pos (Int.mul_pos pa pc) (Int.mul_pos pb pc)) (Int.mul_pos (Int.mul_pos pp pq) (Int.mul_pos pc pc)) ?_
  have e1 : (P * S - R * Q) * ((ad * cd) * (bd * cd)) = (P * (ad * cd)) * S * (bd * cd) - (R * (bd * cd)) * Q * (ad * cd) := by grind
  rw [e1, ep, eq]
  grind
/-- The sign of the difference is that of Sub's numerator. -/
theorem sub_sg {an ad bn bd : Int} (h : suE an ad bn bd = 0) : sgF (suN an ad bn bd) = sgF (an * bd - bn * ad) := by
  obtain ⟨va, vb, vx, ex⟩ := su_spec h
  exact sg_scale (Int.mul_pos (den_pos va) (den_pos vb)) (den_pos vx) ex
theorem sg_trans {an ad bn bd cn cd : Int} (pa : 0 < ad) (pb : 0 < bd) (pc : 0 < cd) (h1 : sgF (an * bd - bn * ad) ≤ 0) (h2 : sgF (bn * cd - cn * bd) ≤ 0) :
    sgF (an * cd - cn * ad) < 0 ∨ (sgF (an * bd - bn * ad) = 0 ∧ sgF (bn * cd - cn * bd) = 0 ∧ sgF (an * cd - cn * ad) = 0) := by
  have key : (an * cd - cn * ad) * bd = (an * bd - bn * ad) * cd + (bn * cd - cn * bd) * ad := by grind
  generalize an * bd - bn * ad = s at *
  generalize bn * cd - cn * bd = t at *
  generalize an * cd - cn * ad = r at *
  rcases sg_ways s with ⟨g1, e1⟩ | ⟨g1, e1⟩ | ⟨g1, e1⟩ <;> rcases sg_ways t with ⟨g2, e2⟩ | ⟨g2, e2⟩ | ⟨g2, e2⟩ <;> rw [e1] at h1 <;> rw [e2] at h2 <;> (try omega)
  · left
    have q1 := Int.mul_neg_of_neg_of_pos g1 pc
    have q2 := Int.mul_neg_of_neg_of_pos g2 pa
    have q3 : r < 0 := by
      rcases Int.lt_or_le r 0 with h3 | h3
      · exact h3
      · have := Int.mul_nonneg h3 (Int.le_of_lt pb)
        omega
    unfold sgF
    rw [if_pos q3]
    omega
  · left
    subst g2
    have q1 := Int.mul_neg_of_neg_of_pos g1 pc
    rw [Int.zero_mul] at key
    have q3 : r < 0 := by
      rcases Int.lt_or_le r 0 with h3 | h3
      · exact h3
      · have := Int.mul_nonneg h3 (Int.le_of_lt pb)
        omega
    unfold sgF
    rw [if_pos q3]
    omega
  · left
    subst g1
    have q2 := Int.mul_neg_of_neg_of_pos g2 pa
    rw [Int.zero_mul] at key
    have q3 : r < 0 := by
      rcases Int.lt_or_le r 0 with h3 | h3
      · exact h3
      · have := Int.mul_nonneg h3 (Int.le_of_lt pb)
        omega
    unfold sgF
    rw [if_pos q3]
    omega
  · right
    subst g1 g2
    rw [Int.zero_mul, Int.zero_mul] at key
    have q3 : r = 0 := by
      rcases Int.mul_eq_zero.1 (by simpa using key) with h3 | h3
      · exact h3
      · omega
    rw [q3]
    exact ⟨e1, e2, rfl⟩
set_option maxRecDepth 100000 in
set_option maxHeartbeats 8000000 in
theorem walk_RationalOrder (an ad bn bd cn cd : Int) (w : World) (_ : (Lit.int .i64 an).wf = true) (_ : (Lit.int .i64 ad).wf = true) (_ : (Lit.int .i64 bn).wf = true) (_ : (Lit.int .i64 bd).wf = true) (_ : (Lit.int .i64 cn).wf = true) (_ : (Lit.int .i64 cd).wf = true) (ht : PW w) :
    Calls Tryd.prog 7 #[.agg #[.int .i64 an, .int .i64 ad], .agg #[.int .i64 bn, .int .i64 bd], .agg #[.int .i64 cn, .int .i64 cd]] w (Ret (.bool true) w) := by
  have HH := Lib.hid (fun w h => head02_c w h)
  have HT := Lib.hid ht
  clear ht
  cases hv : (vR an ad && vR bn bd)
  · have H1 := Lib.hid (fun w => cmp_no (an := an) (ad := ad) (bn := bn) (bd := bd) hv w)
    have H2 := Lib.hid (fun w => cmp_no (an := bn) (ad := bd) (bn := an) (bd := ad) (by rw [Bool.and_comm]; exact hv) w)
    clear hv
    go_enter Tryd.func7, Tryd.ntmps7
    go_wp2_with (first | (go_at_call 11; ((with_reducible refine (HH.out _ (tab_up HT.out (by (repeat (first | (with_reducible exact bl_refl _) | (with_reducible refine bl_drew ?_) | (with_reducible refine bl_alloc ?_ _) | (with_reducible refine bl_set' ?_ ?_; · (first | omega | (simp; done) | (simp; omega))) | (with_reducible refine bl_last (by assumption) ?_) | (with_reducible refine bl_drewN ?_ _)))))).mono ?_); rintro e w' ⟨rfl, hb⟩; obtain ⟨hz, hc, hf⟩ := bcl hb (by first | (simp; rfl) | rfl))) | (go_at_call 18; ((with_reducible refine (H1.out _).mono ?_); rintro e w' ⟨rfl, hb⟩; obtain ⟨hz, hc, hf⟩ := bcl hb (by first | (simp; rfl) | rfl))) | (go_at_call 18; ((with_reducible refine (H2.out _).mono ?_); rintro e w' ⟨rfl, hb⟩; obtain ⟨hz, hc, hf⟩ := bcl hb (by first | (simp; rfl) | rfl))))
    go_ret
    refine ⟨rfl, ?_⟩
    (repeat (first | (with_reducible exact bl_refl _) | (with_reducible refine bl_drew ?_) | (with_reducible refine bl_alloc ?_ _) | (with_reducible refine bl_set' ?_ ?_; · (first | omega | (simp; done) | (simp; omega))) | (with_reducible refine bl_last (by assumption) ?_) | (with_reducible refine bl_drewN ?_ _)))
  have hv' : vR an ad = true ∧ vR bn bd = true := by simpa using hv
  obtain ⟨va, vb⟩ := hv'
  clear hv
  obtain ⟨x, hx⟩ : ∃ x, sgF (an * bd - bn * ad) = x := ⟨_, rfl⟩
  have hy : sgF (bn * ad - an * bd) = -x := by
    rw [← hx, ← sg_neg]
    congr 1
    omega
  have H1 := fun w => cmp_sg va vb w
  have H2 := fun w => cmp_sg vb va w
  rw [hx] at H1
  rw [hy] at H2
  have HX : Hid (x = 0 → an = bn ∧ ad = bd) := Lib.hid (fun h0 => by
    rw [h0] at hx
    rcases sg_ways (an * bd - bn * ad) with ⟨g, e⟩ | ⟨g, e⟩ | ⟨g, e⟩
    · omega
    · omega
    · exact vR_eq va vb (by omega))
  have HX' : Hid (x ≠ 0 → ¬ (an = bn ∧ ad = bd)) := Lib.hid (fun h0 h => h0 (by
    rw [← hx, h.1, h.2, Int.sub_self]
    rfl))
  -- the difference
  have A3 := fun w => Sub_c an ad bn bd w
  simp only [subV_eq] at A3
  have HS : Hid (suE an ad bn bd = 0 → sgF (suN an ad bn bd) = x) := Lib.hid (fun h => (sub_sg h).trans hx)
  -- the floor
  obtain ⟨a1, a2, a3, a4, _⟩ := v_of va
  have A4 := fun w => Floor_c an ad w
  unfold flV at A4
  rw [va] at A4
  simp only [if_true] at A4
  have f1 : an / ad * ad ≤ an := Int.ediv_mul_le an (by omega)
  have f2 : an < an / ad * ad + ad := by
    have := Int.lt_ediv_add_one_mul_self an (show 0 < ad by omega)
    rw [Int.add_mul, Int.one_mul] at this
    exact this
  -- with the third number
  have hc3 : ∃ z w' i : Int, (∀ w, Calls Tryd.prog 18 #[.agg #[.int .i64 bn, .int .i64 bd], .agg #[.int .i64 cn, .int .i64 cd]] w (Ret (.tuple #[.int .i64 z, .int .i64 i]) w)) ∧
      (∀ w, Calls Tryd.prog 18 #[.agg #[.int .i64 an, .int .i64 ad], .agg #[.int .i64 cn, .int .i64 cd]] w (Ret (.tuple #[.int .i64 w', .int .i64 i]) w)) ∧ (i = 1 ∨ (i = 0 ∧ (x ≤ 0 → z ≤ 0 → w' < 0 ∨ (x = 0 ∧ z = 0 ∧ w' = 0)))) := by
    cases hc : vR cn cd
    · exact ⟨0, 0, 1, cmp_no (by rw [hc, Bool.and_false]), cmp_no (by rw [hc, Bool.and_false]), Or.inl rfl⟩
    · refine ⟨_, _, 0, cmp_sg vb hc, cmp_sg va hc, Or.inr ⟨rfl, fun h1 h2 => ?_⟩⟩
      rw [← hx] at h1 ⊢
      exact sg_trans (den_pos va) (den_pos vb) (den_pos hc) h1 h2
  obtain ⟨z, w3, i, A5, A6, hi⟩ := hc3
  have A7 := fun w => Add_c an ad cn cd w
  have A8 := fun w => Add_c bn bd cn cd w
  simp only [addV_eq] at A7 A8
  have A9 : adE an ad cn cd = 0 → adE bn bd cn cd = 0 → ∀ w, Calls Tryd.prog 18 #[.agg #[.int .i64 (adN an ad cn cd), .int .i64 (adD an ad cn cd)], .agg #[.int .i64 (adN bn bd cn cd), .int .i64 (adD bn bd cn cd)]] w (Ret (.tuple #[.int .i64 x, .int .i64 0]) w) := fun h1 h2 w => by
    have h := cmp_sg (ad_spec h1).2.2.1 (ad_spec h2).2.2.1 w
    rw [add_sg h1 h2, hx] at h
    exact h
  have hx3 : x = -1 ∨ x = 0 ∨ x = 1 := by
    rcases sg_ways (an * bd - bn * ad) with ⟨_, e⟩ | ⟨_, e⟩ | ⟨_, e⟩ <;> omega
  clear hx hy va vb
  generalize suN an ad bn bd = N3 at *
  generalize suD an ad bn bd = D3 at *
  generalize suE an ad bn bd = E3 at *
  generalize adN an ad cn cd = N7 at *
  generalize adD an ad cn cd = D7 at *
  generalize adE an ad cn cd = E7 at *
  generalize adN bn bd cn cd = N8 at *
  generalize adD bn bd cn cd = D8 at *
  generalize adE bn bd cn cd = E8 at *
  generalize an / ad = n at *
  generalize hp : n * ad = p at *
  have HP := Lib.hid hp
  have H1 := Lib.hid H1
  have H2 := Lib.hid H2
  have H3 := Lib.hid A3
  have H4 := Lib.hid A4
  have H5 := Lib.hid A5
  have H6 := Lib.hid A6
  have H7 := Lib.hid A7
  have H8 := Lib.hid A8
  have H9 := Lib.hid A9
  have HI := Lib.hid hi
  clear A3 A4 A5 A6 A7 A8 A9 hi
  have g1 : decide (0 ≤ an - p) = true := decide_eq_true (by omega)
  have g2 : decide (an - p < ad) = true := decide_eq_true (by omega)
  rcases hx3 with rfl | rfl | rfl
  · have hne := HX'.out (by decide)
    clear HX HX'
    by_cases hab : an = bn
    · subst hab
      have hq : ¬ ad = bd := fun h => hne ⟨rfl, h⟩
      have hq' : (ad == bd) = false := by simpa using hq
      clear hne
      go_enter Tryd.func7, Tryd.ntmps7
      go_upto_region 8 with (first | (go_at_call 11; ((with_reducible refine (HH.out _ (tab_up HT.out (by (repeat (first | (with_reducible exact bl_refl _) | (with_reducible refine bl_drew ?_) | (with_reducible refine bl_alloc ?_ _) | (with_reducible refine bl_set' ?_ ?_; · (first | omega | (simp; done) | (simp; omega))) | (with_reducible refine bl_last (by assumption) ?_) | (with_reducible refine bl_drewN ?_ _)))))).mono ?_); rintro e w' ⟨rfl, hb⟩; obtain ⟨hz, hc, hf⟩ := bcl hb (by first | (simp; rfl) | rfl))) | (go_at_call 18; ((with_reducible refine (H1.out _).mono ?_); rintro e w' ⟨rfl, hb⟩; obtain ⟨hz, hc, hf⟩ := bcl hb (by first | (simp; rfl) | rfl))) | (go_at_call 18; ((with_reducible refine (H2.out _).mono ?_); rintro e w' ⟨rfl, hb⟩; obtain ⟨hz, hc, hf⟩ := bcl hb (by first | (simp; rfl) | rfl))) | (go_at_call 20; ((with_reducible refine (H3.out _).mono ?_); rintro e w' ⟨rfl, hb⟩; obtain ⟨hz, hc, hf⟩ := bcl hb (by first | (simp; rfl) | rfl))))
      by_cases h3 : E3 = 0
      · have hn3 : N3 < 0 := by
          have := HS.out h3
          rcases sg_ways N3 with ⟨g, e⟩ | ⟨g, e⟩ | ⟨g, e⟩ <;> omega
        subst h3
        have hd1 : decide (0 < N3) = false := decide_eq_false (by omega)
        have hd2 : decide (N3 < 0) = true := decide_eq_true (by omega)
        go_upto_region 14 with (first | (go_at_call 21; ((with_reducible refine (H4.out _).mono ?_); rintro e w' ⟨rfl, hb⟩; obtain ⟨hz, hc, hf⟩ := bcl hb (by first | (simp; rfl) | rfl))) | (go_at_call 18; ((with_reducible refine (H5.out _).mono ?_); rintro e w' ⟨rfl, hb⟩; obtain ⟨hz, hc, hf⟩ := bcl hb (by first | (simp; rfl) | rfl))) | (go_at_call 18; ((with_reducible refine (H6.out _).mono ?_); rintro e w' ⟨rfl, hb⟩; obtain ⟨hz, hc, hf⟩ := bcl hb (by first | (simp; rfl) | rfl))))
        have hi := HI.out
        rcases hi with rfl | ⟨rfl, hi⟩
        · go_wp2
          go_ret
          refine ⟨rfl, ?_⟩
          (repeat (first | (with_reducible exact bl_refl _) | (with_reducible refine bl_drew ?_) | (with_reducible refine bl_alloc ?_ _) | (with_reducible refine bl_set' ?_ ?_; · (first | omega | (simp; done) | (simp; omega))) | (with_reducible refine bl_last (by assumption) ?_) | (with_reducible refine bl_drewN ?_ _)))
        by_cases hz : z ≤ 0
        · have hw : w3 < 0 := by
            rcases hi (by omega) hz with h | ⟨h, _⟩ <;> omega
          clear hi
          go_upto_region 19 with (go_at_call 19; ((with_reducible refine (H7.out _).mono ?_); rintro e w' ⟨rfl, hb⟩; obtain ⟨hz, hc, hf⟩ := bcl hb (by first | (simp; rfl) | rfl)))
          go_upto_region 20 with (go_at_call 19; ((with_reducible refine (H8.out _).mono ?_); rintro e w' ⟨rfl, hb⟩; obtain ⟨hz, hc, hf⟩ := bcl hb (by first | (simp; rfl) | rfl)))
          by_cases h7 : E7 = 0
          · subst h7
            by_cases h8 : E8 = 0
            · subst h8
              have H9' := Lib.hid (H9.out rfl rfl)
              go_wp2_with (go_at_call 18; ((with_reducible refine (H9'.out _).mono ?_); rintro e w' ⟨rfl, hb⟩; obtain ⟨hz, hc, hf⟩ := bcl hb (by first | (simp; rfl) | rfl)))
              go_ret
              refine ⟨rfl, ?_⟩
              (repeat (first | (with_reducible exact bl_refl _) | (with_reducible refine bl_drew ?_) | (with_reducible refine bl_alloc ?_ _) | (with_reducible refine bl_set' ?_ ?_; · (first | omega | (simp; done) | (simp; omega))) | (with_reducible refine bl_last (by assumption) ?_) | (with_reducible refine bl_drewN ?_ _)))
            · have h8' : (E8 != 0) = true := by simpa using h8
              go_wp2
              go_ret
              refine ⟨rfl, ?_⟩
              (repeat (first | (with_reducible exact bl_refl _) | (with_reducible refine bl_drew ?_) | (with_reducible refine bl_alloc ?_ _) | (with_reducible refine bl_set' ?_ ?_; · (first | omega | (simp; done) | (simp; omega))) | (with_reducible refine bl_last (by assumption) ?_) | (with_reducible refine bl_drewN ?_ _)))
          · have h7' : (E7 != 0) = true := by simpa using h7
            go_wp2
            go_ret
            refine ⟨rfl, ?_⟩
            (repeat (first | (with_reducible exact bl_refl _) | (with_reducible refine bl_drew ?_) | (with_reducible refine bl_alloc ?_ _) | (with_reducible refine bl_set' ?_ ?_; · (first | omega | (simp; done) | (simp; omega))) | (with_reducible refine bl_last (by assumption) ?_) | (with_reducible refine bl_drewN ?_ _)))
        · clear hi
          go_upto_region 19 with (go_at_call 19; ((with_reducible refine (H7.out _).mono ?_); rintro e w' ⟨rfl, hb⟩; obtain ⟨hz, hc, hf⟩ := bcl hb (by first | (simp; rfl) | rfl)))
          go_upto_region 20 with (go_at_call 19; ((with_reducible refine (H8.out _).mono ?_); rintro e w' ⟨rfl, hb⟩; obtain ⟨hz, hc, hf⟩ := bcl hb (by first | (simp; rfl) | rfl)))
          by_cases h7 : E7 = 0
          · subst h7
            by_cases h8 : E8 = 0
            · subst h8
              have H9' := Lib.hid (H9.out rfl rfl)
              go_wp2_with (go_at_call 18; ((with_reducible refine (H9'.out _).mono ?_); rintro e w' ⟨rfl, hb⟩; obtain ⟨hz, hc, hf⟩ := bcl hb (by first | (simp; rfl) | rfl)))
              go_ret
              refine ⟨rfl, ?_⟩
              (repeat (first | (with_reducible exact bl_refl _) | (with_reducible refine bl_drew ?_) | (with_reducible refine bl_alloc ?_ _) | (with_reducible refine bl_set' ?_ ?_; · (first | omega | (simp; done) | (simp; omega))) | (with_reducible refine bl_last (by assumption) ?_) | (with_reducible refine bl_drewN ?_ _)))
            · have h8' : (E8 != 0) = true := by simpa using h8
              go_wp2
              go_ret
              refine ⟨rfl, ?_⟩
              (repeat (first | (with_reducible exact bl_refl _) | (with_reducible refine bl_drew ?_) | (with_reducible refine bl_alloc ?_ _) | (with_reducible refine bl_set' ?_ ?_; · (first | omega | (simp; done) | (simp; omega))) | (with_reducible refine bl_last (by assumption) ?_) | (with_reducible refine bl_drewN ?_ _)))
          · have h7' : (E7 != 0) = true := by simpa using h7
            go_wp2
            go_ret
            refine ⟨rfl, ?_⟩
            (repeat (first | (with_reducible exact bl_refl _) | (with_reducible refine bl_drew ?_) | (with_reducible refine bl_alloc ?_ _) | (with_reducible refine bl_set' ?_ ?_; · (first | omega | (simp; done) | (simp; omega))) | (with_reducible refine bl_last (by assumption) ?_) | (with_reducible refine bl_drewN ?_ _)))
      · have h3' : (E3 == 0) = false := by simpa using h3
        go_upto_region 14 with (first | (go_at_call 21; ((with_reducible refine (H4.out _).mono ?_); rintro e w' ⟨rfl, hb⟩; obtain ⟨hz, hc, hf⟩ := bcl hb (by first | (simp; rfl) | rfl))) | (go_at_call 18; ((with_reducible refine (H5.out _).mono ?_); rintro e w' ⟨rfl, hb⟩; obtain ⟨hz, hc, hf⟩ := bcl hb (by first | (simp; rfl) | rfl))) | (go_at_call 18; ((with_reducible refine (H6.out _).mono ?_); rintro e w' ⟨rfl, hb⟩; obtain ⟨hz, hc, hf⟩ := bcl hb (by first | (simp; rfl) | rfl))))
        have hi := HI.out
        rcases hi with rfl | ⟨rfl, hi⟩
        · go_wp2
          go_ret
          refine ⟨rfl, ?_⟩
          (repeat (first | (with_reducible exact bl_refl _) | (with_reducible refine bl_drew ?_) | (with_reducible refine bl_alloc ?_ _) | (with_reducible refine bl_set' ?_ ?_; · (first | omega | (simp; done) | (simp; omega))) | (with_reducible refine bl_last (by assumption) ?_) | (with_reducible refine bl_drewN ?_ _)))
        by_cases hz : z ≤ 0
        · have hw : w3 < 0 := by
            rcases hi (by omega) hz with h | ⟨h, _⟩ <;> omega
          clear hi
          go_upto_region 19 with (go_at_call 19; ((with_reducible refine (H7.out _).mono ?_); rintro e w' ⟨rfl, hb⟩; obtain ⟨hz, hc, hf⟩ := bcl hb (by first | (simp; rfl) | rfl)))
          go_upto_region 20 with (go_at_call 19; ((with_reducible refine (H8.out _).mono ?_); rintro e w' ⟨rfl, hb⟩; obtain ⟨hz, hc, hf⟩ := bcl hb (by first | (simp; rfl) | rfl)))
          by_cases h7 : E7 = 0
          · subst h7
            by_cases h8 : E8 = 0
            · subst h8
              have H9' := Lib.hid (H9.out rfl rfl)
              go_wp2_with (go_at_call 18; ((with_reducible refine (H9'.out _).mono ?_); rintro e w' ⟨rfl, hb⟩; obtain ⟨hz, hc, hf⟩ := bcl hb (by first | (simp; rfl) | rfl)))
              go_ret
              refine ⟨rfl, ?_⟩
              (repeat (first | (with_reducible exact bl_refl _) | (with_reducible refine bl_drew ?_) | (with_reducible refine bl_alloc ?_ _) | (with_reducible refine bl_set' ?_ ?_; · (first | omega | (simp; done) | (simp; omega))) | (with_reducible refine bl_last (by assumption) ?_) | (with_reducible refine bl_drewN ?_ _)))
            · have h8' : (E8 != 0) = true := by simpa using h8
              go_wp2
              go_ret
              refine ⟨rfl, ?_⟩
              (repeat (first | (with_reducible exact bl_refl _) | (with_reducible refine bl_drew ?_) | (with_reducible refine bl_alloc ?_ _) | (with_reducible refine bl_set' ?_ ?_; · (first | omega | (simp; done) | (simp; omega))) | (with_reducible refine bl_last (by assumption) ?_) | (with_reducible refine bl_drewN ?_ _)))
          · have h7' : (E7 != 0) = true := by simpa using h7
            go_wp2
            go_ret
            refine ⟨rfl, ?_⟩
            (repeat (first | (with_reducible exact bl_refl _) | (with_reducible refine bl_drew ?_) | (with_reducible refine bl_alloc ?_ _) | (with_reducible refine bl_set' ?_ ?_; · (first | omega | (simp; done) | (simp; omega))) | (with_reducible refine bl_last (by assumption) ?_) | (with_reducible refine bl_drewN ?_ _)))
        · clear hi
          go_upto_region 19 with (go_at_call 19; ((with_reducible refine (H7.out _).mono ?_); rintro e w' ⟨rfl, hb⟩; obtain ⟨hz, hc, hf⟩ := bcl hb (by first | (simp; rfl) | rfl)))
          go_upto_region 20 with (go_at_call 19; ((with_reducible refine (H8.out _).mono ?_); rintro e w' ⟨rfl, hb⟩; obtain ⟨hz, hc, hf⟩ := bcl hb (by first | (simp; rfl) | rfl)))
          by_cases h7 : E7 = 0
          · subst h7
            by_cases h8 : E8 = 0
            · subst h8
              have H9' := Lib.hid (H9.out rfl rfl)
              go_wp2_with (go_at_call 18; ((with_reducible refine (H9'.out _).mono ?_); rintro e w' ⟨rfl, hb⟩; obtain ⟨hz, hc, hf⟩ := bcl hb (by first | (simp; rfl) | rfl)))
              go_ret
              refine ⟨rfl, ?_⟩
              (repeat (first | (with_reducible exact bl_refl _) | (with_reducible refine bl_drew ?_) | (with_reducible refine bl_alloc ?_ _) | (with_reducible refine bl_set' ?_ ?_; · (first | omega | (simp; done) | (simp; omega))) | (with_reducible refine bl_last (by assumption) ?_) | (with_reducible refine bl_drewN ?_ _)))
            · have h8' : (E8 != 0) = true := by simpa using h8
              go_wp2
              go_ret
              refine ⟨rfl, ?_⟩
              (repeat (first | (with_reducible exact bl_refl _) | (with_reducible refine bl_drew ?_) | (with_reducible refine bl_alloc ?_ _) | (with_reducible refine bl_set' ?_ ?_; · (first | omega | (simp; done) | (simp; omega))) | (with_reducible refine bl_last (by assumption) ?_) | (with_reducible refine bl_drewN ?_ _)))
          · have h7' : (E7 != 0) = true := by simpa using h7
            go_wp2
            go_ret
            refine ⟨rfl, ?_⟩
            (repeat (first | (with_reducible exact bl_refl _) | (with_reducible refine bl_drew ?_) | (with_reducible refine bl_alloc ?_ _) | (with_reducible refine bl_set' ?_ ?_; · (first | omega | (simp; done) | (simp; omega))) | (with_reducible refine bl_last (by assumption) ?_) | (with_reducible refine bl_drewN ?_ _)))
    · have hq' : (an == bn) = false := by simpa using hab
      clear hne
      go_enter Tryd.func7, Tryd.ntmps7
      go_upto_region 8 with (first | (go_at_call 11; ((with_reducible refine (HH.out _ (tab_up HT.out (by (repeat (first | (with_reducible exact bl_refl _) | (with_reducible refine bl_drew ?_) | (with_reducible refine bl_alloc ?_ _) | (with_reducible refine bl_set' ?_ ?_; · (first | omega | (simp; done) | (simp; omega))) | (with_reducible refine bl_last (by assumption) ?_) | (with_reducible refine bl_drewN ?_ _)))))).mono ?_); rintro e w' ⟨rfl, hb⟩; obtain ⟨hz, hc, hf⟩ := bcl hb (by first | (simp; rfl) | rfl))) | (go_at_call 18; ((with_reducible refine (H1.out _).mono ?_); rintro e w' ⟨rfl, hb⟩; obtain ⟨hz, hc, hf⟩ := bcl hb (by first | (simp; rfl) | rfl))) | (go_at_call 18; ((with_reducible refine (H2.out _).mono ?_); rintro e w' ⟨rfl, hb⟩; obtain ⟨hz, hc, hf⟩ := bcl hb (by first | (simp; rfl) | rfl))) | (go_at_call 20; ((with_reducible refine (H3.out _).mono ?_); rintro e w' ⟨rfl, hb⟩; obtain ⟨hz, hc, hf⟩ := bcl hb (by first | (simp; rfl) | rfl))))
      by_cases h3 : E3 = 0
      · have hn3 : N3 < 0 := by
          have := HS.out h3
          rcases sg_ways N3 with ⟨g, e⟩ | ⟨g, e⟩ | ⟨g, e⟩ <;> omega
        subst h3
        have hd1 : decide (0 < N3) = false := decide_eq_false (by omega)
        have hd2 : decide (N3 < 0) = true := decide_eq_true (by omega)
        go_upto_region 14 with (first | (go_at_call 21; ((with_reducible refine (H4.out _).mono ?_); rintro e w' ⟨rfl, hb⟩; obtain ⟨hz, hc, hf⟩ := bcl hb (by first | (simp; rfl) | rfl))) | (go_at_call 18; ((with_reducible refine (H5.out _).mono ?_); rintro e w' ⟨rfl, hb⟩; obtain ⟨hz, hc, hf⟩ := bcl hb (by first | (simp; rfl) | rfl))) | (go_at_call 18; ((with_reducible refine (H6.out _).mono ?_); rintro e w' ⟨rfl, hb⟩; obtain ⟨hz, hc, hf⟩ := bcl hb (by first | (simp; rfl) | rfl))))
        have hi := HI.out
        rcases hi with rfl | ⟨rfl, hi⟩
        · go_wp2
          go_ret
          refine ⟨rfl, ?_⟩
          (repeat (first | (with_reducible exact bl_refl _) | (with_reducible refine bl_drew ?_) | (with_reducible refine bl_alloc ?_ _) | (with_reducible refine bl_set' ?_ ?_; · (first | omega | (simp; done) | (simp; omega))) | (with_reducible refine bl_last (by assumption) ?_) | (with_reducible refine bl_drewN ?_ _)))
        by_cases hz : z ≤ 0
        · have hw : w3 < 0 := by
            rcases hi (by omega) hz with h | ⟨h, _⟩ <;> omega
          clear hi
          go_upto_region 19 with (go_at_call 19; ((with_reducible refine (H7.out _).mono ?_); rintro e w' ⟨rfl, hb⟩; obtain ⟨hz, hc, hf⟩ := bcl hb (by first | (simp; rfl) | rfl)))
          go_upto_region 20 with (go_at_call 19; ((with_reducible refine (H8.out _).mono ?_); rintro e w' ⟨rfl, hb⟩; obtain ⟨hz, hc, hf⟩ := bcl hb (by first | (simp; rfl) | rfl)))
          by_cases h7 : E7 = 0
          · subst h7
            by_cases h8 : E8 = 0
            · subst h8
              have H9' := Lib.hid (H9.out rfl rfl)
              go_wp2_with (go_at_call 18; ((with_reducible refine (H9'.out _).mono ?_); rintro e w' ⟨rfl, hb⟩; obtain ⟨hz, hc, hf⟩ := bcl hb (by first | (simp; rfl) | rfl)))
              go_ret
              refine ⟨rfl, ?_⟩
              (repeat (first | (with_reducible exact bl_refl _) | (with_reducible refine bl_drew ?_) | (with_reducible refine bl_alloc ?_ _) | (with_reducible refine bl_set' ?_ ?_; · (first | omega | (simp; done) | (simp; omega))) | (with_reducible refine bl_last (by assumption) ?_) | (with_reducible refine bl_drewN ?_ _)))
            · have h8' : (E8 != 0) = true := by simpa using h8
              go_wp2
              go_ret
              refine ⟨rfl, ?_⟩
              (repeat (first | (with_reducible exact bl_refl _) | (with_reducible refine bl_drew ?_) | (with_reducible refine bl_alloc ?_ _) | (with_reducible refine bl_set' ?_ ?_; · (first | omega | (simp; done) | (simp; omega))) | (with_reducible refine bl_last (by assumption) ?_) | (with_reducible refine bl_drewN ?_ _)))
          · have h7' : (E7 != 0) = true := by simpa using h7
            go_wp2
            go_ret
            refine ⟨rfl, ?_⟩
            (repeat (first | (with_reducible exact bl_refl _) | (with_reducible refine bl_drew ?_) | (with_reducible refine bl_alloc ?_ _) | (with_reducible refine bl_set' ?_ ?_; · (first | omega | (simp; done) | (simp; omega))) | (with_reducible refine bl_last (by assumption) ?_) | (with_reducible refine bl_drewN ?_ _)))
        · clear hi
          go_upto_region 19 with (go_at_call 19; ((with_reducible refine (H7.out _).mono ?_); rintro e w' ⟨rfl, hb⟩; obtain ⟨hz, hc, hf⟩ := bcl hb (by first | (simp; rfl) | rfl)))
          go_upto_region 20 with (go_at_call 19; ((with_reducible refine (H8.out _).mono ?_); rintro e w' ⟨rfl, hb⟩; obtain ⟨hz, hc, hf⟩ := bcl hb (by first | (simp; rfl) | rfl)))
          by_cases h7 : E7 = 0
          · subst h7
            by_cases h8 : E8 = 0
            · subst h8
              have H9' := Lib.hid (H9.out rfl rfl)
              go_wp2_with (go_at_call 18; ((with_reducible refine (H9'.out _).mono ?_); rintro e w' ⟨rfl, hb⟩; obtain ⟨hz, hc, hf⟩ := bcl hb (by first | (simp; rfl) | rfl)))
              go_ret
              refine ⟨rfl, ?_⟩
              (repeat (first | (with_reducible exact bl_refl _) | (with_reducible refine bl_drew ?_) | (with_reducible refine bl_alloc ?_ _) | (with_reducible refine bl_set' ?_ ?_; · (first | omega | (simp; done) | (simp; omega))) | (with_reducible refine bl_last (by assumption) ?_) | (with_reducible refine bl_drewN ?_ _)))
            · have h8' : (E8 != 0) = true := by simpa using h8
              go_wp2
              go_ret
              refine ⟨rfl, ?_⟩
              (repeat (first | (with_reducible exact bl_refl _) | (with_reducible refine bl_drew ?_) | (with_reducible refine bl_alloc ?_ _) | (with_reducible refine bl_set' ?_ ?_; · (first | omega | (simp; done) | (simp; omega))) | (with_reducible refine bl_last (by assumption) ?_) | (with_reducible refine bl_drewN ?_ _)))
          · have h7' : (E7 != 0) = true := by simpa using h7
            go_wp2
            go_ret
            refine ⟨rfl, ?_⟩
            (repeat (first | (with_reducible exact bl_refl _) | (with_reducible refine bl_drew ?_) | (with_reducible refine bl_alloc ?_ _) | (with_reducible refine bl_set' ?_ ?_; · (first | omega | (simp; done) | (simp; omega))) | (with_reducible refine bl_last (by assumption) ?_) | (with_reducible refine bl_drewN ?_ _)))
      · have h3' : (E3 == 0) = false := by simpa using h3
        go_upto_region 14 with (first | (go_at_call 21; ((with_reducible refine (H4.out _).mono ?_); rintro e w' ⟨rfl, hb⟩; obtain ⟨hz, hc, hf⟩ := bcl hb (by first | (simp; rfl) | rfl))) | (go_at_call 18; ((with_reducible refine (H5.out _).mono ?_); rintro e w' ⟨rfl, hb⟩; obtain ⟨hz, hc, hf⟩ := bcl hb (by first | (simp; rfl) | rfl))) | (go_at_call 18; ((with_reducible refine (H6.out _).mono ?_); rintro e w' ⟨rfl, hb⟩; obtain ⟨hz, hc, hf⟩ := bcl hb (by first | (simp; rfl) | rfl))))
        have hi := HI.out
        rcases hi with rfl | ⟨rfl, hi⟩
        · go_wp2
          go_ret
          refine ⟨rfl, ?_⟩
          (repeat (first | (with_reducible exact bl_refl _) | (with_reducible refine bl_drew ?_) | (with_reducible refine bl_alloc ?_ _) | (with_reducible refine bl_set' ?_ ?_; · (first | omega | (simp; done) | (simp; omega))) | (with_reducible refine bl_last (by assumption) ?_) | (with_reducible refine bl_drewN ?_ _)))
        by_cases hz : z ≤ 0
        · have hw : w3 < 0 := by
            rcases hi (by omega) hz with h | ⟨h, _⟩ <;> omega
          clear hi
          go_upto_region 19 with (go_at_call 19; ((with_reducible refine (H7.out _).mono ?_); rintro e w' ⟨rfl, hb⟩; obtain ⟨hz, hc, hf⟩ := bcl hb (by first | (simp; rfl) | rfl)))
          go_upto_region 20 with (go_at_call 19; ((with_reducible refine (H8.out _).mono ?_); rintro e w' ⟨rfl, hb⟩; obtain ⟨hz, hc, hf⟩ := bcl hb (by first | (simp; rfl) | rfl)))
          by_cases h7 : E7 = 0
          · subst h7
            by_cases h8 : E8 = 0
            · subst h8
              have H9' := Lib.hid (H9.out rfl rfl)
              go_wp2_with (go_at_call 18; ((with_reducible refine (H9'.out _).mono ?_); rintro e w' ⟨rfl, hb⟩; obtain ⟨hz, hc, hf⟩ := bcl hb (by first | (simp; rfl) | rfl)))
              go_ret
              refine ⟨rfl, ?_⟩
              (repeat (first | (with_reducible exact bl_refl _) | (with_reducible refine bl_drew ?_) | (with_reducible refine bl_alloc ?_ _) | (with_reducible refine bl_set' ?_ ?_; · (first | omega | (simp; done) | (simp; omega))) | (with_reducible refine bl_last (by assumption) ?_) | (with_reducible refine bl_drewN ?_ _)))
            · have h8' : (E8 != 0) = true := by simpa using h8
              go_wp2
              go_ret
              refine ⟨rfl, ?_⟩
              (repeat (first | (with_reducible exact bl_refl _) | (with_reducible refine bl_drew ?_) | (with_reducible refine bl_alloc ?_ _) | (with_reducible refine bl_set' ?_ ?_; · (first | omega | (simp; done) | (simp; omega))) | (with_reducible refine bl_last (by assumption) ?_) | (with_reducible refine bl_drewN ?_ _)))
          · have h7' : (E7 != 0) = true := by simpa using h7
            go_wp2
            go_ret
            refine ⟨rfl, ?_⟩
            (repeat (first | (with_reducible exact bl_refl _) | (with_reducible refine bl_drew ?_) | (with_reducible refine bl_alloc ?_ _) | (with_reducible refine bl_set' ?_ ?_; · (first | omega | (simp; done) | (simp; omega))) | (with_reducible refine bl_last (by assumption) ?_) | (with_reducible refine bl_drewN ?_ _)))
        · clear hi
          go_upto_region 19 with (go_at_call 19; ((with_reducible refine (H7.out _).mono ?_); rintro e w' ⟨rfl, hb⟩; obtain ⟨hz, hc, hf⟩ := bcl hb (by first | (simp; rfl) | rfl)))
          go_upto_region 20 with (go_at_call 19; ((with_reducible refine (H8.out _).mono ?_); rintro e w' ⟨rfl, hb⟩; obtain ⟨hz, hc, hf⟩ := bcl hb (by first | (simp; rfl) | rfl)))
          by_cases h7 : E7 = 0
          · subst h7
            by_cases h8 : E8 = 0
            · subst h8
              have H9' := Lib.hid (H9.out rfl rfl)
              go_wp2_with (go_at_call 18; ((with_reducible refine (H9'.out _).mono ?_); rintro e w' ⟨rfl, hb⟩; obtain ⟨hz, hc, hf⟩ := bcl hb (by first | (simp; rfl) | rfl)))
              go_ret
              refine ⟨rfl, ?_⟩
              (repeat (first | (with_reducible exact bl_refl _) | (with_reducible refine bl_drew ?_) | (with_reducible refine bl_alloc ?_ _) | (with_reducible refine bl_set' ?_ ?_; · (first | omega | (simp; done) | (simp; omega))) | (with_reducible refine bl_last (by assumption) ?_) | (with_reducible refine bl_drewN ?_ _)))
            · have h8' : (E8 != 0) = true := by simpa using h8
              go_wp2
              go_ret
              refine ⟨rfl, ?_⟩
              (repeat (first | (with_reducible exact bl_refl _) | (with_reducible refine bl_drew ?_) | (with_reducible refine bl_alloc ?_ _) | (with_reducible refine bl_set' ?_ ?_; · (first | omega | (simp; done) | (simp; omega))) | (with_reducible refine bl_last (by assumption) ?_) | (with_reducible refine bl_drewN ?_ _)))
          · have h7' : (E7 != 0) = true := by simpa using h7
            go_wp2
            go_ret
            refine ⟨rfl, ?_⟩
            (repeat (first | (with_reducible exact bl_refl _) | (with_reducible refine bl_drew ?_) | (with_reducible refine bl_alloc ?_ _) | (with_reducible refine bl_set' ?_ ?_; · (first | omega | (simp; done) | (simp; omega))) | (with_reducible refine bl_last (by assumption) ?_) | (with_reducible refine bl_drewN ?_ _)))
  · obtain ⟨rfl, rfl⟩ := HX.out rfl
    clear HX HX'
    go_enter Tryd.func7, Tryd.ntmps7
    go_upto_region 8 with (first | (go_at_call 11; ((with_reducible refine (HH.out _ (tab_up HT.out (by (repeat (first | (with_reducible exact bl_refl _) | (with_reducible refine bl_drew ?_) | (with_reducible refine bl_alloc ?_ _) | (with_reducible refine bl_set' ?_ ?_; · (first | omega | (simp; done) | (simp; omega))) | (with_reducible refine bl_last (by assumption) ?_) | (with_reducible refine bl_drewN ?_ _)))))).mono ?_); rintro e w' ⟨rfl, hb⟩; obtain ⟨hz, hc, hf⟩ := bcl hb (by first | (simp; rfl) | rfl))) | (go_at_call 18; ((with_reducible refine (H1.out _).mono ?_); rintro e w' ⟨rfl, hb⟩; obtain ⟨hz, hc, hf⟩ := bcl hb (by first | (simp; rfl) | rfl))) | (go_at_call 18; ((with_reducible refine (H2.out _).mono ?_); rintro e w' ⟨rfl, hb⟩; obtain ⟨hz, hc, hf⟩ := bcl hb (by first | (simp; rfl) | rfl))) | (go_at_call 20; ((with_reducible refine (H3.out _).mono ?_); rintro e w' ⟨rfl, hb⟩; obtain ⟨hz, hc, hf⟩ := bcl hb (by first | (simp; rfl) | rfl))))
    by_cases h3 : E3 = 0
    · have hn3 : N3 = 0 := by
        have := HS.out h3
        rcases sg_ways N3 with ⟨g, e⟩ | ⟨g, e⟩ | ⟨g, e⟩ <;> omega
      subst h3
      subst hn3
      go_upto_region 14 with (first | (go_at_call 21; ((with_reducible refine (H4.out _).mono ?_); rintro e w' ⟨rfl, hb⟩; obtain ⟨hz, hc, hf⟩ := bcl hb (by first | (simp; rfl) | rfl))) | (go_at_call 18; ((with_reducible refine (H5.out _).mono ?_); rintro e w' ⟨rfl, hb⟩; obtain ⟨hz, hc, hf⟩ := bcl hb (by first | (simp; rfl) | rfl))) | (go_at_call 18; ((with_reducible refine (H6.out _).mono ?_); rintro e w' ⟨rfl, hb⟩; obtain ⟨hz, hc, hf⟩ := bcl hb (by first | (simp; rfl) | rfl))))
      have hi := HI.out
      rcases hi with rfl | ⟨rfl, hi⟩
      · go_wp2
        go_ret
        refine ⟨rfl, ?_⟩
        (repeat (first | (with_reducible exact bl_refl _) | (with_reducible refine bl_drew ?_) | (with_reducible refine bl_alloc ?_ _) | (with_reducible refine bl_set' ?_ ?_; · (first | omega | (simp; done) | (simp; omega))) | (with_reducible refine bl_last (by assumption) ?_) | (with_reducible refine bl_drewN ?_ _)))
      by_cases hz : z ≤ 0
      · rcases hi (by omega) hz with hw | ⟨_, rfl, rfl⟩
        · clear hi
          rcases (show z < 0 ∨ z = 0 by omega) with hz2 | rfl
          · go_upto_region 19 with (go_at_call 19; ((with_reducible refine (H7.out _).mono ?_); rintro e w' ⟨rfl, hb⟩; obtain ⟨hz, hc, hf⟩ := bcl hb (by first | (simp; rfl) | rfl)))
            go_upto_region 20 with (go_at_call 19; ((with_reducible refine (H8.out _).mono ?_); rintro e w' ⟨rfl, hb⟩; obtain ⟨hz, hc, hf⟩ := bcl hb (by first | (simp; rfl) | rfl)))
            by_cases h7 : E7 = 0
            · subst h7
              by_cases h8 : E8 = 0
              · subst h8
                have H9' := Lib.hid (H9.out rfl rfl)
                go_wp2_with (go_at_call 18; ((with_reducible refine (H9'.out _).mono ?_); rintro e w' ⟨rfl, hb⟩; obtain ⟨hz, hc, hf⟩ := bcl hb (by first | (simp; rfl) | rfl)))
                go_ret
                refine ⟨rfl, ?_⟩
                (repeat (first | (with_reducible exact bl_refl _) | (with_reducible refine bl_drew ?_) | (with_reducible refine bl_alloc ?_ _) | (with_reducible refine bl_set' ?_ ?_; · (first | omega | (simp; done) | (simp; omega))) | (with_reducible refine bl_last (by assumption) ?_) | (with_reducible refine bl_drewN ?_ _)))
              · have h8' : (E8 != 0) = true := by simpa using h8
                go_wp2
                go_ret
                refine ⟨rfl, ?_⟩
                (repeat (first | (with_reducible exact bl_refl _) | (with_reducible refine bl_drew ?_) | (with_reducible refine bl_alloc ?_ _) | (with_reducible refine bl_set' ?_ ?_; · (first | omega | (simp; done) | (simp; omega))) | (with_reducible refine bl_last (by assumption) ?_) | (with_reducible refine bl_drewN ?_ _)))
            · have h7' : (E7 != 0) = true := by simpa using h7
              go_wp2
              go_ret
              refine ⟨rfl, ?_⟩
              (repeat (first | (with_reducible exact bl_refl _) | (with_reducible refine bl_drew ?_) | (with_reducible refine bl_alloc ?_ _) | (with_reducible refine bl_set' ?_ ?_; · (first | omega | (simp; done) | (simp; omega))) | (with_reducible refine bl_last (by assumption) ?_) | (with_reducible refine bl_drewN ?_ _)))
          · go_upto_region 19 with (go_at_call 19; ((with_reducible refine (H7.out _).mono ?_); rintro e w' ⟨rfl, hb⟩; obtain ⟨hz, hc, hf⟩ := bcl hb (by first | (simp; rfl) | rfl)))
            go_upto_region 20 with (go_at_call 19; ((with_reducible refine (H8.out _).mono ?_); rintro e w' ⟨rfl, hb⟩; obtain ⟨hz, hc, hf⟩ := bcl hb (by first | (simp; rfl) | rfl)))
            by_cases h7 : E7 = 0
            · subst h7
              by_cases h8 : E8 = 0
              · subst h8
                have H9' := Lib.hid (H9.out rfl rfl)
                go_wp2_with (go_at_call 18; ((with_reducible refine (H9'.out _).mono ?_); rintro e w' ⟨rfl, hb⟩; obtain ⟨hz, hc, hf⟩ := bcl hb (by first | (simp; rfl) | rfl)))
                go_ret
                refine ⟨rfl, ?_⟩
                (repeat (first | (with_reducible exact bl_refl _) | (with_reducible refine bl_drew ?_) | (with_reducible refine bl_alloc ?_ _) | (with_reducible refine bl_set' ?_ ?_; · (first | omega | (simp; done) | (simp; omega))) | (with_reducible refine bl_last (by assumption) ?_) | (with_reducible refine bl_drewN ?_ _)))
              · have h8' : (E8 != 0) = true := by simpa using h8
                go_wp2
                go_ret
                refine ⟨rfl, ?_⟩
                (repeat (first | (with_reducible exact bl_refl _) | (with_reducible refine bl_drew ?_) | (with_reducible refine bl_alloc ?_ _) | (with_reducible refine bl_set' ?_ ?_; · (first | omega | (simp; done) | (simp; omega))) | (with_reducible refine bl_last (by assumption) ?_) | (with_reducible refine bl_drewN ?_ _)))
            · have h7' : (E7 != 0) = true := by simpa using h7
              go_wp2
              go_ret
              refine ⟨rfl, ?_⟩
              (repeat (first | (with_reducible exact bl_refl _) | (with_reducible refine bl_drew ?_) | (with_reducible refine bl_alloc ?_ _) | (with_reducible refine bl_set' ?_ ?_; · (first | omega | (simp; done) | (simp; omega))) | (with_reducible refine bl_last (by assumption) ?_) | (with_reducible refine bl_drewN ?_ _)))
        · clear hi
          go_upto_region 19 with (go_at_call 19; ((with_reducible refine (H7.out _).mono ?_); rintro e w' ⟨rfl, hb⟩; obtain ⟨hz, hc, hf⟩ := bcl hb (by first | (simp; rfl) | rfl)))
          go_upto_region 20 with (go_at_call 19; ((with_reducible refine (H8.out _).mono ?_); rintro e w' ⟨rfl, hb⟩; obtain ⟨hz, hc, hf⟩ := bcl hb (by first | (simp; rfl) | rfl)))
          by_cases h7 : E7 = 0
          · subst h7
            by_cases h8 : E8 = 0
            · subst h8
              have H9' := Lib.hid (H9.out rfl rfl)
              go_wp2_with (go_at_call 18; ((with_reducible refine (H9'.out _).mono ?_); rintro e w' ⟨rfl, hb⟩; obtain ⟨hz, hc, hf⟩ := bcl hb (by first | (simp; rfl) | rfl)))
              go_ret
              refine ⟨rfl, ?_⟩
              (repeat (first | (with_reducible exact bl_refl _) | (with_reducible refine bl_drew ?_) | (with_reducible refine bl_alloc ?_ _) | (with_reducible refine bl_set' ?_ ?_; · (first | omega | (simp; done) | (simp; omega))) | (with_reducible refine bl_last (by assumption) ?_) | (with_reducible refine bl_drewN ?_ _)))
            · have h8' : (E8 != 0) = true := by simpa using h8
              go_wp2
              go_ret
              refine ⟨rfl, ?_⟩
              (repeat (first | (with_reducible exact bl_refl _) | (with_reducible refine bl_drew ?_) | (with_reducible refine bl_alloc ?_ _) | (with_reducible refine bl_set' ?_ ?_; · (first | omega | (simp; done) | (simp; omega))) | (with_reducible refine bl_last (by assumption) ?_) | (with_reducible refine bl_drewN ?_ _)))
          · have h7' : (E7 != 0) = true := by simpa using h7
            go_wp2
            go_ret
            refine ⟨rfl, ?_⟩
            (repeat (first | (with_reducible exact bl_refl _) | (with_reducible refine bl_drew ?_) | (with_reducible refine bl_alloc ?_ _) | (with_reducible refine bl_set' ?_ ?_; · (first | omega | (simp; done) | (simp; omega))) | (with_reducible refine bl_last (by assumption) ?_) | (with_reducible refine bl_drewN ?_ _)))
      · clear hi
        go_upto_region 19 with (go_at_call 19; ((with_reducible refine (H7.out _).mono ?_); rintro e w' ⟨rfl, hb⟩; obtain ⟨hz, hc, hf⟩ := bcl hb (by first | (simp; rfl) | rfl)))
        go_upto_region 20 with (go_at_call 19; ((with_reducible refine (H8.out _).mono ?_); rintro e w' ⟨rfl, hb⟩; obtain ⟨hz, hc, hf⟩ := bcl hb (by first | (simp; rfl) | rfl)))
        by_cases h7 : E7 = 0
        · subst h7
          by_cases h8 : E8 = 0
          · subst h8
            have H9' := Lib.hid (H9.out rfl rfl)
            go_wp2_with (go_at_call 18; ((with_reducible refine (H9'.out _).mono ?_); rintro e w' ⟨rfl, hb⟩; obtain ⟨hz, hc, hf⟩ := bcl hb (by first | (simp; rfl) | rfl)))
            go_ret
            refine ⟨rfl, ?_⟩
            (repeat (first | (with_reducible exact bl_refl _) | (with_reducible refine bl_drew ?_) | (with_reducible refine bl_alloc ?_ _) | (with_reducible refine bl_set' ?_ ?_; · (first | omega | (simp; done) | (simp; omega))) | (with_reducible refine bl_last (by assumption) ?_) | (with_reducible refine bl_drewN ?_ _)))
          · have h8' : (E8 != 0) = true := by simpa using h8
            go_wp2
            go_ret
            refine ⟨rfl, ?_⟩
            (repeat (first | (with_reducible exact bl_refl _) | (with_reducible refine bl_drew ?_) | (with_reducible refine bl_alloc ?_ _) | (with_reducible refine bl_set' ?_ ?_; · (first | omega | (simp; done) | (simp; omega))) | (with_reducible refine bl_last (by assumption) ?_) | (with_reducible refine bl_drewN ?_ _)))
        · have h7' : (E7 != 0) = true := by simpa using h7
          go_wp2
          go_ret
          refine ⟨rfl, ?_⟩
          (repeat (first | (with_reducible exact bl_refl _) | (with_reducible refine bl_drew ?_) | (with_reducible refine bl_alloc ?_ _) | (with_reducible refine bl_set' ?_ ?_; · (first | omega | (simp; done) | (simp; omega))) | (with_reducible refine bl_last (by assumption) ?_) | (with_reducible refine bl_drewN ?_ _)))
    · have h3' : (E3 == 0) = false := by simpa using h3
      go_upto_region 14 with (first | (go_at_call 21; ((with_reducible refine (H4.out _).mono ?_); rintro e w' ⟨rfl, hb⟩; obtain ⟨hz, hc, hf⟩ := bcl hb (by first | (simp; rfl) | rfl))) | (go_at_call 18; ((with_reducible refine (H5.out _).mono ?_); rintro e w' ⟨rfl, hb⟩; obtain ⟨hz, hc, hf⟩ := bcl hb (by first | (simp; rfl) | rfl))) | (go_at_call 18; ((with_reducible refine (H6.out _).mono ?_); rintro e w' ⟨rfl, hb⟩; obtain ⟨hz, hc, hf⟩ := bcl hb (by first | (simp; rfl) | rfl))))
      have hi := HI.out
      rcases hi with rfl | ⟨rfl, hi⟩
      · go_wp2
        go_ret
        refine ⟨rfl, ?_⟩
        (repeat (first | (with_reducible exact bl_refl _) | (with_reducible refine bl_drew ?_) | (with_reducible refine bl_alloc ?_ _) | (with_reducible refine bl_set' ?_ ?_; · (first | omega | (simp; done) | (simp; omega))) | (with_reducible refine bl_last (by assumption) ?_) | (with_reducible refine bl_drewN ?_ _)))
      by_cases hz : z ≤ 0
      · rcases hi (by omega) hz with hw | ⟨_, rfl, rfl⟩
        · clear hi
          rcases (show z < 0 ∨ z = 0 by omega) with hz2 | rfl
          · go_upto_region 19 with (go_at_call 19; ((with_reducible refine (H7.out _).mono ?_); rintro e w' ⟨rfl, hb⟩; obtain ⟨hz, hc, hf⟩ := bcl hb (by first | (simp; rfl) | rfl)))
            go_upto_region 20 with (go_at_call 19; ((with_reducible refine (H8.out _).mono ?_); rintro e w' ⟨rfl, hb⟩; obtain ⟨hz, hc, hf⟩ := bcl hb (by first | (simp; rfl) | rfl)))
            by_cases h7 : E7 = 0
            · subst h7
              by_cases h8 : E8 = 0
              · subst h8
                have H9' := Lib.hid (H9.out rfl rfl)
                go_wp2_with (go_at_call 18; ((with_reducible refine (H9'.out _).mono ?_); rintro e w' ⟨rfl, hb⟩; obtain ⟨hz, hc, hf⟩ := bcl hb (by first | (simp; rfl) | rfl)))
                go_ret
                refine ⟨rfl, ?_⟩
                (repeat (first | (with_reducible exact bl_refl _) | (with_reducible refine bl_drew ?_) | (with_reducible refine bl_alloc ?_ _) | (with_reducible refine bl_set' ?_ ?_; · (first | omega | (simp; done) | (simp; omega))) | (with_reducible refine bl_last (by assumption) ?_) | (with_reducible refine bl_drewN ?_ _)))
              · have h8' : (E8 != 0) = true := by simpa using h8
                go_wp2
                go_ret
                refine ⟨rfl, ?_⟩
                (repeat (first | (with_reducible exact bl_refl _) | (with_reducible refine bl_drew ?_) | (with_reducible refine bl_alloc ?_ _) | (with_reducible refine bl_set' ?_ ?_; · (first | omega | (simp; done) | (simp; omega))) | (with_reducible refine bl_last (by assumption) ?_) | (with_reducible refine bl_drewN ?_ _)))
            · have h7' : (E7 != 0) = true := by simpa using h7
              go_wp2
              go_ret
              refine ⟨rfl, ?_⟩
              (repeat (first | (with_reducible exact bl_refl _) | (with_reducible refine bl_drew ?_) | (with_reducible refine bl_alloc ?_ _) | (with_reducible refine bl_set' ?_ ?_; · (first | omega | (simp; done) | (simp; omega))) | (with_reducible refine bl_last (by assumption) ?_) | (with_reducible refine bl_drewN ?_ _)))
          · go_upto_region 19 with (go_at_call 19; ((with_reducible refine (H7.out _).mono ?_); rintro e w' ⟨rfl, hb⟩; obtain ⟨hz, hc, hf⟩ := bcl hb (by first | (simp; rfl) | rfl)))
            go_upto_region 20 with (go_at_call 19; ((with_reducible refine (H8.out _).mono ?_); rintro e w' ⟨rfl, hb⟩; obtain ⟨hz, hc, hf⟩ := bcl hb (by first | (simp; rfl) | rfl)))
            by_cases h7 : E7 = 0
            · subst h7
              by_cases h8 : E8 = 0
              · subst h8
                have H9' := Lib.hid (H9.out rfl rfl)
                go_wp2_with (go_at_call 18; ((with_reducible refine (H9'.out _).mono ?_); rintro e w' ⟨rfl, hb⟩; obtain ⟨hz, hc, hf⟩ := bcl hb (by first | (simp; rfl) | rfl)))
                go_ret
                refine ⟨rfl, ?_⟩
                (repeat (first | (with_reducible exact bl_refl _) | (with_reducible refine bl_drew ?_) | (with_reducible refine bl_alloc ?_ _) | (with_reducible refine bl_set' ?_ ?_; · (first | omega | (simp; done) | (simp; omega))) | (with_reducible refine bl_last (by assumption) ?_) | (with_reducible refine bl_drewN ?_ _)))
              · have h8' : (E8 != 0) = true := by simpa using h8
                go_wp2
                go_ret
                refine ⟨rfl, ?_⟩
                (repeat (first | (with_reducible exact bl_refl _) | (with_reducible refine bl_drew ?_) | (with_reducible refine bl_alloc ?_ _) | (with_reducible refine bl_set' ?_ ?_; · (first | omega | (simp; done) | (simp; omega))) | (with_reducible refine bl_last (by assumption) ?_) | (with_reducible refine bl_drewN ?_ _)))
            · have h7' : (E7 != 0) = true := by simpa using h7
              go_wp2
              go_ret
              refine ⟨rfl, ?_⟩
              (repeat (first | (with_reducible exact bl_refl _) | (with_reducible refine bl_drew ?_) | (with_reducible refine bl_alloc ?_ _) | (with_reducible refine bl_set' ?_ ?_; · (first | omega | (simp; done) | (simp; omega))) | (with_reducible refine bl_last (by assumption) ?_) | (with_reducible refine bl_drewN ?_ _)))
        · clear hi
          go_upto_region 19 with (go_at_call 19; ((with_reducible refine (H7.out _).mono ?_); rintro e w' ⟨rfl, hb⟩; obtain ⟨hz, hc, hf⟩ := bcl hb (by first | (simp; rfl) | rfl)))
          go_upto_region 20 with (go_at_call 19; ((with_reducible refine (H8.out _).mono ?_); rintro e w' ⟨rfl, hb⟩; obtain ⟨hz, hc, hf⟩ := bcl hb (by first | (simp; rfl) | rfl)))
          by_cases h7 : E7 = 0
          · subst h7
            by_cases h8 : E8 = 0
            · subst h8
              have H9' := Lib.hid (H9.out rfl rfl)
              go_wp2_with (go_at_call 18; ((with_reducible refine (H9'.out _).mono ?_); rintro e w' ⟨rfl, hb⟩; obtain ⟨hz, hc, hf⟩ := bcl hb (by first | (simp; rfl) | rfl)))
              go_ret
              refine ⟨rfl, ?_⟩
              (repeat (first | (with_reducible exact bl_refl _) | (with_reducible refine bl_drew ?_) | (with_reducible refine bl_alloc ?_ _) | (with_reducible refine bl_set' ?_ ?_; · (first | omega | (simp; done) | (simp; omega))) | (with_reducible refine bl_last (by assumption) ?_) | (with_reducible refine bl_drewN ?_ _)))
            · have h8' : (E8 != 0) = true := by simpa using h8
              go_wp2
              go_ret
              refine ⟨rfl, ?_⟩
              (repeat (first | (with_reducible exact bl_refl _) | (with_reducible refine bl_drew ?_) | (with_reducible refine bl_alloc ?_ _) | (with_reducible refine bl_set' ?_ ?_; · (first | omega | (simp; done) | (simp; omega))) | (with_reducible refine bl_last (by assumption) ?_) | (with_reducible refine bl_drewN ?_ _)))
          · have h7' : (E7 != 0) = true := by simpa using h7
            go_wp2
            go_ret
            refine ⟨rfl, ?_⟩
            (repeat (first | (with_reducible exact bl_refl _) | (with_reducible refine bl_drew ?_) | (with_reducible refine bl_alloc ?_ _) | (with_reducible refine bl_set' ?_ ?_; · (first | omega | (simp; done) | (simp; omega))) | (with_reducible refine bl_last (by assumption) ?_) | (with_reducible refine bl_drewN ?_ _)))
      · clear hi
        go_upto_region 19 with (go_at_call 19; ((with_reducible refine (H7.out _).mono ?_); rintro e w' ⟨rfl, hb⟩; obtain ⟨hz, hc, hf⟩ := bcl hb (by first | (simp; rfl) | rfl)))
        go_upto_region 20 with (go_at_call 19; ((with_reducible refine (H8.out _).mono ?_); rintro e w' ⟨rfl, hb⟩; obtain ⟨hz, hc, hf⟩ := bcl hb (by first | (simp; rfl) | rfl)))
        by_cases h7 : E7 = 0
        · subst h7
          by_cases h8 : E8 = 0
          · subst h8
            have H9' := Lib.hid (H9.out rfl rfl)
            go_wp2_with (go_at_call 18; ((with_reducible refine (H9'.out _).mono ?_); rintro e w' ⟨rfl, hb⟩; obtain ⟨hz, hc, hf⟩ := bcl hb (by first | (simp; rfl) | rfl)))
            go_ret
            refine ⟨rfl, ?_⟩
            (repeat (first | (with_reducible exact bl_refl _) | (with_reducible refine bl_drew ?_) | (with_reducible refine bl_alloc ?_ _) | (with_reducible refine bl_set' ?_ ?_; · (first | omega | (simp; done) | (simp; omega))) | (with_reducible refine bl_last (by assumption) ?_) | (with_reducible refine bl_drewN ?_ _)))
          · have h8' : (E8 != 0) = true := by simpa using h8
            go_wp2
            go_ret
            refine ⟨rfl, ?_⟩
            (repeat (first | (with_reducible exact bl_refl _) | (with_reducible refine bl_drew ?_) | (with_reducible refine bl_alloc ?_ _) | (with_reducible refine bl_set' ?_ ?_; · (first | omega | (simp; done) | (simp; omega))) | (with_reducible refine bl_last (by assumption) ?_) | (with_reducible refine bl_drewN ?_ _)))
        · have h7' : (E7 != 0) = true := by simpa using h7
          go_wp2
          go_ret
          refine ⟨rfl, ?_⟩
          (repeat (first | (with_reducible exact bl_refl _) | (with_reducible refine bl_drew ?_) | (with_reducible refine bl_alloc ?_ _) | (with_reducible refine bl_set' ?_ ?_; · (first | omega | (simp; done) | (simp; omega))) | (with_reducible refine bl_last (by assumption) ?_) | (with_reducible refine bl_drewN ?_ _)))
  · have hne := HX'.out (by decide)
    clear HX HX'
    by_cases hab : an = bn
    · subst hab
      have hq : ¬ ad = bd := fun h => hne ⟨rfl, h⟩
      have hq' : (ad == bd) = false := by simpa using hq
      clear hne
      go_enter Tryd.func7, Tryd.ntmps7
      go_upto_region 8 with (first | (go_at_call 11; ((with_reducible refine (HH.out _ (tab_up HT.out (by (repeat (first | (with_reducible exact bl_refl _) | (with_reducible refine bl_drew ?_) | (with_reducible refine bl_alloc ?_ _) | (with_reducible refine bl_set' ?_ ?_; · (first | omega | (simp; done) | (simp; omega))) | (with_reducible refine bl_last (by assumption) ?_) | (with_reducible refine bl_drewN ?_ _)))))).mono ?_); rintro e w' ⟨rfl, hb⟩; obtain ⟨hz, hc, hf⟩ := bcl hb (by first | (simp; rfl) | rfl))) | (go_at_call 18; ((with_reducible refine (H1.out _).mono ?_); rintro e w' ⟨rfl, hb⟩; obtain ⟨hz, hc, hf⟩ := bcl hb (by first | (simp; rfl) | rfl))) | (go_at_call 18; ((with_reducible refine (H2.out _).mono ?_); rintro e w' ⟨rfl, hb⟩; obtain ⟨hz, hc, hf⟩ := bcl hb (by first | (simp; rfl) | rfl))) | (go_at_call 20; ((with_reducible refine (H3.out _).mono ?_); rintro e w' ⟨rfl, hb⟩; obtain ⟨hz, hc, hf⟩ := bcl hb (by first | (simp; rfl) | rfl))))
      by_cases h3 : E3 = 0
      · have hn3 : 0 < N3 := by
          have := HS.out h3
          rcases sg_ways N3 with ⟨g, e⟩ | ⟨g, e⟩ | ⟨g, e⟩ <;> omega
        subst h3
        have hd1 : decide (0 < N3) = true := decide_eq_true (by omega)
        have hd2 : decide (N3 < 0) = false := decide_eq_false (by omega)
        go_upto_region 14 with (first | (go_at_call 21; ((with_reducible refine (H4.out _).mono ?_); rintro e w' ⟨rfl, hb⟩; obtain ⟨hz, hc, hf⟩ := bcl hb (by first | (simp; rfl) | rfl))) | (go_at_call 18; ((with_reducible refine (H5.out _).mono ?_); rintro e w' ⟨rfl, hb⟩; obtain ⟨hz, hc, hf⟩ := bcl hb (by first | (simp; rfl) | rfl))) | (go_at_call 18; ((with_reducible refine (H6.out _).mono ?_); rintro e w' ⟨rfl, hb⟩; obtain ⟨hz, hc, hf⟩ := bcl hb (by first | (simp; rfl) | rfl))))
        have hi := HI.out
        rcases hi with rfl | ⟨rfl, hi⟩
        · go_wp2
          go_ret
          refine ⟨rfl, ?_⟩
          (repeat (first | (with_reducible exact bl_refl _) | (with_reducible refine bl_drew ?_) | (with_reducible refine bl_alloc ?_ _) | (with_reducible refine bl_set' ?_ ?_; · (first | omega | (simp; done) | (simp; omega))) | (with_reducible refine bl_last (by assumption) ?_) | (with_reducible refine bl_drewN ?_ _)))
        clear hi
        go_upto_region 19 with (go_at_call 19; ((with_reducible refine (H7.out _).mono ?_); rintro e w' ⟨rfl, hb⟩; obtain ⟨hz, hc, hf⟩ := bcl hb (by first | (simp; rfl) | rfl)))
        go_upto_region 20 with (go_at_call 19; ((with_reducible refine (H8.out _).mono ?_); rintro e w' ⟨rfl, hb⟩; obtain ⟨hz, hc, hf⟩ := bcl hb (by first | (simp; rfl) | rfl)))
        by_cases h7 : E7 = 0
        · subst h7
          by_cases h8 : E8 = 0
          · subst h8
            have H9' := Lib.hid (H9.out rfl rfl)
            go_wp2_with (go_at_call 18; ((with_reducible refine (H9'.out _).mono ?_); rintro e w' ⟨rfl, hb⟩; obtain ⟨hz, hc, hf⟩ := bcl hb (by first | (simp; rfl) | rfl)))
            go_ret
            refine ⟨rfl, ?_⟩
            (repeat (first | (with_reducible exact bl_refl _) | (with_reducible refine bl_drew ?_) | (with_reducible refine bl_alloc ?_ _) | (with_reducible refine bl_set' ?_ ?_; · (first | omega | (simp; done) | (simp; omega))) | (with_reducible refine bl_last (by assumption) ?_) | (with_reducible refine bl_drewN ?_ _)))
          · have h8' : (E8 != 0) = true := by simpa using h8
            go_wp2
            go_ret
            refine ⟨rfl, ?_⟩
            (repeat (first | (with_reducible exact bl_refl _) | (with_reducible refine bl_drew ?_) | (with_reducible refine bl_alloc ?_ _) | (with_reducible refine bl_set' ?_ ?_; · (first | omega | (simp; done) | (simp; omega))) | (with_reducible refine bl_last (by assumption) ?_) | (with_reducible refine bl_drewN ?_ _)))
        · have h7' : (E7 != 0) = true := by simpa using h7
          go_wp2
          go_ret
          refine ⟨rfl, ?_⟩
          (repeat (first | (with_reducible exact bl_refl _) | (with_reducible refine bl_drew ?_) | (with_reducible refine bl_alloc ?_ _) | (with_reducible refine bl_set' ?_ ?_; · (first | omega | (simp; done) | (simp; omega))) | (with_reducible refine bl_last (by assumption) ?_) | (with_reducible refine bl_drewN ?_ _)))
      · have h3' : (E3 == 0) = false := by simpa using h3
        go_upto_region 14 with (first | (go_at_call 21; ((with_reducible refine (H4.out _).mono ?_); rintro e w' ⟨rfl, hb⟩; obtain ⟨hz, hc, hf⟩ := bcl hb (by first | (simp; rfl) | rfl))) | (go_at_call 18; ((with_reducible refine (H5.out _).mono ?_); rintro e w' ⟨rfl, hb⟩; obtain ⟨hz, hc, hf⟩ := bcl hb (by first | (simp; rfl) | rfl))) | (go_at_call 18; ((with_reducible refine (H6.out _).mono ?_); rintro e w' ⟨rfl, hb⟩; obtain ⟨hz, hc, hf⟩ := bcl hb (by first | (simp; rfl) | rfl))))
        have hi := HI.out
        rcases hi with rfl | ⟨rfl, hi⟩
        · go_wp2
          go_ret
          refine ⟨rfl, ?_⟩
          (repeat (first | (with_reducible exact bl_refl _) | (with_reducible refine bl_drew ?_) | (with_reducible refine bl_alloc ?_ _) | (with_reducible refine bl_set' ?_ ?_; · (first | omega | (simp; done) | (simp; omega))) | (with_reducible refine bl_last (by assumption) ?_) | (with_reducible refine bl_drewN ?_ _)))
        clear hi
        go_upto_region 19 with (go_at_call 19; ((with_reducible refine (H7.out _).mono ?_); rintro e w' ⟨rfl, hb⟩; obtain ⟨hz, hc, hf⟩ := bcl hb (by first | (simp; rfl) | rfl)))
        go_upto_region 20 with (go_at_call 19; ((with_reducible refine (H8.out _).mono ?_); rintro e w' ⟨rfl, hb⟩; obtain ⟨hz, hc, hf⟩ := bcl hb (by first | (simp; rfl) | rfl)))
        by_cases h7 : E7 = 0
        · subst h7
          by_cases h8 : E8 = 0
          · subst h8
            have H9' := Lib.hid (H9.out rfl rfl)
            go_wp2_with (go_at_call 18; ((with_reducible refine (H9'.out _).mono ?_); rintro e w' ⟨rfl, hb⟩; obtain ⟨hz, hc, hf⟩ := bcl hb (by first | (simp; rfl) | rfl)))
            go_ret
            refine ⟨rfl, ?_⟩
            (repeat (first | (with_reducible exact bl_refl _) | (with_reducible refine bl_drew ?_) | (with_reducible refine bl_alloc ?_ _) | (with_reducible refine bl_set' ?_ ?_; · (first | omega | (simp; done) | (simp; omega))) | (with_reducible refine bl_last (by assumption) ?_) | (with_reducible refine bl_drewN ?_ _)))
          · have h8' : (E8 != 0) = true := by simpa using h8
            go_wp2
            go_ret
            refine ⟨rfl, ?_⟩
            (repeat (first | (with_reducible exact bl_refl _) | (with_reducible refine bl_drew ?_) | (with_reducible refine bl_alloc ?_ _) | (with_reducible refine bl_set' ?_ ?_; · (first | omega | (simp; done) | (simp; omega))) | (with_reducible refine bl_last (by assumption) ?_) | (with_reducible refine bl_drewN ?_ _)))
        · have h7' : (E7 != 0) = true := by simpa using h7
          go_wp2
          go_ret
          refine ⟨rfl, ?_⟩
          (repeat (first | (with_reducible exact bl_refl _) | (with_reducible refine bl_drew ?_) | (with_reducible refine bl_alloc ?_ _) | (with_reducible refine bl_set' ?_ ?_; · (first | omega | (simp; done) | (simp; omega))) | (with_reducible refine bl_last (by assumption) ?_) | (with_reducible refine bl_drewN ?_ _)))
    · have hq' : (an == bn) = false := by simpa using hab
      clear hne
      go_enter Tryd.func7, Tryd.ntmps7
      go_upto_region 8 with (first | (go_at_call 11; ((with_reducible refine (HH.out _ (tab_up HT.out (by (repeat (first | (with_reducible exact bl_refl _) | (with_reducible refine bl_drew ?_) | (with_reducible refine bl_alloc ?_ _) | (with_reducible refine bl_set' ?_ ?_; · (first | omega | (simp; done) | (simp; omega))) | (with_reducible refine bl_last (by assumption) ?_) | (with_reducible refine bl_drewN ?_ _)))))).mono ?_); rintro e w' ⟨rfl, hb⟩; obtain ⟨hz, hc, hf⟩ := bcl hb (by first | (simp; rfl) | rfl))) | (go_at_call 18; ((with_reducible refine (H1.out _).mono ?_); rintro e w' ⟨rfl, hb⟩; obtain ⟨hz, hc, hf⟩ := bcl hb (by first | (simp; rfl) | rfl))) | (go_at_call 18; ((with_reducible refine (H2.out _).mono ?_); rintro e w' ⟨rfl, hb⟩; obtain ⟨hz, hc, hf⟩ := bcl hb (by first | (simp; rfl) | rfl))) | (go_at_call 20; ((with_reducible refine (H3.out _).mono ?_); rintro e w' ⟨rfl, hb⟩; obtain ⟨hz, hc, hf⟩ := bcl hb (by first | (simp; rfl) | rfl))))
      by_cases h3 : E3 = 0
      · have hn3 : 0 < N3 := by
          have := HS.out h3
          rcases sg_ways N3 with ⟨g, e⟩ | ⟨g, e⟩ | ⟨g, e⟩ <;> omega
        subst h3
        have hd1 : decide (0 < N3) = true := decide_eq_true (by omega)
        have hd2 : decide (N3 < 0) = false := decide_eq_false (by omega)
        go_upto_region 14 with (first | (go_at_call 21; ((with_reducible refine (H4.out _).mono ?_); rintro e w' ⟨rfl, hb⟩; obtain ⟨hz, hc, hf⟩ := bcl hb (by first | (simp; rfl) | rfl))) | (go_at_call 18; ((with_reducible refine (H5.out _).mono ?_); rintro e w' ⟨rfl, hb⟩; obtain ⟨hz, hc, hf⟩ := bcl hb (by first | (simp; rfl) | rfl))) | (go_at_call 18; ((with_reducible refine (H6.out _).mono ?_); rintro e w' ⟨rfl, hb⟩; obtain ⟨hz, hc, hf⟩ := bcl hb (by first | (simp; rfl) | rfl))))
        have hi := HI.out
        rcases hi with rfl | ⟨rfl, hi⟩
        · go_wp2
          go_ret
          refine ⟨rfl, ?_⟩
          (repeat (first | (with_reducible exact bl_refl _) | (with_reducible refine bl_drew ?_) | (with_reducible refine bl_alloc ?_ _) | (with_reducible refine bl_set' ?_ ?_; · (first | omega | (simp; done) | (simp; omega))) | (with_reducible refine bl_last (by assumption) ?_) | (with_reducible refine bl_drewN ?_ _)))
        clear hi
        go_upto_region 19 with (go_at_call 19; ((with_reducible refine (H7.out _).mono ?_); rintro e w' ⟨rfl, hb⟩; obtain ⟨hz, hc, hf⟩ := bcl hb (by first | (simp; rfl) | rfl)))
        go_upto_region 20 with (go_at_call 19; ((with_reducible refine (H8.out _).mono ?_); rintro e w' ⟨rfl, hb⟩; obtain ⟨hz, hc, hf⟩ := bcl hb (by first | (simp; rfl) | rfl)))
        by_cases h7 : E7 = 0
        · subst h7
          by_cases h8 : E8 = 0
          · subst h8
            have H9' := Lib.hid (H9.out rfl rfl)
            go_wp2_with (go_at_call 18; ((with_reducible refine (H9'.out _).mono ?_); rintro e w' ⟨rfl, hb⟩; obtain ⟨hz, hc, hf⟩ := bcl hb (by first | (simp; rfl) | rfl)))
            go_ret
            refine ⟨rfl, ?_⟩
            (repeat (first | (with_reducible exact bl_refl _) | (with_reducible refine bl_drew ?_) | (with_reducible refine bl_alloc ?_ _) | (with_reducible refine bl_set' ?_ ?_; · (first | omega | (simp; done) | (simp; omega))) | (with_reducible refine bl_last (by assumption) ?_) | (with_reducible refine bl_drewN ?_ _)))
          · have h8' : (E8 != 0) = true := by simpa using h8
            go_wp2
            go_ret
            refine ⟨rfl, ?_⟩
            (repeat (first | (with_reducible exact bl_refl _) | (with_reducible refine bl_drew ?_) | (with_reducible refine bl_alloc ?_ _) | (with_reducible refine bl_set' ?_ ?_; · (first | omega | (simp; done) | (simp; omega))) | (with_reducible refine bl_last (by assumption) ?_) | (with_reducible refine bl_drewN ?_ _)))
        · have h7' : (E7 != 0) = true := by simpa using h7
          go_wp2
          go_ret
          refine ⟨rfl, ?_⟩
          (repeat (first | (with_reducible exact bl_refl _) | (with_reducible refine bl_drew ?_) | (with_reducible refine bl_alloc ?_ _) | (with_reducible refine bl_set' ?_ ?_; · (first | omega | (simp; done) | (simp; omega))) | (with_reducible refine bl_last (by assumption) ?_) | (with_reducible refine bl_drewN ?_ _)))
      · have h3' : (E3 == 0) = false := by simpa using h3
        go_upto_region 14 with (first | (go_at_call 21; ((with_reducible refine (H4.out _).mono ?_); rintro e w' ⟨rfl, hb⟩; obtain ⟨hz, hc, hf⟩ := bcl hb (by first | (simp; rfl) | rfl))) | (go_at_call 18; ((with_reducible refine (H5.out _).mono ?_); rintro e w' ⟨rfl, hb⟩; obtain ⟨hz, hc, hf⟩ := bcl hb (by first | (simp; rfl) | rfl))) | (go_at_call 18; ((with_reducible refine (H6.out _).mono ?_); rintro e w' ⟨rfl, hb⟩; obtain ⟨hz, hc, hf⟩ := bcl hb (by first | (simp; rfl) | rfl))))
        have hi := HI.out
        rcases hi with rfl | ⟨rfl, hi⟩
        · go_wp2
          go_ret
          refine ⟨rfl, ?_⟩
          (repeat (first | (with_reducible exact bl_refl _) | (with_reducible refine bl_drew ?_) | (with_reducible refine bl_alloc ?_ _) | (with_reducible refine bl_set' ?_ ?_; · (first | omega | (simp; done) | (simp; omega))) | (with_reducible refine bl_last (by assumption) ?_) | (with_reducible refine bl_drewN ?_ _)))
        clear hi
        go_upto_region 19 with (go_at_call 19; ((with_reducible refine (H7.out _).mono ?_); rintro e w' ⟨rfl, hb⟩; obtain ⟨hz, hc, hf⟩ := bcl hb (by first | (simp; rfl) | rfl)))
        go_upto_region 20 with (go_at_call 19; ((with_reducible refine (H8.out _).mono ?_); rintro e w' ⟨rfl, hb⟩; obtain ⟨hz, hc, hf⟩ := bcl hb (by first | (simp; rfl) | rfl)))
        by_cases h7 : E7 = 0
        · subst h7
          by_cases h8 : E8 = 0
          · subst h8
            have H9' := Lib.hid (H9.out rfl rfl)
            go_wp2_with (go_at_call 18; ((with_reducible refine (H9'.out _).mono ?_); rintro e w' ⟨rfl, hb⟩; obtain ⟨hz, hc, hf⟩ := bcl hb (by first | (simp; rfl) | rfl)))
            go_ret
            refine ⟨rfl, ?_⟩
            (repeat (first | (with_reducible exact bl_refl _) | (with_reducible refine bl_drew ?_) | (with_reducible refine bl_alloc ?_ _) | (with_reducible refine bl_set' ?_ ?_; · (first | omega | (simp; done) | (simp; omega))) | (with_reducible refine bl_last (by assumption) ?_) | (with_reducible refine bl_drewN ?_ _)))
          · have h8' : (E8 != 0) = true := by simpa using h8
            go_wp2
            go_ret
            refine ⟨rfl, ?_⟩
            (repeat (first | (with_reducible exact bl_refl _) | (with_reducible refine bl_drew ?_) | (with_reducible refine bl_alloc ?_ _) | (with_reducible refine bl_set' ?_ ?_; · (first | omega | (simp; done) | (simp; omega))) | (with_reducible refine bl_last (by assumption) ?_) | (with_reducible refine bl_drewN ?_ _)))
        · have h7' : (E7 != 0) = true := by simpa using h7
          go_wp2
          go_ret
          refine ⟨rfl, ?_⟩
          (repeat (first | (with_reducible exact bl_refl _) | (with_reducible refine bl_drew ?_) | (with_reducible refine bl_alloc ?_ _) | (with_reducible refine bl_set' ?_ ?_; · (first | omega | (simp; done) | (simp; omega))) | (with_reducible refine bl_last (by assumption) ?_) | (with_reducible refine bl_drewN ?_ _)))
end Go.Proofs.YtmjbcoapceoakaaDoor
