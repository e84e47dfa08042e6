/- BeatCounts: the plain law and the walk. -/
import Derived.Test.YthlnfjllkmielaaLawTri
import Derived.Test.YthlnfjllkmielaaBeatT
namespace Go.Proofs.Ythlnfjllkmielaa
open Go Go.RowKit

theorem co_ok {rn rd tn td : Int} (h : coK rn rd tn td = 0) : coG rn rd tn td = true ∧ coX rn rd tn td = coL rn rd tn td ∧ coY rn rd tn td = coM rn rd tn td := by
  unfold coX coY
  rw [if_pos h, if_pos h]
  unfold coK at h
  split at h
  · exact ⟨by assumption, rfl, rfl⟩
  · cases h
theorem co_bad {rn rd tn td : Int} (h : ¬ coK rn rd tn td = 0) : coX rn rd tn td = 0 ∧ coY rn rd tn td = 0 := by
  unfold coX coY
  rw [if_neg h, if_neg h]
  exact ⟨rfl, rfl⟩
/-- The parts of what Band returns. -/
def baLN (c tn td : Int) : Int := if baO c tn td then mkN (baL c td) tn else 0
def baLD (c tn td : Int) : Int := if baO c tn td then mkD (baL c td) tn else 0
def baHN (c tn td : Int) : Int := if baO c tn td then mkN (baH c td) tn else 0
def baHD (c tn td : Int) : Int := if baO c tn td then mkD (baH c td) tn else 0
theorem baV_eq (c tn td : Int) : baV c tn td = .tuple #[.agg #[.int .i64 (baLN c tn td), .int .i64 (baLD c tn td), .int .i64 (baHN c tn td), .int .i64 (baHD c tn td)], .int .i64 (baK c tn td)] := rfl
theorem ma_spec {t : Int → Int → Bool} {n d : Int} (h : maE t n d = true) : t (mkN n d) (mkD n d) = true ∧ mkN n d * d = n * mkD n d := by
  unfold maE at h
  simp only [Bool.and_eq_true, decide_eq_true_eq] at h
  exact ⟨h.2, (mk_spec h.1).2.2⟩
theorem ba_spec {c tn td : Int} (h : baK c tn td = 0) : (0 ≤ c ∧ c ≤ 1000000) ∧ rtV (baLN c tn td) (baLD c tn td) = true ∧ rtV (baHN c tn td) (baHD c tn td) = true ∧ baLN c tn td * tn = (max c 1 - 1) * td * baLD c tn td ∧ baHN c tn td * tn = (c + 1) * td * baHD c tn td := by
  unfold baK at h
  split at h
  · rename_i ho
    unfold baLN baLD baHN baHD
    rw [if_pos ho, if_pos ho, if_pos ho, if_pos ho]
    unfold baO baG at ho
    simp only [Bool.and_eq_true, decide_eq_true_eq] at ho
    obtain ⟨⟨_, hc⟩, h1, h2⟩ := ho
    obtain ⟨a1, a2⟩ := ma_spec h1
    obtain ⟨b1, b2⟩ := ma_spec h2
    refine ⟨hc, a1, b1, ?_, b2⟩
    rw [a2]
    have : baL c td = (max c 1 - 1) * td := by unfold baL; rw [Int.sub_mul, Int.one_mul]
    rw [this]
  · split at h <;> cases h
theorem sg_le (x : Int) : (sgF x ≤ 0 ↔ x ≤ 0) ∧ (0 ≤ sgF x ↔ 0 ≤ x) := by
  rcases sg_ways x with ⟨h, e⟩ | ⟨h, e⟩ | ⟨h, e⟩ <;> rw [e] <;> omega
/-- The sign of a product with a positive number. -/
theorem pos_sign {x y a b : Int} (ha : 0 < a) (hb : 0 < b) (e : x * a = y * b) : (x ≤ 0 ↔ y ≤ 0) ∧ (0 ≤ x ↔ 0 ≤ y) := by
  have h1 : x ≤ 0 ↔ x * a ≤ 0 := by
    rcases Int.lt_or_le 0 x with h | h
    · have := Int.mul_pos h ha; omega
    · have := Int.mul_nonpos_of_nonpos_of_nonneg h (Int.le_of_lt ha); omega
  have h2 : y ≤ 0 ↔ y * b ≤ 0 := by
    rcases Int.lt_or_le 0 y with h | h
    · have := Int.mul_pos h hb; omega
    · have := Int.mul_nonpos_of_nonpos_of_nonneg h (Int.le_of_lt hb); omega
  have h3 : 0 ≤ x ↔ 0 ≤ x * a := by
    rcases Int.lt_or_le x 0 with h | h
    · have := Int.mul_neg_of_neg_of_pos h ha; omega
    · have := Int.mul_nonneg h (Int.le_of_lt ha); omega
  have h4 : 0 ≤ y ↔ 0 ≤ y * b := by
    rcases Int.lt_or_le y 0 with h | h
    · have := Int.mul_neg_of_neg_of_pos h hb; omega
    · have := Int.mul_nonneg h (Int.le_of_lt hb); omega
  rw [h1, h2, h3, h4, e]
  exact ⟨Iff.rfl, Iff.rfl⟩
theorem cnt_law {rn rd tn td c : Int} (h : coK rn rd tn td = 0) (hb : baK c tn td = 0) :
    cmpE (baLN c tn td) (baLD c tn td) rn rd = 0 ∧ cmpE rn rd (baHN c tn td) (baHD c tn td) = 0 ∧
      ((cmpN (baLN c tn td) (baLD c tn td) rn rd ≤ 0 ↔ (max c 1 - 1) * (rd * td) ≤ rn * tn) ∧ (0 ≤ cmpN (baLN c tn td) (baLD c tn td) rn rd ↔ rn * tn ≤ (max c 1 - 1) * (rd * td))) ∧
      ((cmpN rn rd (baHN c tn td) (baHD c tn td) ≤ 0 ↔ rn * tn ≤ (c + 1) * (rd * td)) ∧ (0 ≤ cmpN rn rd (baHN c tn td) (baHD c tn td) ↔ (c + 1) * (rd * td) ≤ rn * tn)) := by
  obtain ⟨hG, _⟩ := co_ok h
  obtain ⟨r1, r2, _⟩ := co_facts hG
  obtain ⟨_, l1, h1, l2, h2⟩ := ba_spec hb
  have ht := (sd_of r2).2
  have q1 := den_pos (rt_v l1)
  have q2 := den_pos (rt_v h1)
  unfold cmpE cmpN
  rw [rt_v l1, rt_v h1, rt_v r1]
  generalize baLN c tn td = LN at *
  generalize baLD c tn td = LD at *
  generalize baHN c tn td = HN at *
  generalize baHD c tn td = HD at *
  generalize max c 1 - 1 = m at *
  simp only [Bool.and_self, if_true, true_and]
  have s1 := pos_sign (x := LN * rd - rn * LD) (y := m * (rd * td) - rn * tn) ht q1 (by
    have : (LN * rd - rn * LD) * tn = LN * tn * rd - rn * LD * tn := by grind
    rw [this, l2]
    grind)
  have s2 := pos_sign (x := rn * HD - HN * rd) (y := rn * tn - (c + 1) * (rd * td)) ht q2 (by
    have : (rn * HD - HN * rd) * tn = rn * HD * tn - HN * tn * rd := by grind
    rw [this, h2]
    grind)
  have g1 := sg_le (LN * rd - rn * LD)
  have g2 := sg_le (rn * HD - HN * rd)
  generalize (c + 1) * (rd * td) = U at *
  generalize m * (rd * td) = V at *
  generalize rn * tn = W at *
  omega
theorem cnt_range {n d c : Int} (hn : 0 ≤ n) (hd : 0 < d) (hc : 0 ≤ c) :
    (0 ≤ n / d ∧ n / d ≤ (n + d - 1) / d ∧ (n + d - 1) / d ≤ n / d + 1) ∧
      ((n / d ≤ c ∧ c ≤ (n + d - 1) / d ∧ (max c 1 - 1) * d ≤ n ∧ n ≤ (c + 1) * d) ∨ ((¬ n / d ≤ c ∨ ¬ c ≤ (n + d - 1) / d) ∧ (n ≤ (max c 1 - 1) * d ∨ (c + 1) * d ≤ n))) := by
  have e1 := Int.mul_ediv_add_emod n d
  have e2 := Int.emod_nonneg n (show d ≠ 0 by omega)
  have e3 := Int.emod_lt_of_pos n hd
  have f1 := Int.mul_ediv_add_emod (n + d - 1) d
  have f2 := Int.emod_nonneg (n + d - 1) (show d ≠ 0 by omega)
  have f3 := Int.emod_lt_of_pos (n + d - 1) hd
  have k0 : 0 ≤ n / d := Int.ediv_nonneg hn (by omega)
  have k1 : 0 ≤ (n + d - 1) / d := Int.ediv_nonneg (by omega) (by omega)
  have lt_of : ∀ a b : Int, d * a < d * b → a < b := fun a b h => Int.lt_of_mul_lt_mul_left h (Int.le_of_lt hd)
  have le_to : ∀ a b : Int, a ≤ b → d * a ≤ d * b := fun a b h => Int.mul_le_mul_of_nonneg_left h (Int.le_of_lt hd)
  generalize n / d = L at *
  generalize (n + d - 1) / d = M at *
  generalize n % d = s at *
  generalize (n + d - 1) % d = t at *
  have z1 : d * (L + 1) = d * L + d := by rw [Int.mul_add, Int.mul_one]
  have z2 : d * (M + 1) = d * M + d := by rw [Int.mul_add, Int.mul_one]
  have z3 : d * (L + 1 + 1) = d * L + d + d := by rw [Int.mul_add, Int.mul_one, z1]
  have z4 : d * (c + 1) = d * c + d := by rw [Int.mul_add, Int.mul_one]
  have z5 : (c + 1) * d = d * c + d := by rw [Int.mul_comm, z4]
  refine ⟨⟨k0, ?_, ?_⟩, ?_⟩
  · have := lt_of L (M + 1) (by omega); omega
  · have := lt_of M (L + 1 + 1) (by omega); omega
  rw [z5]
  have zm : (max c 1 - 1) * d = d * c - d ∧ 1 ≤ c ∨ (max c 1 - 1) * d = 0 ∧ c = 0 := by
    rcases Int.lt_or_le c 1 with g | g
    · refine Or.inr ⟨?_, by omega⟩
      rw [show max c 1 - 1 = 0 by omega, Int.zero_mul]
    · refine Or.inl ⟨?_, g⟩
      rw [show max c 1 - 1 = c - 1 by omega, Int.sub_mul, Int.one_mul, Int.mul_comm]
  generalize (max c 1 - 1) * d = V at *
  by_cases g1 : L ≤ c
  · by_cases g2 : c ≤ M
    · have a1 := le_to _ _ g1
      have a2 := le_to _ _ g2
      refine Or.inl ⟨g1, g2, ?_, by omega⟩
      rcases zm with ⟨h1, _⟩ | ⟨h1, _⟩ <;> omega
    · have a2 := le_to (M + 1) c (by omega)
      refine Or.inr ⟨Or.inr g2, Or.inl ?_⟩
      rcases zm with ⟨h1, _⟩ | ⟨h1, h2⟩ <;> omega
  · have a1 := le_to (c + 1) L (by omega)
    exact Or.inr ⟨Or.inl g1, Or.inr (by omega)⟩
set_option maxRecDepth 100000 in
set_option maxHeartbeats 4000000 in
theorem walk_BeatCounts (rn rd tn td c : Int) (w : World) (_ : (Lit.int .i64 rn).wf = true) (_ : (Lit.int .i64 rd).wf = true) (_ : (Lit.int .i64 tn).wf = true) (_ : (Lit.int .i64 td).wf = true) (_ : (Lit.int .i64 c).wf = true) :
    Calls Try.prog 7 #[.agg #[.int .i64 rn, .int .i64 rd], .agg #[.int .i64 tn, .int .i64 td], .int .i64 c] w (Ret (.bool true) w) := by
  have HH := Lib.hid (fun w => head17_c w)
  have h1 := fun w => Counts_c rn rd tn td w
  have h2 := fun w => Band_c c tn td w
  simp only [baV_eq] at h2
  unfold coV at h1
  have hC := fun w => RCmp_c (baLN c tn td) (baLD c tn td) rn rd w
  have hD := fun w => RCmp_c rn rd (baHN c tn td) (baHD c tn td) w
  unfold cmpV at hC hD
  have hl1 := cnt_law (rn := rn) (rd := rd) (tn := tn) (td := td) (c := c)
  have hok := co_ok (rn := rn) (rd := rd) (tn := tn) (td := td)
  have hbd := co_bad (rn := rn) (rd := rd) (tn := tn) (td := td)
  have hlaw : coK rn rd tn td = 0 → (0 ≤ coX rn rd tn td ∧ coX rn rd tn td ≤ coY rn rd tn td ∧ coY rn rd tn td ≤ coX rn rd tn td + 1 ∧ coX rn rd tn td + 1 ≤ 1000000001) := by
    intro h
    obtain ⟨g1, g2, g3⟩ := hok h
    obtain ⟨_, _, ⟨m0, _⟩, m2, _⟩ := co_facts g1
    have := (cnt_range (n := rn * tn) (d := rd * td) (c := 0) m0 (by omega) (by omega)).1
    unfold coK at h
    rw [g2, g3]
    rw [if_pos g1] at h
    have : ¬ 1000000000 < coM rn rd tn td := fun hh => by rw [if_pos hh] at h; cases h
    unfold coL coM at *
    omega
  have hl2 : coK rn rd tn td = 0 → baK c tn td = 0 → (coX rn rd tn td ≤ c ∧ c ≤ coY rn rd tn td ∧ cmpN (baLN c tn td) (baLD c tn td) rn rd ≤ 0 ∧ cmpN rn rd (baHN c tn td) (baHD c tn td) ≤ 0) ∨ ((¬ coX rn rd tn td ≤ c ∨ ¬ c ≤ coY rn rd tn td) ∧ (0 ≤ cmpN (baLN c tn td) (baLD c tn td) rn rd ∨ 0 ≤ cmpN rn rd (baHN c tn td) (baHD c tn td))) := by
    intro h hb
    obtain ⟨g1, g2, g3⟩ := hok h
    obtain ⟨_, _, ⟨m0, _⟩, m2, _⟩ := co_facts g1
    have hr := (cnt_range (n := rn * tn) (d := rd * td) (c := c) m0 (by omega) (ba_spec hb).1.1).2
    obtain ⟨_, _, ⟨a1, a2⟩, a3, a4⟩ := hl1 h hb
    rw [g2, g3, a1, a2, a3, a4]
    exact hr
  have hce : coK rn rd tn td = 0 → baK c tn td = 0 → cmpE (baLN c tn td) (baLD c tn td) rn rd = 0 ∧ cmpE rn rd (baHN c tn td) (baHD c tn td) = 0 := fun h hb => ⟨(hl1 h hb).1, (hl1 h hb).2.1⟩
  clear hl1 hok
  generalize cmpN (baLN c tn td) (baLD c tn td) rn rd = lo at *
  generalize cmpN rn rd (baHN c tn td) (baHD c tn td) = hi at *
  generalize cmpE (baLN c tn td) (baLD c tn td) rn rd = E1 at *
  generalize cmpE rn rd (baHN c tn td) (baHD c tn td) = E2 at *
  generalize coX rn rd tn td = L at *
  generalize coY rn rd tn td = M at *
  generalize coK rn rd tn td = K at *
  generalize baLN c tn td = LN at *
  generalize baLD c tn td = LD at *
  generalize baHN c tn td = HN at *
  generalize baHD c tn td = HD at *
  generalize baK c tn td = B at *
  by_cases hK : K = 0
  case neg =>
    obtain ⟨rfl, rfl⟩ := hbd hK
    have hK' : (K != 0) = true := by simpa using hK
    clear hlaw hl2 hce hbd hK
    have H1 := Lib.hid h1
    have H2 := Lib.hid h2
    clear h1 h2 hC hD
    go_enter Try.func7, Try.ntmps7
    go_wp2_with (first | (go_at_call 11; ((with_reducible refine (HH.out _).mono ?_); rintro e w' ⟨rfl, hb⟩; obtain ⟨hz, hc, hf⟩ := bcl hb (by first | (simp; rfl) | rfl))) | (go_at_call 18; ((with_reducible refine (H1.out _).mono ?_); rintro e w' ⟨rfl, hb⟩; obtain ⟨hz, hc, hf⟩ := bcl hb (by first | (simp; rfl) | rfl))) | (go_at_call 20; ((with_reducible refine (H2.out _).mono ?_); rintro e w' ⟨rfl, hb⟩; obtain ⟨hz, hc, hf⟩ := bcl hb (by first | (simp; rfl) | rfl))))
    go_ret
    refine ⟨rfl, ?_⟩
    (repeat (first | (with_reducible exact bl_refl _) | (with_reducible refine bl_drew ?_) | (with_reducible refine bl_alloc ?_ _) | (with_reducible refine bl_set' ?_ ?_; · (first | omega | (simp; done) | (simp; omega))) | (with_reducible refine bl_last (by assumption) ?_) | (with_reducible refine bl_drewN ?_ _)))
  obtain rfl := hK
  obtain ⟨hl0, hl1, hl3, hl4⟩ := hlaw rfl
  have w1 : IntKind.i64.wrap (L + 1) = L + 1 := by rw [IntKind.wrap_i64]; omega
  have H1 := Lib.hid h1
  have H2 := Lib.hid h2
  clear h1 h2 hbd hlaw
  have d1 : decide (0 ≤ L) = true := decide_eq_true hl0
  have d2 : decide (L ≤ M) = true := decide_eq_true hl1
  have d3 : decide (M ≤ L + 1) = true := decide_eq_true hl3
  clear hl0 hl1 hl3 hl4
  by_cases hB : B = 0
  case neg =>
    have hB' : (B != 0) = true := by simpa using hB
    clear hl2 hce hB hC hD
    go_enter Try.func7, Try.ntmps7
    go_wp2_with (first | (go_at_call 11; ((with_reducible refine (HH.out _).mono ?_); rintro e w' ⟨rfl, hb⟩; obtain ⟨hz, hc, hf⟩ := bcl hb (by first | (simp; rfl) | rfl))) | (go_at_call 18; ((with_reducible refine (H1.out _).mono ?_); rintro e w' ⟨rfl, hb⟩; obtain ⟨hz, hc, hf⟩ := bcl hb (by first | (simp; rfl) | rfl))) | (go_at_call 20; ((with_reducible refine (H2.out _).mono ?_); rintro e w' ⟨rfl, hb⟩; obtain ⟨hz, hc, hf⟩ := bcl hb (by first | (simp; rfl) | rfl))))
    go_ret
    refine ⟨rfl, ?_⟩
    (repeat (first | (with_reducible exact bl_refl _) | (with_reducible refine bl_drew ?_) | (with_reducible refine bl_alloc ?_ _) | (with_reducible refine bl_set' ?_ ?_; · (first | omega | (simp; done) | (simp; omega))) | (with_reducible refine bl_last (by assumption) ?_) | (with_reducible refine bl_drewN ?_ _)))
  obtain rfl := hB
  obtain ⟨rfl, rfl⟩ := hce rfl rfl
  have hl := hl2 rfl rfl
  clear hl2 hce
  have HC := Lib.hid hC
  have HD := Lib.hid hD
  clear hC hD
  have hw : (L ≤ c ∧ c ≤ M ∧ decide (c ≤ M) = true ∧ decide (lo ≤ 0) = true ∧ decide (hi ≤ 0) = true) ∨ (¬ L ≤ c ∧ decide (0 ≤ lo) = true) ∨ (¬ L ≤ c ∧ decide (0 ≤ lo) = false ∧ decide (0 ≤ hi) = true) ∨ (L ≤ c ∧ decide (c ≤ M) = false ∧ decide (0 ≤ lo) = true) ∨ (L ≤ c ∧ decide (c ≤ M) = false ∧ decide (0 ≤ lo) = false ∧ decide (0 ≤ hi) = true) := by
    simp only [decide_eq_true_eq, decide_eq_false_iff_not]
    omega
  clear hl
  rcases hw with ⟨g0, g1, g2, g3, g4⟩ | ⟨g1, g2⟩ | ⟨g1, g2, g3⟩ | ⟨g0, g1, g2⟩ | ⟨g0, g1, g2, g3⟩
  case inl =>
    go_enter Try.func7, Try.ntmps7
    go_wp2_with (first | (go_at_call 11; ((with_reducible refine (HH.out _).mono ?_); rintro e w' ⟨rfl, hb⟩; obtain ⟨hz, hc, hf⟩ := bcl hb (by first | (simp; rfl) | rfl))) | (go_at_call 18; ((with_reducible refine (H1.out _).mono ?_); rintro e w' ⟨rfl, hb⟩; obtain ⟨hz, hc, hf⟩ := bcl hb (by first | (simp; rfl) | rfl))) | (go_at_call 20; ((with_reducible refine (H2.out _).mono ?_); rintro e w' ⟨rfl, hb⟩; obtain ⟨hz, hc, hf⟩ := bcl hb (by first | (simp; rfl) | rfl))) | (go_at_call 30; ((with_reducible refine (HC.out _).mono ?_); rintro e w' ⟨rfl, hb⟩; obtain ⟨hz, hc, hf⟩ := bcl hb (by first | (simp; rfl) | rfl))) | (go_at_call 30; ((with_reducible refine (HD.out _).mono ?_); rintro e w' ⟨rfl, hb⟩; obtain ⟨hz, hc, hf⟩ := bcl hb (by first | (simp; rfl) | rfl))))
    all_goals
      go_ret
      refine ⟨rfl, ?_⟩
      (repeat (first | (with_reducible exact bl_refl _) | (with_reducible refine bl_drew ?_) | (with_reducible refine bl_alloc ?_ _) | (with_reducible refine bl_set' ?_ ?_; · (first | omega | (simp; done) | (simp; omega))) | (with_reducible refine bl_last (by assumption) ?_) | (with_reducible refine bl_drewN ?_ _)))
  all_goals
    go_enter Try.func7, Try.ntmps7
    go_wp2_with (first | (go_at_call 11; ((with_reducible refine (HH.out _).mono ?_); rintro e w' ⟨rfl, hb⟩; obtain ⟨hz, hc, hf⟩ := bcl hb (by first | (simp; rfl) | rfl))) | (go_at_call 18; ((with_reducible refine (H1.out _).mono ?_); rintro e w' ⟨rfl, hb⟩; obtain ⟨hz, hc, hf⟩ := bcl hb (by first | (simp; rfl) | rfl))) | (go_at_call 20; ((with_reducible refine (H2.out _).mono ?_); rintro e w' ⟨rfl, hb⟩; obtain ⟨hz, hc, hf⟩ := bcl hb (by first | (simp; rfl) | rfl))) | (go_at_call 30; ((with_reducible refine (HC.out _).mono ?_); rintro e w' ⟨rfl, hb⟩; obtain ⟨hz, hc, hf⟩ := bcl hb (by first | (simp; rfl) | rfl))) | (go_at_call 30; ((with_reducible refine (HD.out _).mono ?_); rintro e w' ⟨rfl, hb⟩; obtain ⟨hz, hc, hf⟩ := bcl hb (by first | (simp; rfl) | rfl))))
    all_goals
      go_ret
      refine ⟨rfl, ?_⟩
      (repeat (first | (with_reducible exact bl_refl _) | (with_reducible refine bl_drew ?_) | (with_reducible refine bl_alloc ?_ _) | (with_reducible refine bl_set' ?_ ?_; · (first | omega | (simp; done) | (simp; omega))) | (with_reducible refine bl_last (by assumption) ?_) | (with_reducible refine bl_drewN ?_ _)))
end Go.Proofs.Ythlnfjllkmielaa
