/- Beat: the parts of what Set and Rate return. Beat: Counts and Band. Beat: Move. -/
import Derived.Test.YtehifkdfbiebfaaDoorK15
import Derived.BigQuiet
namespace Go.Proofs.YtehifkdfbiebfaaDoor
open Go.RowKit

/-- The parts of what Set returns. -/
def seE (fn fd p q rn rd : Int) (above : Bool) : Int := if seG fn fd p q rn rd then (if maE sdV (seN fn fd p rn rd above) (q * fd * rd) then 0 else 3) else 1
def seX (fn fd p q rn rd : Int) (above : Bool) : Int := if seG fn fd p q rn rd then (if maE sdV (seN fn fd p rn rd above) (q * fd * rd) then mkN (seN fn fd p rn rd above) (q * fd * rd) else 0) else 0
def seY (fn fd p q rn rd : Int) (above : Bool) : Int := if seG fn fd p q rn rd then (if maE sdV (seN fn fd p rn rd above) (q * fd * rd) then mkD (seN fn fd p rn rd above) (q * fd * rd) else 0) else 0
theorem seV_eq (fn fd p q rn rd : Int) (above : Bool) : seV fn fd p q rn rd above = .tuple #[.agg #[.int .i64 (seX fn fd p q rn rd above), .int .i64 (seY fn fd p q rn rd above)], .int .i64 (seE fn fd p q rn rd above)] := by
  unfold seV seX seY seE
  cases seG fn fd p q rn rd <;> rfl
/-- The parts of what made returns. -/
def maN (t : Int → Int → Bool) (n d : Int) : Int := if maE t n d then mkN n d else 0
def maD (t : Int → Int → Bool) (n d : Int) : Int := if maE t n d then mkD n d else 0
def maK (t : Int → Int → Bool) (n d : Int) : Int := if maE t n d then 0 else 3
theorem maV_eq (t : Int → Int → Bool) (n d : Int) : maV t n d = .tuple #[.agg #[.int .i64 (maN t n d), .int .i64 (maD t n d)], .int .i64 (maK t n d)] := rfl
/-- The parts of what Rate returns. -/
def raX (fn fd gn gd p q : Int) : Int := if raG fn fd gn gd p q then maN rtV (raN fn fd gn gd p q) (fd * gd) else 0
def raY (fn fd gn gd p q : Int) : Int := if raG fn fd gn gd p q then maD rtV (raN fn fd gn gd p q) (fd * gd) else 0
def raE (fn fd gn gd p q : Int) : Int := if raG fn fd gn gd p q then maK rtV (raN fn fd gn gd p q) (fd * gd) else 1
theorem raV_eq (fn fd gn gd p q : Int) : raV fn fd gn gd p q = .tuple #[.agg #[.int .i64 (raX fn fd gn gd p q), .int .i64 (raY fn fd gn gd p q)], .int .i64 (raE fn fd gn gd p q)] := by
  unfold raV raX raY raE
  cases raG fn fd gn gd p q <;> rfl
end Go.Proofs.YtehifkdfbiebfaaDoor
namespace Go.Proofs.YtehifkdfbiebfaaDoor
open Go.RowKit

def coG (rn rd tn td : Int) : Bool := rtV rn rd && sdV tn td
def coL (rn rd tn td : Int) : Int := (rn * tn) / (rd * td)
def coM (rn rd tn td : Int) : Int := (rn * tn + rd * td - 1) / (rd * td)
def coK (rn rd tn td : Int) : Int := if coG rn rd tn td then (if 1000000000 < coM rn rd tn td then 3 else 0) else 1
def coX (rn rd tn td : Int) : Int := if coK rn rd tn td = 0 then coL rn rd tn td else 0
def coY (rn rd tn td : Int) : Int := if coK rn rd tn td = 0 then coM rn rd tn td else 0
def coV (rn rd tn td : Int) : Value := .tuple #[.int .i64 (coX rn rd tn td), .int .i64 (coY rn rd tn td), .int .i64 (coK rn rd tn td)]
theorem coV_bad {rn rd tn td : Int} (h : coG rn rd tn td = false) : coV rn rd tn td = .tuple #[.int .i64 0, .int .i64 0, .int .i64 1] := by simp [coV, coX, coY, coK, h]
theorem coV_far {rn rd tn td : Int} (h : coG rn rd tn td = true) (h1 : 1000000000 < coM rn rd tn td) : coV rn rd tn td = .tuple #[.int .i64 0, .int .i64 0, .int .i64 3] := by simp [coV, coX, coY, coK, h, h1]
theorem coV_ok {rn rd tn td : Int} (h : coG rn rd tn td = true) (h1 : ¬ 1000000000 < coM rn rd tn td) : coV rn rd tn td = .tuple #[.int .i64 (coL rn rd tn td), .int .i64 (coM rn rd tn td), .int .i64 0] := by simp [coV, coX, coY, coK, h, h1]
/-- Facts of counts in range. -/
theorem co_facts {rn rd tn td : Int} (h : coG rn rd tn td = true) : rtV rn rd = true ∧ sdV tn td = true ∧ (0 ≤ rn * tn ∧ rn * tn ≤ 1000000000000000000) ∧ (1 ≤ rd * td ∧ rd * td ≤ 10000000000000000) := by
  have h' : rtV rn rd = true ∧ sdV tn td = true := by simpa [coG] using h
  obtain ⟨h1, h2⟩ := h'
  obtain ⟨a1, a2, a3, a4⟩ := rt_of h1
  obtain ⟨h3, h4⟩ := sd_of h2
  obtain ⟨b1, b2, b3, b4⟩ := rt_of h3
  have m0 := mul2_bd (A := 1000000000) (B := 1000000000) (x := rn) (y := tn) (by omega) (by omega) (by omega) (by omega)
  have m1 := mul2_bd (A := 100000000) (B := 100000000) (x := rd) (y := td) (by omega) (by omega) (by omega) (by omega)
  have m2 := Int.mul_pos (show 0 < rd by omega) (show 0 < td by omega)
  exact ⟨h1, h2, ⟨by omega, by omega⟩, by omega, by omega⟩

set_option maxRecDepth 100000 in
set_option maxHeartbeats 4000000 in
theorem Counts_c (rn rd tn td : Int) (w : World) : Calls Tryd.prog 23 #[.agg #[.int .i64 rn, .int .i64 rd], .agg #[.int .i64 tn, .int .i64 td]] w (Ret (coV rn rd tn td) w) := by
  cases h : coG rn rd tn td
  · rw [coV_bad h]
    unfold coG at h
    rcases vv_false h with h1 | ⟨h1, h2⟩
    · clear h
      go_enter Tryd.func23, Tryd.ntmps23
      go_wp2_with (first | (go_at_call 68; ((with_reducible refine (all1_rt rn rd _ _ (by go_simp) (by go_simp)).mono ?_); rintro e w' ⟨rfl, hb⟩; obtain ⟨hz, hc, hf⟩ := bcl hb (by first | (simp; rfl) | rfl))))
      go_ret3
      exact ⟨rfl, by (repeat (first | (with_reducible exact bl_refl _) | (with_reducible refine bl_drew ?_) | (with_reducible refine bl_alloc ?_ _) | (with_reducible refine bl_set' ?_ ?_; · (first | omega | (simp; done) | (simp; omega))) | (with_reducible refine bl_last (by assumption) ?_) | (with_reducible refine bl_drewN ?_ _)))⟩
    · clear h
      go_enter Tryd.func23, Tryd.ntmps23
      go_wp2_with (first | (go_at_call 68; ((with_reducible refine (all1_rt rn rd _ _ (by go_simp) (by go_simp)).mono ?_); rintro e w' ⟨rfl, hb⟩; obtain ⟨hz, hc, hf⟩ := bcl hb (by first | (simp; rfl) | rfl))) | (go_at_call 68; ((with_reducible refine (all1_sd tn td _ _ (by go_simp) (by go_simp)).mono ?_); rintro e w' ⟨rfl, hb⟩; obtain ⟨hz, hc, hf⟩ := bcl hb (by first | (simp; rfl) | rfl))))
      go_ret3
      exact ⟨rfl, by (repeat (first | (with_reducible exact bl_refl _) | (with_reducible refine bl_drew ?_) | (with_reducible refine bl_alloc ?_ _) | (with_reducible refine bl_set' ?_ ?_; · (first | omega | (simp; done) | (simp; omega))) | (with_reducible refine bl_last (by assumption) ?_) | (with_reducible refine bl_drewN ?_ _)))⟩
  · obtain ⟨h1, h2, ⟨m0, m1⟩, m2, m3⟩ := co_facts h
    obtain ⟨n, hn⟩ : ∃ n : Int, n = rn * tn := ⟨_, rfl⟩
    obtain ⟨d, hd0⟩ : ∃ d : Int, d = rd * td := ⟨_, rfl⟩
    have q0 : IntKind.i64.wrap (rn * tn) = n := by rw [hn, IntKind.wrap_i64]; omega
    have q1 : IntKind.i64.wrap (rd * td) = d := by rw [hd0, IntKind.wrap_i64]; omega
    have hL : Hid (coL rn rd tn td = (rn * tn) / (rd * td)) := Lib.hid rfl
    have hM : Hid (coM rn rd tn td = (rn * tn + rd * td - 1) / (rd * td)) := Lib.hid rfl
    have hV : Hid (coV rn rd tn td = if 1000000000 < coM rn rd tn td then .tuple #[.int .i64 0, .int .i64 0, .int .i64 3] else .tuple #[.int .i64 (coL rn rd tn td), .int .i64 (coM rn rd tn td), .int .i64 0]) := Lib.hid (by
      split
      · exact coV_far h (by assumption)
      · exact coV_ok h (by assumption))
    clear h
    generalize coV rn rd tn td = V at *
    generalize coL rn rd tn td = L at *
    generalize coM rn rd tn td = M at *
    rw [← hn] at m0 m1
    rw [← hd0] at m2 m3
    rw [← hn, ← hd0] at hL hM
    clear hn hd0
    have t1 : n.tdiv d = L := by rw [hL.out]; exact Int.tdiv_eq_ediv_of_nonneg m0
    have t2 : (n + d - 1).tdiv d = M := by rw [hM.out]; exact Int.tdiv_eq_ediv_of_nonneg (by omega)
    have hd : ¬ d = 0 := by omega
    have u1 : IntKind.i64.wrap (n + d) = n + d := by rw [IntKind.wrap_i64]; omega
    have u2 : IntKind.i64.wrap (n + d - 1) = n + d - 1 := by rw [IntKind.wrap_i64]; omega
    have hL1 : 0 ≤ L ∧ L ≤ n := by rw [hL.out]; exact ⟨Int.ediv_nonneg m0 (by omega), Int.ediv_le_self _ m0⟩
    have hM1 : 0 ≤ M ∧ M ≤ n + d := by rw [hM.out]; exact ⟨Int.ediv_nonneg (by omega) (by omega), Int.le_trans (Int.ediv_le_self _ (by omega)) (by omega)⟩
    obtain ⟨l1, l2⟩ := hL1
    obtain ⟨l3, l4⟩ := hM1
    have v1 : IntKind.i64.wrap L = L := by rw [IntKind.wrap_i64]; omega
    have v2 : IntKind.i64.wrap M = M := by rw [IntKind.wrap_i64]; omega
    by_cases hf : 1000000000 < M
    all_goals
      have HV := hV.out
      first | rw [if_pos hf] at HV | rw [if_neg hf] at HV
      rw [HV]
      clear HV hV
      go_enter Tryd.func23, Tryd.ntmps23
      go_wp2_with (first | (go_at_call 68; ((with_reducible refine (all1_rt rn rd _ _ (by go_simp) (by go_simp)).mono ?_); rintro e w' ⟨rfl, hb⟩; obtain ⟨hz, hc, hf⟩ := bcl hb (by first | (simp; rfl) | rfl))) | (go_at_call 68; ((with_reducible refine (all1_sd tn td _ _ (by go_simp) (by go_simp)).mono ?_); rintro e w' ⟨rfl, hb⟩; obtain ⟨hz, hc, hf⟩ := bcl hb (by first | (simp; rfl) | rfl))))
      go_quiet (fail)
      go_wp2
      (refine wp_region_ble [0,1,2,3,4,5,6,7,8] [0,1,2,3,4,5,6,7,8] [9,10] (by kernel_rfl) (by kernel_rfl) (by rfl) (by repeat (first | (with_reducible refine panic_then ?_) | (with_reducible refine panic_block ?_) | (with_reducible exact panic_body) | exact panic_body | refine panic_then ?_ | refine panic_block ?_)) ?_
       simp only [pickI, pick, List.getElem?_cons_succ, List.getElem?_cons_zero]
       iterate 9 (first
         | (refine head_val (by rfl) (by first | exact wanted_free rfl | rfl) ?_
            apply Exists.intro
            refine ⟨fun X hX => ?_, ?_⟩
            · (obtain ⟨qz, qc, qf⟩ := bcl hX.out (by first | (simp; rfl) | rfl)
               go_simp
               first | done | rfl | exact ⟨rfl, rfl⟩)
            simp only [Act.put, List.setIfInBounds_toArray, List.set_cons_zero, List.set_cons_succ])
         | (refine head_pure (by rfl) (by first | exact wanted_free rfl | rfl) ?_
            apply Exists.intro
            refine ⟨fun X => ?_, ?_⟩
            · (go_simp
               first | done | rfl)
            simp only [Act.put, List.setIfInBounds_toArray, List.set_cons_zero, List.set_cons_succ])
         | (refine head_pass (by rfl) ?_
            simp only [Act.put, List.setIfInBounds_toArray, List.set_cons_zero, List.set_cons_succ]))
       refine head_nil ?_
       intro w' hw'
       have hb := hw'.out
       clear hw'
       obtain ⟨hz, hc, hf⟩ := bcl hb (by first | (simp; rfl) | rfl))
      go_wp2
      go_ret3
      exact ⟨rfl, by (repeat (first | (with_reducible exact bl_refl _) | (with_reducible refine bl_drew ?_) | (with_reducible refine bl_alloc ?_ _) | (with_reducible refine bl_set' ?_ ?_; · (first | omega | (simp; done) | (simp; omega))) | (with_reducible refine bl_last (by assumption) ?_) | (with_reducible refine bl_drewN ?_ _)))⟩

def baG (c tn td : Int) : Bool := sdV tn td && (decide (0 ≤ c) && decide (c ≤ 1000000))
def baL (c td : Int) : Int := max c 1 * td - td
def baH (c td : Int) : Int := (c + 1) * td
def baO (c tn td : Int) : Bool := baG c tn td && (maE rtV (baL c td) tn && maE rtV (baH c td) tn)
def baK (c tn td : Int) : Int := if baO c tn td then 0 else if baG c tn td then 3 else 1
def baV (c tn td : Int) : Value := .tuple #[.agg #[.int .i64 (if baO c tn td then mkN (baL c td) tn else 0), .int .i64 (if baO c tn td then mkD (baL c td) tn else 0), .int .i64 (if baO c tn td then mkN (baH c td) tn else 0), .int .i64 (if baO c tn td then mkD (baH c td) tn else 0)], .int .i64 (baK c tn td)]
theorem ba_ways {c tn td : Int} (h : baG c tn td = false) : sdV tn td = false ∨ (sdV tn td = true ∧ c < 0) ∨ (sdV tn td = true ∧ 0 ≤ c ∧ 1000000 < c) := by
  unfold baG at h
  cases h1 : sdV tn td
  · exact Or.inl rfl
  · rw [h1, Bool.true_and] at h
    simp at h
    by_cases h3 : c < 0
    · exact Or.inr (Or.inl ⟨rfl, h3⟩)
    · exact Or.inr (Or.inr ⟨rfl, by omega, by omega⟩)
set_option maxHeartbeats 4000000 in
theorem Band_c (c tn td : Int) (w : World) : Calls Tryd.prog 73 #[.int .i64 c, .agg #[.int .i64 tn, .int .i64 td]] w (Ret (baV c tn td) w) := by
  cases h : baG c tn td
  · have hV : baV c tn td = .tuple #[.agg #[.int .i64 0, .int .i64 0, .int .i64 0, .int .i64 0], .int .i64 1] := by simp [baV, baK, baO, h]
    rw [hV]
    clear hV
    rcases ba_ways h with h1 | ⟨h1, h2⟩ | ⟨h1, h2, h3⟩
    all_goals
      clear h
      go_enter Tryd.func73, Tryd.ntmps73
      go_wp2_with (first | (go_at_call 68; ((with_reducible refine (all1_sd tn td _ _ (by go_simp) (by go_simp)).mono ?_); rintro e w' ⟨rfl, hb⟩; obtain ⟨hz, hc, hf⟩ := bcl hb (by first | (simp; rfl) | rfl))))
      (refine bodyPost_ret (v := .tuple #[.agg #[.int .i64 0, .int .i64 0, .int .i64 0, .int .i64 0], .int .i64 1]) (by simp only [results, Tryd.results73]; go_simp) rfl ⟨rfl, ?_⟩)
      (repeat (first | (with_reducible exact bl_refl _) | (with_reducible refine bl_drew ?_) | (with_reducible refine bl_alloc ?_ _) | (with_reducible refine bl_set' ?_ ?_; · (first | omega | (simp; done) | (simp; omega))) | (with_reducible refine bl_last (by assumption) ?_) | (with_reducible refine bl_drewN ?_ _)))
  · have h' : sdV tn td = true ∧ 0 ≤ c ∧ c ≤ 1000000 := by simpa [baG] using h
    obtain ⟨h1, h2, h3⟩ := h'
    obtain ⟨g1, g2⟩ := sd_of h1
    obtain ⟨a1, a2, a3, a4⟩ := rt_of g1
    have hG := h
    have hLe : baL c td = max c 1 * td - td := rfl
    have hHe : baH c td = (c + 1) * td := rfl
    have p1 := mul2_bd (A := 1000001) (B := 100000000) (x := c + 1) (y := td) (by omega) (by omega) (by omega) (by omega)
    have hLb : 0 ≤ baL c td ∧ baL c td ≤ 100000000000000 := by
      rw [hLe]
      obtain ⟨m, hm, hm1, hm2⟩ : ∃ m : Int, max c 1 = m ∧ 1 ≤ m ∧ m ≤ 1000000 := ⟨_, rfl, by omega, by omega⟩
      rw [hm]
      have p0 := mul2_bd (A := 1000000) (B := 100000000) (x := m) (y := td) (by omega) (by omega) (by omega) (by omega)
      have p2 := Int.mul_le_mul_of_nonneg_right hm1 (show 0 ≤ td by omega)
      omega
    have hLw : (c = 0 ∧ baL c td = 0 ∧ baH c td = td) ∨ (1 ≤ c ∧ max c 1 = c ∧ baL c td = c * td - td) := by
      rcases Int.lt_or_le c 1 with g | g
      · obtain rfl : c = 0 := by omega
        refine Or.inl ⟨rfl, ?_, ?_⟩
        · rw [hLe, show max (0 : Int) 1 = 1 by omega, Int.one_mul, Int.sub_self]
        · rw [hHe, Int.zero_add, Int.one_mul]
      · have hm : max c 1 = c := by omega
        exact Or.inr ⟨g, hm, by rw [hLe, hm]⟩
    have HL := fun w => made_rt (baL c td) tn w (by constructor <;> omega) (by constructor <;> omega)
    have HH := fun w => made_rt (baH c td) tn w (by rw [hHe]; constructor <;> omega) (by constructor <;> omega)
    have hV : baV c tn td = .tuple #[.agg #[.int .i64 (if maE rtV (baL c td) tn && maE rtV (baH c td) tn then mkN (baL c td) tn else 0), .int .i64 (if maE rtV (baL c td) tn && maE rtV (baH c td) tn then mkD (baL c td) tn else 0), .int .i64 (if maE rtV (baL c td) tn && maE rtV (baH c td) tn then mkN (baH c td) tn else 0), .int .i64 (if maE rtV (baL c td) tn && maE rtV (baH c td) tn then mkD (baH c td) tn else 0)], .int .i64 (if maE rtV (baL c td) tn && maE rtV (baH c td) tn then 0 else 3)] := by
      simp only [baV, baK, baO, h, Bool.true_and, if_true]
    rw [hV]
    clear hV h
    unfold maV at HL HH
    rcases hLw with ⟨rfl, e1, e2⟩ | ⟨g, hm, e1⟩
    · rw [e1] at HL ⊢
      rw [e2] at HH ⊢
      clear hLe hHe e1 e2 p1 hLb
      generalize mkN 0 tn = x1 at *
      generalize mkD 0 tn = x2 at *
      generalize mkN td tn = y1 at *
      generalize mkD td tn = y2 at *
      cases e1 : maE rtV 0 tn <;> cases e2 : maE rtV td tn
      all_goals
        rw [e1] at HL
        rw [e2] at HH
        simp only [Bool.false_eq_true, if_false, if_true] at HL HH
        simp only [Bool.and_true, Bool.and_false, Bool.false_eq_true, if_false, if_true]
        have HL := Lib.hid HL
        have HH := Lib.hid HH
        clear e1 e2
        go_enter Tryd.func73, Tryd.ntmps73
        go_wp2_with (first | (go_at_call 68; ((with_reducible refine (all1_sd tn td _ _ (by go_simp) (by go_simp)).mono ?_); rintro e w' ⟨rfl, hb⟩; obtain ⟨hz, hc, hf⟩ := bcl hb (by first | (simp; rfl) | rfl))) | (go_at_call 71; ((with_reducible refine (HL.out _).mono ?_); rintro e w' ⟨rfl, hb⟩; obtain ⟨hz, hc, hf⟩ := bcl hb (by first | (simp; rfl) | rfl))) | (go_at_call 71; ((with_reducible refine (HH.out _).mono ?_); rintro e w' ⟨rfl, hb⟩; obtain ⟨hz, hc, hf⟩ := bcl hb (by first | (simp; rfl) | rfl))))
        first | (refine bodyPost_ret (v := .tuple #[.agg #[.int .i64 0, .int .i64 0, .int .i64 0, .int .i64 0], .int .i64 3]) (by simp only [results, Tryd.results73]; go_simp) rfl ⟨rfl, ?_⟩) | (refine bodyPost_ret (v := .tuple #[.agg #[.int .i64 x1, .int .i64 x2, .int .i64 y1, .int .i64 y2], .int .i64 0]) (by simp only [results, Tryd.results73]; go_simp) rfl ⟨rfl, ?_⟩)
        (repeat (first | (with_reducible exact bl_refl _) | (with_reducible refine bl_drew ?_) | (with_reducible refine bl_alloc ?_ _) | (with_reducible refine bl_set' ?_ ?_; · (first | omega | (simp; done) | (simp; omega))) | (with_reducible refine bl_last (by assumption) ?_) | (with_reducible refine bl_drewN ?_ _)))
    · rw [e1] at HL hLb ⊢
      rw [hHe] at HH ⊢
      have p0 := mul2_bd (A := 1000000) (B := 100000000) (x := c) (y := td) (by omega) (by omega) (by omega) (by omega)
      have q0 : IntKind.i64.wrap (c * td) = c * td := by rw [IntKind.wrap_i64]; omega
      have q1 : IntKind.i64.wrap (c * td - td) = c * td - td := by rw [IntKind.wrap_i64]; omega
      have q2 : IntKind.i64.wrap ((c + 1) * td) = (c + 1) * td := by rw [IntKind.wrap_i64]; omega
      clear hLe hHe e1 p1 p0 hLb
      generalize mkN (c * td - td) tn = x1 at *
      generalize mkD (c * td - td) tn = x2 at *
      generalize mkN ((c + 1) * td) tn = y1 at *
      generalize mkD ((c + 1) * td) tn = y2 at *
      cases e1 : maE rtV (c * td - td) tn <;> cases e2 : maE rtV ((c + 1) * td) tn
      all_goals
        rw [e1] at HL
        rw [e2] at HH
        simp only [Bool.false_eq_true, if_false, if_true] at HL HH
        simp only [Bool.and_true, Bool.and_false, Bool.false_eq_true, if_false, if_true]
        have HL := Lib.hid HL
        have HH := Lib.hid HH
        clear e1 e2
        go_enter Tryd.func73, Tryd.ntmps73
        go_wp2_with (first | (go_at_call 68; ((with_reducible refine (all1_sd tn td _ _ (by go_simp) (by go_simp)).mono ?_); rintro e w' ⟨rfl, hb⟩; obtain ⟨hz, hc, hf⟩ := bcl hb (by first | (simp; rfl) | rfl))) | (go_at_call 71; ((with_reducible refine (HL.out _).mono ?_); rintro e w' ⟨rfl, hb⟩; obtain ⟨hz, hc, hf⟩ := bcl hb (by first | (simp; rfl) | rfl))) | (go_at_call 71; ((with_reducible refine (HH.out _).mono ?_); rintro e w' ⟨rfl, hb⟩; obtain ⟨hz, hc, hf⟩ := bcl hb (by first | (simp; rfl) | rfl))))
        first | (refine bodyPost_ret (v := .tuple #[.agg #[.int .i64 0, .int .i64 0, .int .i64 0, .int .i64 0], .int .i64 3]) (by simp only [results, Tryd.results73]; go_simp) rfl ⟨rfl, ?_⟩) | (refine bodyPost_ret (v := .tuple #[.agg #[.int .i64 x1, .int .i64 x2, .int .i64 y1, .int .i64 y2], .int .i64 0]) (by simp only [results, Tryd.results73]; go_simp) rfl ⟨rfl, ?_⟩)
        (repeat (first | (with_reducible exact bl_refl _) | (with_reducible refine bl_drew ?_) | (with_reducible refine bl_alloc ?_ _) | (with_reducible refine bl_set' ?_ ?_; · (first | omega | (simp; done) | (simp; omega))) | (with_reducible refine bl_last (by assumption) ?_) | (with_reducible refine bl_drewN ?_ _)))
end Go.Proofs.YtehifkdfbiebfaaDoor
namespace Go.Proofs.YtehifkdfbiebfaaDoor
open Go.RowKit

/-- A band is not falling. -/
def riB (an ad bn bd : Int) : Bool := (vR an ad && vR bn bd) && decide (an * bd ≤ bn * ad)
theorem ri_ways (an ad bn bd : Int) : ((vR an ad && vR bn bd) = false ∧ cmpV an ad bn bd = .tuple #[.int .i64 0, .int .i64 1] ∧ riB an ad bn bd = false) ∨
    ((vR an ad && vR bn bd) = true ∧ riB an ad bn bd = false ∧ cmpV an ad bn bd = .tuple #[.int .i64 1, .int .i64 0]) ∨
    ((vR an ad && vR bn bd) = true ∧ riB an ad bn bd = true ∧ ∃ x : Int, x ≤ 0 ∧ cmpV an ad bn bd = .tuple #[.int .i64 x, .int .i64 0]) := by
  unfold riB
  cases h : (vR an ad && vR bn bd)
  · exact Or.inl ⟨rfl, cmp_bad h, rfl⟩
  · rw [cmp_good h]
    rcases sg_ways (an * bd - bn * ad) with ⟨h1, h2⟩ | ⟨h1, h2⟩ | ⟨h1, h2⟩
    · exact Or.inr (Or.inr ⟨rfl, by rw [Bool.true_and]; exact decide_eq_true (by omega), _, by omega, rfl⟩)
    · exact Or.inr (Or.inl ⟨rfl, by rw [Bool.true_and]; exact decide_eq_false (by omega), by rw [h2]⟩)
    · exact Or.inr (Or.inr ⟨rfl, by rw [Bool.true_and]; exact decide_eq_true (by omega), _, by omega, rfl⟩)
set_option maxHeartbeats 1000000 in
theorem rising_c (an ad bn bd : Int) (w : World) : Calls Tryd.prog 74 #[.agg #[.int .i64 an, .int .i64 ad, .int .i64 bn, .int .i64 bd]] w (Ret (.bool (riB an ad bn bd)) w) := by
  have hC := fun w => Cmp_c an ad bn bd w
  rcases ri_ways an ad bn bd with ⟨_, h1, h2⟩ | ⟨_, h2, h1⟩ | ⟨_, h2, x, hx, h1⟩
  all_goals
    rw [h2]
    rw [h1] at hC
    have HC := Lib.hid hC
    clear h1 h2 hC
    go_enter Tryd.func74, Tryd.ntmps74
    go_wp2_with (go_at_call 20; ((with_reducible refine (HC.out _).mono ?_); rintro e w' ⟨rfl, hb⟩; obtain ⟨hz, hc, hf⟩ := bcl hb (by first | (simp; rfl) | rfl)))
    go_ret
    exact ⟨rfl, by (repeat (first | (with_reducible exact bl_refl _) | (with_reducible refine bl_drew ?_) | (with_reducible refine bl_alloc ?_ _) | (with_reducible refine bl_set' ?_ ?_; · (first | omega | (simp; done) | (simp; omega))) | (with_reducible refine bl_last (by assumption) ?_) | (with_reducible refine bl_drewN ?_ _)))⟩
def mvG (an ad bn bd p q rn rd sn sd : Int) : Bool := (sdV an ad && sdV bn bd) && ((rtV rn rd && rtV sn sd) && (riB an ad bn bd && (riB rn rd sn sd && (ptV p && ptV q))))
/-- The rates at both ends. -/
def mvA (above : Bool) (x y : Int) : Int := if above then x else y
def mvO (an ad bn bd p q rn rd sn sd : Int) (above : Bool) : Bool := mvG an ad bn bd p q rn rd sn sd && (decide (seE an ad p q (mvA above rn sn) (mvA above rd sd) above = 0) && decide (seE bn bd p q (mvA above sn rn) (mvA above sd rd) above = 0))
def mvK (an ad bn bd p q rn rd sn sd : Int) (above : Bool) : Int := if mvO an ad bn bd p q rn rd sn sd above then 0 else if mvG an ad bn bd p q rn rd sn sd then 3 else 1
def mvV (an ad bn bd p q rn rd sn sd : Int) (above : Bool) : Value := .tuple #[.agg #[.int .i64 (if mvO an ad bn bd p q rn rd sn sd above then seX an ad p q (mvA above rn sn) (mvA above rd sd) above else 0), .int .i64 (if mvO an ad bn bd p q rn rd sn sd above then seY an ad p q (mvA above rn sn) (mvA above rd sd) above else 0), .int .i64 (if mvO an ad bn bd p q rn rd sn sd above then seX bn bd p q (mvA above sn rn) (mvA above sd rd) above else 0), .int .i64 (if mvO an ad bn bd p q rn rd sn sd above then seY bn bd p q (mvA above sn rn) (mvA above sd rd) above else 0)], .int .i64 (mvK an ad bn bd p q rn rd sn sd above)]
set_option maxRecDepth 100000 in
set_option maxHeartbeats 8000000 in
theorem Move_c (an ad bn bd p q rn rd sn sd : Int) (above : Bool) (w : World) : Calls Tryd.prog 25 #[.agg #[.int .i64 an, .int .i64 ad, .int .i64 bn, .int .i64 bd], .int .i64 p, .int .i64 q, .agg #[.int .i64 rn, .int .i64 rd, .int .i64 sn, .int .i64 sd], .bool above] w (Ret (mvV an ad bn bd p q rn rd sn sd above) w) := by
  cases h : mvG an ad bn bd p q rn rd sn sd
  · have hV : mvV an ad bn bd p q rn rd sn sd above = .tuple #[.agg #[.int .i64 0, .int .i64 0, .int .i64 0, .int .i64 0], .int .i64 1] := by simp [mvV, mvK, mvO, h]
    rw [hV]
    clear hV
    unfold mvG at h
    have hw : (sdV an ad && sdV bn bd) = false ∨ ((sdV an ad && sdV bn bd) = true ∧ (rtV rn rd && rtV sn sd) = false) ∨ ((sdV an ad && sdV bn bd) = true ∧ (rtV rn rd && rtV sn sd) = true ∧ riB an ad bn bd = false) ∨
        ((sdV an ad && sdV bn bd) = true ∧ (rtV rn rd && rtV sn sd) = true ∧ riB an ad bn bd = true ∧ riB rn rd sn sd = false) ∨ ((sdV an ad && sdV bn bd) = true ∧ (rtV rn rd && rtV sn sd) = true ∧ riB an ad bn bd = true ∧ riB rn rd sn sd = true ∧ (ptV p && ptV q) = false) := by
      rcases vv_false h with h1 | ⟨h1, h⟩
      · exact Or.inl h1
      rcases vv_false h with h2 | ⟨h2, h⟩
      · exact Or.inr (Or.inl ⟨h1, h2⟩)
      rcases vv_false h with h3 | ⟨h3, h⟩
      · exact Or.inr (Or.inr (Or.inl ⟨h1, h2, h3⟩))
      rcases vv_false h with h4 | ⟨h4, h5⟩
      · exact Or.inr (Or.inr (Or.inr (Or.inl ⟨h1, h2, h3, h4⟩)))
      · exact Or.inr (Or.inr (Or.inr (Or.inr ⟨h1, h2, h3, h4, h5⟩)))
    clear h
    have A1 := fun b w => all2_sd an ad bn bd b w
    have A2 := fun b w => all2_rt rn rd sn sd b w
    have A3 := fun w => rising_c an ad bn bd w
    have A4 := fun w => rising_c rn rd sn sd w
    have A5 := fun b w => partials2_c p q b w
    rcases hw with h1 | ⟨h1, h2⟩ | ⟨h1, h2, h3⟩ | ⟨h1, h2, h3, h4⟩ | ⟨h1, h2, h3, h4, h5⟩
    all_goals
      rw [h1] at A1
      try rw [h2] at A2
      try rw [h3] at A3
      try rw [h4] at A4
      try rw [h5] at A5
      clear h1
      try clear h2
      try clear h3
      try clear h4
      try clear h5
      have H1 := Lib.hid A1
      have H2 := Lib.hid A2
      have H3 := Lib.hid A3
      have H4 := Lib.hid A4
      have H5 := Lib.hid A5
      clear A1 A2 A3 A4 A5
      go_enter Tryd.func25, Tryd.ntmps25
      go_wp2_with (first | (go_at_call 68; ((with_reducible refine (H1.out _ _ (by go_simp) (by go_simp) (by go_simp) (by go_simp)).mono ?_); rintro e w' ⟨rfl, hb⟩; obtain ⟨hz, hc, hf⟩ := bcl hb (by first | (simp; rfl) | rfl))) | (go_at_call 68; ((with_reducible refine (H2.out _ _ (by go_simp) (by go_simp) (by go_simp) (by go_simp)).mono ?_); rintro e w' ⟨rfl, hb⟩; obtain ⟨hz, hc, hf⟩ := bcl hb (by first | (simp; rfl) | rfl))) | (go_at_call 74; ((with_reducible refine (H3.out _).mono ?_); rintro e w' ⟨rfl, hb⟩; obtain ⟨hz, hc, hf⟩ := bcl hb (by first | (simp; rfl) | rfl))) | (go_at_call 74; ((with_reducible refine (H4.out _).mono ?_); rintro e w' ⟨rfl, hb⟩; obtain ⟨hz, hc, hf⟩ := bcl hb (by first | (simp; rfl) | rfl))) | (go_at_call 70; ((with_reducible refine (H5.out _ _ (by go_simp) (by go_simp)).mono ?_); rintro e w' ⟨rfl, hb⟩; obtain ⟨hz, hc, hf⟩ := bcl hb (by first | (simp; rfl) | rfl))))
      (refine bodyPost_ret (v := .tuple #[.agg #[.int .i64 0, .int .i64 0, .int .i64 0, .int .i64 0], .int .i64 1]) (by simp only [results, Tryd.results25]; go_simp) rfl ⟨rfl, ?_⟩)
      (repeat (first | (with_reducible exact bl_refl _) | (with_reducible refine bl_drew ?_) | (with_reducible refine bl_alloc ?_ _) | (with_reducible refine bl_set' ?_ ?_; · (first | omega | (simp; done) | (simp; omega))) | (with_reducible refine bl_last (by assumption) ?_) | (with_reducible refine bl_drewN ?_ _)))
  · have h' : (sdV an ad && sdV bn bd) = true ∧ (rtV rn rd && rtV sn sd) = true ∧ riB an ad bn bd = true ∧ riB rn rd sn sd = true ∧ (ptV p && ptV q) = true := by
      unfold mvG at h
      simp only [Bool.and_eq_true] at h ⊢
      exact h
    obtain ⟨h1, h2, h3, h4, h5⟩ := h'
    have A1 := fun b w => all2_sd an ad bn bd b w
    have A2 := fun b w => all2_rt rn rd sn sd b w
    have A3 := fun w => rising_c an ad bn bd w
    have A4 := fun w => rising_c rn rd sn sd w
    have A5 := fun b w => partials2_c p q b w
    rw [h1] at A1
    rw [h2] at A2
    rw [h3] at A3
    rw [h4] at A4
    rw [h5] at A5
    have H1 := Lib.hid A1
    have H2 := Lib.hid A2
    have H3 := Lib.hid A3
    have H4 := Lib.hid A4
    have H5 := Lib.hid A5
    have S1 := fun w => Set_c an ad p q (mvA above rn sn) (mvA above rd sd) above w
    have S2 := fun w => Set_c bn bd p q (mvA above sn rn) (mvA above sd rd) above w
    simp only [seV_eq] at S1 S2
    have hO : mvO an ad bn bd p q rn rd sn sd above = (decide (seE an ad p q (mvA above rn sn) (mvA above rd sd) above = 0) && decide (seE bn bd p q (mvA above sn rn) (mvA above sd rd) above = 0)) := by unfold mvO; rw [h, Bool.true_and]
    have hV : mvV an ad bn bd p q rn rd sn sd above = if mvO an ad bn bd p q rn rd sn sd above then .tuple #[.agg #[.int .i64 (seX an ad p q (mvA above rn sn) (mvA above rd sd) above), .int .i64 (seY an ad p q (mvA above rn sn) (mvA above rd sd) above), .int .i64 (seX bn bd p q (mvA above sn rn) (mvA above sd rd) above), .int .i64 (seY bn bd p q (mvA above sn rn) (mvA above sd rd) above)], .int .i64 0] else .tuple #[.agg #[.int .i64 0, .int .i64 0, .int .i64 0, .int .i64 0], .int .i64 3] := by
      unfold mvV mvK
      rw [h]
      split <;> simp_all
    rw [hV, hO]
    clear hV hO h h1 h2 h3 h4 h5 A1 A2 A3 A4 A5
    generalize seX an ad p q (mvA above rn sn) (mvA above rd sd) above = x1 at *
    generalize seY an ad p q (mvA above rn sn) (mvA above rd sd) above = y1 at *
    generalize seE an ad p q (mvA above rn sn) (mvA above rd sd) above = e1 at *
    generalize seX bn bd p q (mvA above sn rn) (mvA above sd rd) above = x2 at *
    generalize seY bn bd p q (mvA above sn rn) (mvA above sd rd) above = y2 at *
    generalize seE bn bd p q (mvA above sn rn) (mvA above sd rd) above = e2 at *
    have hw : ((e1 != 0) = true ∧ (decide (e1 = 0) && decide (e2 = 0)) = false) ∨ (e1 = 0 ∧ (e2 != 0) = true ∧ (decide (e1 = 0) && decide (e2 = 0)) = false) ∨ (e1 = 0 ∧ e2 = 0 ∧ (decide (e1 = 0) && decide (e2 = 0)) = true) := by
      by_cases h1 : e1 = 0
      · by_cases h2 : e2 = 0
        · exact Or.inr (Or.inr ⟨h1, h2, by simp [h1, h2]⟩)
        · exact Or.inr (Or.inl ⟨h1, by simpa using h2, by simp [h2]⟩)
      · exact Or.inl ⟨by simpa using h1, by simp [h1]⟩
    have T1 := Lib.hid S1
    have T2 := Lib.hid S2
    clear S1 S2
    rcases hw with ⟨k1, k2⟩ | ⟨rfl, k1, k2⟩ | ⟨rfl, rfl, k2⟩ <;> cases above
    all_goals
      rw [k2]
      clear k2
      simp only [mvA, if_true, Bool.false_eq_true, if_false] at T1 T2 ⊢
      have T1 := Lib.hid T1.out
      have T2 := Lib.hid T2.out
      go_enter Tryd.func25, Tryd.ntmps25
      go_wp2_with (first | (go_at_call 68; ((with_reducible refine (H1.out _ _ (by go_simp) (by go_simp) (by go_simp) (by go_simp)).mono ?_); rintro e w' ⟨rfl, hb⟩; obtain ⟨hz, hc, hf⟩ := bcl hb (by first | (simp; rfl) | rfl))) | (go_at_call 68; ((with_reducible refine (H2.out _ _ (by go_simp) (by go_simp) (by go_simp) (by go_simp)).mono ?_); rintro e w' ⟨rfl, hb⟩; obtain ⟨hz, hc, hf⟩ := bcl hb (by first | (simp; rfl) | rfl))) | (go_at_call 74; ((with_reducible refine (H3.out _).mono ?_); rintro e w' ⟨rfl, hb⟩; obtain ⟨hz, hc, hf⟩ := bcl hb (by first | (simp; rfl) | rfl))) | (go_at_call 74; ((with_reducible refine (H4.out _).mono ?_); rintro e w' ⟨rfl, hb⟩; obtain ⟨hz, hc, hf⟩ := bcl hb (by first | (simp; rfl) | rfl))) | (go_at_call 70; ((with_reducible refine (H5.out _ _ (by go_simp) (by go_simp)).mono ?_); rintro e w' ⟨rfl, hb⟩; obtain ⟨hz, hc, hf⟩ := bcl hb (by first | (simp; rfl) | rfl))) | (go_at_call 75; ((with_reducible refine (T1.out _).mono ?_); rintro e w' ⟨rfl, hb⟩; obtain ⟨hz, hc, hf⟩ := bcl hb (by first | (simp; rfl) | rfl))) | (go_at_call 75; ((with_reducible refine (T2.out _).mono ?_); rintro e w' ⟨rfl, hb⟩; obtain ⟨hz, hc, hf⟩ := bcl hb (by first | (simp; rfl) | rfl))))
      first | (refine bodyPost_ret (v := .tuple #[.agg #[.int .i64 0, .int .i64 0, .int .i64 0, .int .i64 0], .int .i64 3]) (by simp only [results, Tryd.results25]; go_simp) rfl ⟨rfl, ?_⟩) | (refine bodyPost_ret (v := .tuple #[.agg #[.int .i64 x1, .int .i64 y1, .int .i64 x2, .int .i64 y2], .int .i64 0]) (by simp only [results, Tryd.results25]; go_simp) rfl ⟨rfl, ?_⟩)
      (repeat (first | (with_reducible exact bl_refl _) | (with_reducible refine bl_drew ?_) | (with_reducible refine bl_alloc ?_ _) | (with_reducible refine bl_set' ?_ ?_; · (first | omega | (simp; done) | (simp; omega))) | (with_reducible refine bl_last (by assumption) ?_) | (with_reducible refine bl_drewN ?_ _)))
end Go.Proofs.YtehifkdfbiebfaaDoor
