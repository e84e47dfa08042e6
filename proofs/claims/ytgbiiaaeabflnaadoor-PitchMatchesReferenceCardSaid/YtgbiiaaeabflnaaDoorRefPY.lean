/- Pitch: the reference Ratio and Fraction (genrefp.py prints it). Pitch: the reference's Digits, common, term and Text. Pitch: the reference's Text. Pitch: the reference's number and is. Pitch: the reference's Parse (genrefph.py prints it). -/
import Derived.Test.YtgbiiaaeabflnaaDoorRefPA
import Derived.Test.YtgbiiaaeabflnaaDoorPitR
import Derived.Test.YtgbiiaaeabflnaaDoorParB
import Derived.Laws.IdiomStrings
import Derived.Test.YtgbiiaaeabflnaaDoorParC
namespace Go.Proofs.YtgbiiaaeabflnaaDoor
open Go Go.RowKit

set_option maxRecDepth 100000 in
set_option maxHeartbeats 8000000 in
theorem rratio_bad (n d : Int) (w : World) (h : rtG n d = false) : Calls Tryd.prog 30 #[.int .i64 n, .int .i64 d] w (Ret (.tuple #[.agg #[.int .i64 0, .int .i64 0, .int .i64 0, .int .i64 0, .int .i64 0, .int .i64 0], .int .i64 1]) w) := by
  rcases rtG_ways h with h1 | ⟨h1, h2⟩ | ⟨h1, h2, h3⟩ | ⟨h1, h2, h3, h4⟩
  all_goals
    clear h
    go_enter Tryd.func30, Tryd.ntmps30
    go_wp2
    (refine bodyPost_ret (v := .tuple #[.agg #[.int .i64 0, .int .i64 0, .int .i64 0, .int .i64 0, .int .i64 0, .int .i64 0], .int .i64 1]) (by simp only [results, Tryd.results30]; go_simp) rfl ⟨rfl, ?_⟩)
    (repeat (first | (with_reducible exact bl_refl _) | (with_reducible refine bl_drew ?_) | (with_reducible refine bl_alloc ?_ _) | (with_reducible refine bl_set' ?_ ?_; · (first | omega | (simp; done) | (simp; omega))) | (with_reducible refine bl_last (by assumption) ?_) | (with_reducible refine bl_drewN ?_ _)))
set_option maxRecDepth 100000 in
set_option maxHeartbeats 8000000 in
theorem rratio_good (n d : Int) (w : World) (h1 : 1 ≤ n) (h2 : n ≤ 1000000000) (h3 : 1 ≤ d) (h4 : d ≤ 1000000000) : Calls Tryd.prog 30 #[.int .i64 n, .int .i64 d] w (Ret (if chN n.toNat 6 = chN d.toNat 6 then .tuple #[.agg (cell6 (raE3 n.toNat d.toNat)), .int .i64 0] else .tuple #[.agg #[.int .i64 0, .int .i64 0, .int .i64 0, .int .i64 0, .int .i64 0, .int .i64 0], .int .i64 9]) w) := by
  have HX := Lib.hid (fun i h w => RPrime_c i h w)
  have n1 : ¬ n < 1 := by omega
  have n2 : ¬ 1000000000 < n := by omega
  have n3 : ¬ d < 1 := by omega
  have n4 : ¬ 1000000000 < d := by omega
  obtain ⟨nn, hnn⟩ : ∃ nn : Nat, nn = n.toNat := ⟨_, rfl⟩
  obtain ⟨dd, hdd⟩ : ∃ dd : Nat, dd = d.toNat := ⟨_, rfl⟩
  have en : n = (nn : Int) := by omega
  have ed : d = (dd : Int) := by omega
  have b1 : 1 ≤ nn := by omega
  have b2 : nn ≤ 1000000000 := by omega
  have b3 : 1 ≤ dd := by omega
  have b4 : dd ≤ 1000000000 := by omega
  rw [← hnn, ← hdd]
  clear h1 h2 h3 h4 hnn hdd
  have EN := Lib.hid en
  have ED := Lib.hid ed
  clear en ed
  have HN := Lib.hid (fun k (hk : k ≤ 6) => chN_pos b1 k hk)
  have HD := Lib.hid (fun k (hk : k ≤ 6) => chN_pos b3 k hk)
  generalize hVV : (if chN nn 6 = chN dd 6 then (Value.tuple #[.agg (cell6 (raE3 nn dd)), .int .i64 0]) else .tuple #[.agg #[.int .i64 0, .int .i64 0, .int .i64 0, .int .i64 0, .int .i64 0, .int .i64 0], .int .i64 9]) = VV
  have HVV := Lib.hid hVV
  clear hVV
  go_enter Tryd.func30, Tryd.ntmps30
  go_wp2
  go_loopw [0, 1, 7] (fun x y i wr => ∃ k : Nat, k ≤ 6 ∧ i = .int .i64 (k : Int) ∧ x = .int .i64 (chN nn k : Int) ∧ y = .int .i64 (chN dd k : Int) ∧ Below w.heap.size w wr ∧ Hid (Blk wr w.heap.size 38 #[.int .i64 0, .int .i64 0, .int .i64 0, .int .i64 0, .int .i64 0, .int .i64 0]) ∧ Hid (Blk wr (w.heap.size + 1) 38 (cell6 (raU nn dd k)))) (fun _ _ i _ => 6 - (intOf i).toNat)
  case atStart => exact ⟨0, by omega, rfl, by rw [EN.out]; rfl, by rw [ED.out]; rfl, by (repeat (first | (with_reducible exact bl_refl _) | (with_reducible refine bl_drew ?_) | (with_reducible refine bl_alloc ?_ _) | (with_reducible refine bl_set' ?_ ?_; · (first | omega | (simp; done) | (simp; omega))) | (with_reducible refine bl_last (by assumption) ?_) | (with_reducible refine bl_drewN ?_ _))), Lib.hid ((Blk.new _ _ _).alloc _), Lib.hid (blkAt _ _ _ _ (by simp))⟩
  case round =>
    clear n1 n2 n3 n4 EN ED
    obtain ⟨k, hk, rfl, rfl, rfl, hbw, HR, HV⟩ := hrel
    by_cases hlt : k < 6
    · have HPX := Lib.hid (fun w => HX.out k hlt w)
      obtain ⟨p1, p2⟩ := prm_pos hlt
      obtain ⟨q1, q2⟩ := HN.out k hk
      obtain ⟨q3, q4⟩ := HD.out k hk
      have e8 : IntKind.i64.wrap ((k : Int) + 1) = ((k + 1 : Nat) : Int) := by rw [IntKind.wrap_i64]; omega
      have HF := Lib.hid (⟨p1, fun j m c x (h : m = c * prm k ^ j) hc => val_of (p := prm k) p1 h hc⟩ : 2 ≤ prm k ∧ ∀ (j m c x : Nat), m = c * prm k ^ j → c % prm k ≠ 0 → val (prm k) m = j ∧ cof (prm k) m = c)
      have HVN := Lib.hid (val_lt (m := 30) p1 q1 (by omega))
      have HVD := Lib.hid (val_lt (m := 30) p1 q3 (by omega))
      have HS : Hid (chN nn (k + 1) = cof (prm k) (chN nn k) ∧ chN dd (k + 1) = cof (prm k) (chN dd k) ∧ raE3 nn dd k = (val (prm k) (chN nn k) : Int) - (val (prm k) (chN dd k) : Int)) := Lib.hid ⟨rfl, rfl, rfl⟩
      have HP2 : Hid (∀ c : Nat, 1 ≤ c → c % prm k = 0 → (c / prm k) * prm k = c ∧ 1 ≤ c / prm k ∧ c / prm k < c) := Lib.hid (fun c h1 h2 => by
        have e := Nat.div_mul_cancel (Nat.dvd_of_mod_eq_zero h2)
        refine ⟨e, ?_, Nat.div_lt_self (by omega) p1⟩
        rcases Nat.eq_zero_or_pos (c / prm k) with g | g
        · rw [g] at e; omega
        · exact g)
      generalize prm k = p at *
      generalize chN nn k = N at *
      generalize chN dd k = D at *
      have hsz := HV.out.lt
      have hq0 : (p : Int) ≠ 0 := by omega
      have hfk : raU nn dd k k = 0 := raU_ge (by omega)
      have HP3 : Hid (2 ≤ p) := Lib.hid p1
      go_wp2_with (go_at_call 51; ((with_reducible refine (HPX.out _).mono ?_); rintro e w' ⟨rfl, rfl⟩))
      go_loopw [0] (fun x wr2 => ∃ c j : Nat, x = .int .i64 (c : Int) ∧ Hid (N = c * p ^ j) ∧ 1 ≤ c ∧ c ≤ 1000000000 ∧ Below w.heap.size w wr2 ∧ Hid (Blk wr2 w.heap.size 38 #[.int .i64 0, .int .i64 0, .int .i64 0, .int .i64 0, .int .i64 0, .int .i64 0]) ∧ Hid (Blk wr2 (w.heap.size + 1) 38 (cell6 (upd6 (raU nn dd k) k (j : Int))))) (fun x _ => (intOf x).toNat)
      case atStart => exact ⟨N, 0, rfl, Lib.hid (by simp), q1, by omega, hbw, HR, Lib.hid (by rw [show upd6 (raU nn dd k) k ((0 : Nat) : Int) = raU nn dd k from upd6_same hfk]; exact HV.out)⟩
      case round =>
        clear hbw HR HV hsz
        obtain ⟨c, j, rfl, HE, hc1, hc2, hbw, HR, HV⟩ := hrel
        have hj := val_bd HE.out HP3.out hc1
        have hsz := HV.out.lt
        have cV := (HV.out.cell k).trans (cell6_get _ hlt)
        rw [upd6_at] at cV
        have fV := HV.out.frozen k
        have ht := tm_nat c p
        have hd' := td_nat c p
        by_cases hm : c % p = 0
        · obtain ⟨g1, g2, g3⟩ := HP2.out c hc1 hm
          have hst := Lib.hid (pow_step HE.out hm)
          rw [hm] at ht
          have ht : (c : Int) % (p : Int) = 0 := ht
          have wd : IntKind.i64.wrap (((c / p : Nat) : Int)) = ((c / p : Nat) : Int) := by rw [IntKind.wrap_i64]; omega
          have wj : IntKind.i64.wrap ((j : Int) + 1) = ((j + 1 : Nat) : Int) := by rw [IntKind.wrap_i64]; omega
          generalize c / p = c' at *
          clear hm
          go_wp2
          go_roundw
          case rel => exact ⟨c', j + 1, rfl, hst, g2, by omega, bl_set' (by show w.heap.size ≤ w.heap.size + 1; omega) hbw, Lib.hid (HR.out.far (by show w.heap.size ≠ w.heap.size + 1; omega) _), Lib.hid (by
            have h5 := HV.out.set_ k (.int .i64 ((j + 1 : Nat) : Int))
            rw [cell6_set _ hlt, upd6_twice] at h5
            exact h5)⟩
          case measure => simp [intOf]; omega
        · obtain ⟨v1, v2⟩ := HF.out.2 j N c 0 HE.out hm
          have ht0 : ¬ (c : Int) % (p : Int) = 0 := by rw [ht]; omega
          have ht' : ((c : Int) % (p : Int) == 0) = false := by simpa using ht0
          clear ht hd' ht0
          have HV1 := Lib.hid v1
          have HV2 := Lib.hid v2
          clear v1 v2 hm cV fV
          go_wp2
          go_loopw [1] (fun x wr2 => ∃ c2 j2 : Nat, x = .int .i64 (c2 : Int) ∧ Hid (D = c2 * p ^ j2) ∧ 1 ≤ c2 ∧ c2 ≤ 1000000000 ∧ Below w.heap.size w wr2 ∧ Hid (Blk wr2 w.heap.size 38 #[.int .i64 0, .int .i64 0, .int .i64 0, .int .i64 0, .int .i64 0, .int .i64 0]) ∧ Hid (Blk wr2 (w.heap.size + 1) 38 (cell6 (upd6 (raU nn dd k) k ((j : Int) - (j2 : Int)))))) (fun x _ => (intOf x).toNat)
          case atStart => exact ⟨D, 0, rfl, Lib.hid (by simp), q3, by omega, hbw, HR, Lib.hid (by rw [show (j : Int) - ((0 : Nat) : Int) = (j : Int) by omega]; exact HV.out)⟩
          case round =>
            clear hbw HR HV hsz ht'
            obtain ⟨c2, j2, rfl, HE2, hc3, hc4, hbw, HR, HV⟩ := hrel
            have hj2 := val_bd HE2.out HP3.out hc3
            have hsz := HV.out.lt
            have cV := (HV.out.cell k).trans (cell6_get _ hlt)
            rw [upd6_at] at cV
            have fV := HV.out.frozen k
            have ht := tm_nat c2 p
            have hd' := td_nat c2 p
            by_cases hm : c2 % p = 0
            · obtain ⟨g1, g2, g3⟩ := HP2.out c2 hc3 hm
              have hst := Lib.hid (pow_step HE2.out hm)
              rw [hm] at ht
              have ht : (c2 : Int) % (p : Int) = 0 := ht
              have wd : IntKind.i64.wrap (((c2 / p : Nat) : Int)) = ((c2 / p : Nat) : Int) := by rw [IntKind.wrap_i64]; omega
              have wj : IntKind.i64.wrap ((j : Int) - (j2 : Int) - 1) = (j : Int) - ((j2 + 1 : Nat) : Int) := by rw [IntKind.wrap_i64]; omega
              generalize c2 / p = c' at *
              clear hm
              go_wp2
              go_roundw
              case rel => exact ⟨c', j2 + 1, rfl, hst, g2, by omega, bl_set' (by show w.heap.size ≤ w.heap.size + 1; omega) hbw, Lib.hid (HR.out.far (by show w.heap.size ≠ w.heap.size + 1; omega) _), Lib.hid (by
                have h5 := HV.out.set_ k (.int .i64 ((j : Int) - ((j2 + 1 : Nat) : Int)))
                rw [cell6_set _ hlt, upd6_twice] at h5
                exact h5)⟩
              case measure => simp [intOf]; omega
            · obtain ⟨v3, v4⟩ := HF.out.2 j2 D c2 0 HE2.out hm
              have ht0 : ¬ (c2 : Int) % (p : Int) = 0 := by rw [ht]; omega
              have ht' : ((c2 : Int) % (p : Int) == 0) = false := by simpa using ht0
              clear ht hd' ht0
              obtain ⟨s1, s2, s3⟩ := HS.out
              rw [HV2.out] at s1
              rw [v4] at s2
              rw [HV1.out, v3] at s3
              have HS1 := Lib.hid s1
              have HS2 := Lib.hid s2
              have HS3 := Lib.hid s3
              clear v3 v4 hm cV fV s1 s2 s3
              go_wp2
              go_roundw
              case rel => exact ⟨k + 1, hlt, by go_num, by rw [HS1.out], by rw [HS2.out], hbw, HR, Lib.hid (by rw [← raU_next, HS3.out]; exact HV.out)⟩
              case measure => simp [intOf]; omega
    · obtain rfl : k = 6 := by omega
      have g1 := (HN.out 6 (by omega)).1
      have hV := HV.out
      rw [raU_six] at hV
      have hl := hV.lt
      have hl0 := HR.out.lt
      have e0 := hV.cell 0
      have e1 := hV.cell 1
      have e2 := hV.cell 2
      have e3 := hV.cell 3
      have e4 := hV.cell 4
      have e5 := hV.cell 5
      have f0 := HR.out.cell 0
      have f1 := HR.out.cell 1
      have f2 := HR.out.cell 2
      have f3 := HR.out.cell 3
      have f4 := HR.out.cell 4
      have f5 := HR.out.cell 5
      have g0 := HR.out.frozen 0
      have g1 := HR.out.frozen 1
      have g2 := HR.out.frozen 2
      have g3 := HR.out.frozen 3
      have g4 := HR.out.frozen 4
      have g5 := HR.out.frozen 5
      simp only [cell6, List.getElem?_toArray, List.getElem?_cons_zero, List.getElem?_cons_succ] at e0 e1 e2 e3 e4 e5 f0 f1 f2 f3 f4 f5
      have hv := HVV.out
      by_cases he : chN nn 6 = chN dd 6
      · rw [if_pos he] at hv
        unfold cell6 at hv
        have HE := Lib.hid hv
        clear hv HVV hV
        rw [he]
        go_wp2
        rw [← HE.out]
        (refine bodyPost_ret (v := .tuple #[.agg #[.int .i64 (raE3 nn dd 0), .int .i64 (raE3 nn dd 1), .int .i64 (raE3 nn dd 2), .int .i64 (raE3 nn dd 3), .int .i64 (raE3 nn dd 4), .int .i64 (raE3 nn dd 5)], .int .i64 0]) (by simp only [results, Tryd.results30]; go_simp) rfl ⟨rfl, ?_⟩)
        repeat (first | (with_reducible exact hbw) | (with_reducible refine bl_set' ?_ ?_; · (dsimp only; omega)))
      · rw [if_neg he] at hv
        have HE := Lib.hid hv
        have he' : ¬ (chN nn 6 : Int) = (chN dd 6 : Int) := by omega
        have he2 : ((chN nn 6 : Int) != (chN dd 6 : Int)) = true := by simpa using he'
        generalize (chN nn 6 : Int) = X at *
        generalize (chN dd 6 : Int) = Y at *
        clear hv HVV hV he
        go_wp2
        rw [← HE.out]
        (refine bodyPost_ret (v := .tuple #[.agg #[.int .i64 0, .int .i64 0, .int .i64 0, .int .i64 0, .int .i64 0, .int .i64 0], .int .i64 9]) (by simp only [results, Tryd.results30]; go_simp) rfl ⟨rfl, ?_⟩)
        repeat (first | (with_reducible exact hbw) | (with_reducible refine bl_set' ?_ ?_; · (dsimp only; omega)))
theorem RRatio_c (n d : Int) (w : World) : Calls Tryd.prog 30 #[.int .i64 n, .int .i64 d] w (Ret (raP n d) w) := by
  unfold raP
  cases h : rtG n d
  · exact rratio_bad n d w h
  · obtain ⟨h1, h2, h3, h4⟩ := rtG_of h
    exact rratio_good n d w h1 h2 h3 h4
/-- What the reference's Fraction leaves. -/
def RFrE (a b c d e f : Int) (w : World) (en : Ending) (w' : World) : Prop := if pV a b c d e f 48 then (Below w.heap.size w w' ∧ ∃ q n u q' n' u' : Nat, en = .returned (.tuple #[.slice (some ⟨q, 0, none⟩) n u, .slice (some ⟨q', 0, none⟩) n' u', .int .i64 0]) ∧ Num w' w'.heap.size q n (upN a b c d e f) ∧ n ≤ 640 ∧ Num w' w'.heap.size q' n' (dnN a b c d e f) ∧ n' ≤ 640) else (Below w.heap.size w w' ∧ en = .returned (.tuple #[.slice none 0 0, .slice none 0 0, .int .i64 1]))
set_option maxRecDepth 100000 in
set_option maxHeartbeats 4000000 in
theorem RFraction_c (a b c d e f : Int) (w : World) : Calls Tryd.prog 32 #[.agg #[.int .i64 a, .int .i64 b, .int .i64 c, .int .i64 d, .int .i64 e, .int .i64 f]] w (RFrE a b c d e f w) := by
  have hI := fun w => RPInt_c a b c d e f w
  unfold RFrE
  cases hp : pV a b c d e f 48
  · rw [hp] at hI
    have HI := Lib.hid hI
    clear hp hI
    simp only [Bool.false_eq_true, if_false]
    go_enter Tryd.func32, Tryd.ntmps32
    go_wp2_with (go_at_call 19; ((with_reducible refine (HI.out _).mono ?_); rintro e w' ⟨rfl, hb⟩; obtain ⟨hz, hc, hf⟩ := bcl hb (by first | (simp; rfl) | rfl)))
    refine bodyPost_ret (v := .tuple #[.slice none 0 0, .slice none 0 0, .int .i64 1]) (by simp only [results, Tryd.results32]; go_simp) rfl ⟨?_, rfl⟩
    (repeat (first | (with_reducible exact bl_refl _) | (with_reducible refine bl_drew ?_) | (with_reducible refine bl_alloc ?_ _) | (with_reducible refine bl_set' ?_ ?_; · (first | omega | (simp; done) | (simp; omega))) | (with_reducible refine bl_last (by assumption) ?_) | (with_reducible refine bl_drewN ?_ _)))
  · rw [hp] at hI
    have HI := Lib.hid hI
    simp only [if_true]
    obtain ⟨h1, h2, h3, h4, h5, h6⟩ := pV_of hp
    have h1 := wi_of h1; have h2 := wi_of h2; have h3 := wi_of h3; have h4 := wi_of h4; have h5 := wi_of h5; have h6 := wi_of h6
    have hp2 : pV a b c d e f 1152 = true := pV_mk (wi_mk (by omega) (by omega)) (wi_mk (by omega) (by omega)) (wi_mk (by omega) (by omega)) (wi_mk (by omega) (by omega)) (wi_mk (by omega) (by omega)) (wi_mk (by omega) (by omega))
    have HU := Lib.hid (fun w => Rprod3_c 1 a b c d e f w (Or.inl rfl) hp2)
    have HD := Lib.hid (fun w => Rprod3_c (-1) a b c d e f w (Or.inr rfl) hp2)
    clear h1 h2 h3 h4 h5 h6 hp hp2 hI
    unfold upN dnN
    generalize prodF prm (sgE 1 a b c d e f) 6 = U at *
    generalize prodF prm (sgE (-1) a b c d e f) 6 = V at *
    go_enter Tryd.func32, Tryd.ntmps32
    go_wp2_with fail
    ((with_reducible refine (HI.out _).mono ?_); rintro en v1 ⟨rfl, d1⟩)
    obtain ⟨hz1, hc1, hf1⟩ := bcl d1 (by first | (simp; rfl) | rfl)
    have z1 : w.heap.size < v1.heap.size := by omega
    have k1 : Below w.heap.size w v1 := bl_last d1 (by (repeat (first | (with_reducible exact bl_refl _) | (with_reducible refine bl_drew ?_) | (with_reducible refine bl_alloc ?_ _) | (with_reducible refine bl_set' ?_ ?_; · (first | omega | (simp; done) | (simp; omega))) | (with_reducible refine bl_last (by assumption) ?_) | (with_reducible refine bl_drewN ?_ _))))
    go_wp2_with fail
    go_region_held3 (fun W => W.cell? ⟨w.heap.size, 0, none⟩ = some (.int .i64 a) ∧ W.cell? ⟨w.heap.size, 1, none⟩ = some (.int .i64 b) ∧ W.cell? ⟨w.heap.size, 2, none⟩ = some (.int .i64 c) ∧ W.cell? ⟨w.heap.size, 3, none⟩ = some (.int .i64 d) ∧ W.cell? ⟨w.heap.size, 4, none⟩ = some (.int .i64 e) ∧ W.cell? ⟨w.heap.size, 5, none⟩ = some (.int .i64 f))
      (first | go_keep | (refine ⟨?_, ?_, ?_, ?_, ?_, ?_⟩ <;> (go_simp; done)))
      ((first | (go_at_call 50; ((with_reducible refine (HU.out _).mono ?_); rintro en w2 ⟨hb2, b2, n2, c2, hk2, rfl, hN2, h62, h72⟩; obtain ⟨hz2, hc2, hf2⟩ := bcl hb2 (by first | (simp; rfl) | rfl))) | (go_at_call 50; ((with_reducible refine (HD.out _).mono ?_); rintro en w3 ⟨hb3, b3, n3, c3, hk3, rfl, hN3, h63, h73⟩; obtain ⟨hz3, hc3, hf3⟩ := bcl hb3 (by first | (simp; rfl) | rfl)))))
    all_goals
      go_wp2
      (refine bodyPost_ret (v := .tuple #[.slice (some ⟨b2, 0, none⟩) n2 c2, .slice (some ⟨b3, 0, none⟩) n3 c3, .int .i64 0]) (by simp only [results, Tryd.results32]; go_simp) rfl ?_)
      refine ⟨bl_trans k1 (by (repeat (first | (with_reducible exact bl_refl _) | (with_reducible refine bl_drew ?_) | (with_reducible refine bl_alloc ?_ _) | (with_reducible refine bl_set' ?_ ?_; · (first | omega | (simp; done) | (simp; omega))) | (with_reducible refine bl_last (by assumption) ?_) | (with_reducible refine bl_drewN ?_ _)))), b2, n2, c2, b3, n3, c3, rfl, ?_, h62, ?_, h63⟩
      · first | exact hN2 | exact hN2.up (by assumption)
      · first | exact hN3 | exact hN3.up (by assumption)
end Go.Proofs.YtgbiiaaeabflnaaDoor
namespace Go.Proofs.YtgbiiaaeabflnaaDoor
open Go Go.RowKit

theorem dd_small {u : Nat} (h : u < 10) : Lib.decDigits u = [UInt8.ofNat (48 + u)] := by rw [Lib.decDigits, dif_pos h]
theorem dd_step {u : Nat} (h : ¬ u < 10) : Lib.decDigits u = Lib.decDigits (u / 10) ++ [UInt8.ofNat (48 + u % 10)] := by rw [Lib.decDigits, dif_neg h]
theorem itoa_nn (n : Nat) : Lib.itoa (n : Int) = Lib.decDigits n := by
  unfold Lib.itoa
  rw [if_neg (by omega), Int.toNat_natCast]
/-- A byte that was just laid, as a string. -/
theorem one_byte (W : World) (z : Int) (h0 : 0 ≤ z) (h1 : z < 256) : (convert 91 9 (.slice (some ⟨W.heap.size, 0, none⟩) 1 1)).run Tryd.prog (W.alloc (.cells #[.int .u8 z] 5)) = .ok (.string ⟨[UInt8.ofNat z.toNat].toArray⟩) (W.alloc (.cells #[.int .u8 z] 5)) := by
  have := run_convert_bytes_back (P := Tryd.prog) (W.alloc (.cells #[.int .u8 z] 5)) 91 9 5 ⟨W.heap.size, 0, none⟩ 1 [UInt8.ofNat z.toNat] Tryd.underlying91 Tryd.underlying5 Tryd.underlying9 (fun j hj => by
    have : j = 0 := by simpa using hj
    subst this
    show (W.alloc _).cell? ⟨W.heap.size, 0, none⟩ = _
    rw [World.cell?_alloc_new]
    simp
    omega)
  exact this
set_option maxRecDepth 100000 in
set_option maxHeartbeats 1000000 in
theorem RDigits_c (n : Nat) (w : World) (hn : n ≤ 1000000000) : Calls Tryd.prog 76 #[.int .i64 n] w (Ret (.string ⟨(Lib.decDigits n).toArray⟩) w) := by
  have HL := Lib.hid (Lib.itoa_length_le (n : Int) (by omega) (by omega))
  rw [itoa_nn] at HL
  generalize hg : Lib.decDigits n = g at *
  have HG := Lib.hid hg
  clear hg
  go_enter Tryd.func76, Tryd.ntmps76
  go_wp2
  go_loopw [0, 3] (fun m s wr => ∃ (k : Nat) (t : List UInt8), m = .int .i64 k ∧ k ≤ 1000000000 ∧ s = .string ⟨t.toArray⟩ ∧ Hid (g = Lib.decDigits k ++ t) ∧ Below w.heap.size w wr) (fun m _ _ => (intOf m).toNat)
  case atStart => exact ⟨n, [], rfl, hn, rfl, Lib.hid (by rw [HG.out]; simp), bl_refl _⟩
  case round =>
    obtain ⟨k, t, rfl, hk, rfl, HI, hbw⟩ := hrel
    have hlen : t.length ≤ 21 := by
      have h1 := HL.out
      rw [HI.out, List.length_append] at h1
      omega
    by_cases h9 : k < 10
    · have hob := fun W => one_byte W (48 + (k : Int)) (by omega) (by omega)
      have hres : (⟨[UInt8.ofNat (48 + (k : Int)).toNat].toArray⟩ : ByteArray) ++ ⟨t.toArray⟩ = ⟨g.toArray⟩ := by
        rw [bs_append, HI.out, dd_small h9]
        have : (48 + (k : Int)).toNat = 48 + k := by omega
        rw [this]
      have HR := Lib.hid hres
      clear hres
      generalize UInt8.ofNat (48 + (k : Int)).toNat = c at *
      go_wp2
      go_ret
      exact ⟨congrArg (fun b => Ending.returned (.string b)) HR.out, by (repeat (first | (with_reducible exact bl_refl _) | (with_reducible refine bl_drew ?_) | (with_reducible refine bl_alloc ?_ _) | (with_reducible refine bl_set' ?_ ?_; · (first | omega | (simp; done) | (simp; omega))) | (with_reducible refine bl_last (by assumption) ?_) | (with_reducible refine bl_drewN ?_ _)))⟩
    · have hob := fun W => one_byte W (48 + (k : Int) % 10) (by omega) (by omega)
      have hres : (⟨[UInt8.ofNat (48 + (k : Int) % 10).toNat].toArray⟩ : ByteArray) ++ ⟨t.toArray⟩ = ⟨(UInt8.ofNat (48 + k % 10) :: t).toArray⟩ := by
        rw [bs_append]
        have : (48 + (k : Int) % 10).toNat = 48 + k % 10 := by omega
        rw [this]
        rfl
      have HR := Lib.hid hres
      have HS : Hid (g = Lib.decDigits (k / 10) ++ (UInt8.ofNat (48 + k % 10) :: t)) := by
        refine Lib.hid ?_
        rw [HI.out, dd_step h9]
        simp
      clear hres
      generalize UInt8.ofNat (48 + (k : Int) % 10).toNat = c at *
      go_wp2
      go_roundw
      case rel => exact ⟨k / 10, _, by go_num, by omega, by rw [HR.out], HS, by (repeat (first | (with_reducible exact bl_refl _) | (with_reducible refine bl_drew ?_) | (with_reducible refine bl_alloc ?_ _) | (with_reducible refine bl_set' ?_ ?_; · (first | omega | (simp; done) | (simp; omega))) | (with_reducible refine bl_last (by assumption) ?_) | (with_reducible refine bl_drewN ?_ _)))⟩
      case measure => simp [intOf]; omega

theorem gcd_ways {n : Nat} : (n % 12 = 0 ∧ Nat.gcd 12 n = 12) ∨ (n % 12 ≠ 0 ∧ n % 6 = 0 ∧ Nat.gcd 12 n = 6) ∨ (n % 12 ≠ 0 ∧ n % 6 ≠ 0 ∧ n % 4 = 0 ∧ Nat.gcd 12 n = 4) ∨ (n % 12 ≠ 0 ∧ n % 6 ≠ 0 ∧ n % 4 ≠ 0 ∧ n % 3 = 0 ∧ Nat.gcd 12 n = 3) ∨ (n % 12 ≠ 0 ∧ n % 6 ≠ 0 ∧ n % 4 ≠ 0 ∧ n % 3 ≠ 0 ∧ n % 2 = 0 ∧ Nat.gcd 12 n = 2) ∨ (n % 12 ≠ 0 ∧ n % 6 ≠ 0 ∧ n % 4 ≠ 0 ∧ n % 3 ≠ 0 ∧ n % 2 ≠ 0 ∧ Nat.gcd 12 n = 1) := by
  have h6 : n % 6 = n % 12 % 6 := (Nat.mod_mod_of_dvd n (by decide)).symm
  have h4 : n % 4 = n % 12 % 4 := (Nat.mod_mod_of_dvd n (by decide)).symm
  have h3 : n % 3 = n % 12 % 3 := (Nat.mod_mod_of_dvd n (by decide)).symm
  have h2 : n % 2 = n % 12 % 2 := (Nat.mod_mod_of_dvd n (by decide)).symm
  have hg : Nat.gcd 12 n = Nat.gcd (n % 12) 12 := Nat.gcd_rec 12 n
  have hr : n % 12 < 12 := Nat.mod_lt _ (by decide)
  rw [h6, h4, h3, h2, hg]
  generalize n % 12 = r at *
  clear h6 h4 h3 h2 hg
  have : r = 0 ∨ r = 1 ∨ r = 2 ∨ r = 3 ∨ r = 4 ∨ r = 5 ∨ r = 6 ∨ r = 7 ∨ r = 8 ∨ r = 9 ∨ r = 10 ∨ r = 11 := by omega
  rcases this with rfl | rfl | rfl | rfl | rfl | rfl | rfl | rfl | rfl | rfl | rfl | rfl <;> decide
set_option maxRecDepth 100000 in
set_option maxHeartbeats 4000000 in
theorem Rcommon_c (n : Nat) (w : World) (hn : n ≤ 576) : Calls Tryd.prog 77 #[.int .i64 n] w (RetS (.int .i64 ((Nat.gcd 12 n : Nat) : Int)) w) := by
  have e : ∀ d : Nat, (n : Int) % (d : Int) = ((n % d : Nat) : Int) := fun d => rfl
  have e12 : (n : Int) % 12 = ((n % 12 : Nat) : Int) := e 12
  have e6 : (n : Int) % 6 = ((n % 6 : Nat) : Int) := e 6
  have e4 : (n : Int) % 4 = ((n % 4 : Nat) : Int) := e 4
  have e3 : (n : Int) % 3 = ((n % 3 : Nat) : Int) := e 3
  have e2 : (n : Int) % 2 = ((n % 2 : Nat) : Int) := e 2
  clear e
  have b : ∀ {x : Int} {k : Nat}, x = (k : Int) → k ≠ 0 → (x == 0) = false := fun h h' => by rw [h]; simp; exact h'
  rcases gcd_ways (n := n) with ⟨g1, hg⟩ | ⟨g1, g2, hg⟩ | ⟨g1, g2, g3, hg⟩ | ⟨g1, g2, g3, g4, hg⟩ | ⟨g1, g2, g3, g4, g5, hg⟩ | ⟨g1, g2, g3, g4, g5, hg⟩
  · rw [hg]
    rw [g1] at e12
    have t1 : (n : Int) % 12 = 0 := e12
    clear b e12 e6 e4 e3 e2 g1 hg
    go_enter Tryd.func77, Tryd.ntmps77
    go_wp2
    refine wp_loop_rounds 13 ?_
    iterate 1 (rw [rounds_succ]; go_wp2)
    go_ret
    exact ⟨rfl, rfl⟩
  · rw [hg]
    have t1 := b e12 g1
    rw [g2] at e6
    have t2 : (n : Int) % 6 = 0 := e6
    clear b e12 e6 e4 e3 e2 g1 g2 hg
    go_enter Tryd.func77, Tryd.ntmps77
    go_wp2
    refine wp_loop_rounds 13 ?_
    iterate 7 (rw [rounds_succ]; go_wp2)
    go_ret
    exact ⟨rfl, rfl⟩
  · rw [hg]
    have t1 := b e12 g1
    have t2 := b e6 g2
    rw [g3] at e4
    have t3 : (n : Int) % 4 = 0 := e4
    clear b e12 e6 e4 e3 e2 g1 g2 g3 hg
    go_enter Tryd.func77, Tryd.ntmps77
    go_wp2
    refine wp_loop_rounds 13 ?_
    iterate 9 (rw [rounds_succ]; go_wp2)
    go_ret
    exact ⟨rfl, rfl⟩
  · rw [hg]
    have t1 := b e12 g1
    have t2 := b e6 g2
    have t3 := b e4 g3
    rw [g4] at e3
    have t4 : (n : Int) % 3 = 0 := e3
    clear b e12 e6 e4 e3 e2 g1 g2 g3 g4 hg
    go_enter Tryd.func77, Tryd.ntmps77
    go_wp2
    refine wp_loop_rounds 13 ?_
    iterate 10 (rw [rounds_succ]; go_wp2)
    go_ret
    exact ⟨rfl, rfl⟩
  · rw [hg]
    have t1 := b e12 g1
    have t2 := b e6 g2
    have t3 := b e4 g3
    have t4 := b e3 g4
    rw [g5] at e2
    have t5 : (n : Int) % 2 = 0 := e2
    clear b e12 e6 e4 e3 e2 g1 g2 g3 g4 g5 hg
    go_enter Tryd.func77, Tryd.ntmps77
    go_wp2
    refine wp_loop_rounds 13 ?_
    iterate 11 (rw [rounds_succ]; go_wp2)
    go_ret
    exact ⟨rfl, rfl⟩
  · rw [hg]
    have t1 := b e12 g1
    have t2 := b e6 g2
    have t3 := b e4 g3
    have t4 := b e3 g4
    have t5 := b e2 g5
    clear b e12 e6 e4 e3 e2 g1 g2 g3 g4 g5 hg
    go_enter Tryd.func77, Tryd.ntmps77
    go_wp2
    refine wp_loop_rounds 13 ?_
    iterate 12 (rw [rounds_succ]; go_wp2)
    go_ret
    exact ⟨rfl, rfl⟩
theorem itoa_neg {m : Nat} (h : 1 ≤ m) : Lib.itoa (-(m : Int)) = 45 :: Lib.decDigits m := by
  unfold Lib.itoa
  rw [if_pos (by omega), Int.natAbs_neg, Int.natAbs_natCast]
/-- A term by its digits. -/
theorem termB_pos {q m : Nat} (h : 1 ≤ m) : termB q (m : Int) = if m = 12 then Lib.decDigits q else Lib.decDigits q ++ (94 :: (Lib.decDigits (m / Nat.gcd 12 m) ++ (if Nat.gcd 12 m = 12 then [] else 47 :: Lib.decDigits (12 / Nat.gcd 12 m)))) := by
  have e1 : exG (m : Int) = Nat.gcd 12 m := by unfold exG; rw [Int.natAbs_natCast]
  have e2 : (m : Int).tdiv ((Nat.gcd 12 m : Nat) : Int) = ((m / Nat.gcd 12 m : Nat) : Int) := by rw [Int.tdiv_eq_ediv_of_nonneg (by omega)]; rfl
  unfold termB expB
  rw [e1, e2, itoa_nn, itoa_nn, itoa_nn]
  by_cases h1 : m = 12
  · rw [if_pos h1, if_pos (by omega)]
  · rw [if_neg h1, if_neg (by omega)]
    by_cases h2 : Nat.gcd 12 m = 12
    · rw [if_pos h2, if_pos h2, List.append_nil]
    · rw [if_neg h2, if_neg h2]
theorem termB_neg {q m : Nat} (h : 1 ≤ m) : termB q (-(m : Int)) = Lib.decDigits q ++ (94 :: 45 :: (Lib.decDigits (m / Nat.gcd 12 m) ++ (if Nat.gcd 12 m = 12 then [] else 47 :: Lib.decDigits (12 / Nat.gcd 12 m)))) := by
  have e1 : exG (-(m : Int)) = Nat.gcd 12 m := by unfold exG; rw [Int.natAbs_neg, Int.natAbs_natCast]
  have hg : 1 ≤ m / Nat.gcd 12 m := Nat.div_pos (Nat.le_of_dvd h (Nat.gcd_dvd_right 12 m)) (Nat.gcd_pos_of_pos_left _ (by decide))
  have e2 : (-(m : Int)).tdiv ((Nat.gcd 12 m : Nat) : Int) = -((m / Nat.gcd 12 m : Nat) : Int) := by rw [Int.neg_tdiv, Int.tdiv_eq_ediv_of_nonneg (by omega)]; rfl
  unfold termB expB
  rw [e1, e2, itoa_neg hg, itoa_nn, itoa_nn, if_neg (by omega)]
  by_cases h2 : Nat.gcd 12 m = 12
  · rw [if_pos h2, if_pos h2, List.append_nil]
  · rw [if_neg h2, if_neg h2]
    rfl
theorem dd_len {n : Nat} (h : n ≤ 1000000) : (Lib.decDigits n).length ≤ 21 := by
  have := Lib.itoa_length_le (n : Int) (by omega) (by omega)
  rw [itoa_nn] at this
  exact this
set_option maxRecDepth 100000 in
set_option maxHeartbeats 4000000 in
theorem Rterm_c (q : Nat) (e : Int) (w : World) (hq : q ≤ 13) (h0 : -576 ≤ e) (h1 : e ≤ 576) (he : e ≠ 0) : Calls Tryd.prog 52 #[.int .i64 (q : Int), .int .i64 e] w (Ret (.string ⟨(termB q e).toArray⟩) w) := by
  obtain ⟨m, hm, hme⟩ : ∃ m : Nat, (1 ≤ m ∧ m ≤ 576) ∧ (e = (m : Int) ∨ e = -(m : Int)) := by
    rcases Int.lt_or_le 0 e with h | h
    · exact ⟨e.toNat, by omega, Or.inl (by omega)⟩
    · exact ⟨(-e).toNat, by omega, Or.inr (by omega)⟩
  obtain ⟨m1, m2⟩ := hm
  have g1 : Nat.gcd 12 m ≤ 12 := Nat.le_of_dvd (by omega) (Nat.gcd_dvd_left 12 m)
  have g0 : 1 ≤ Nat.gcd 12 m := Nat.gcd_pos_of_pos_left _ (by decide)
  have HQ := Lib.hid (fun W => RDigits_c q W (by omega))
  have HC := Lib.hid (fun W => Rcommon_c m W m2)
  have d1 : m / Nat.gcd 12 m ≤ m := Nat.div_le_self _ _
  have d2 : 12 / Nat.gcd 12 m ≤ 12 := Nat.div_le_self _ _
  have HM := Lib.hid (fun W => RDigits_c (m / Nat.gcd 12 m) W (by omega))
  have HT := Lib.hid (fun W => RDigits_c (12 / Nat.gcd 12 m) W (by omega))
  have l1 := dd_len (n := q) (by omega)
  have l2 := dd_len (n := m / Nat.gcd 12 m) (by omega)
  have l3 := dd_len (n := 12 / Nat.gcd 12 m) (by omega)
  have e1 : (m : Int).tdiv ((Nat.gcd 12 m : Nat) : Int) = ((m / Nat.gcd 12 m : Nat) : Int) := by rw [Int.tdiv_eq_ediv_of_nonneg (by omega)]; rfl
  have e2 : (12 : Int).tdiv ((Nat.gcd 12 m : Nat) : Int) = ((12 / Nat.gcd 12 m : Nat) : Int) := by rw [Int.tdiv_eq_ediv_of_nonneg (by omega)]; rfl
  have e3 : (m : Int) / ((Nat.gcd 12 m : Nat) : Int) = ((m / Nat.gcd 12 m : Nat) : Int) := rfl
  have e4 : (12 : Int) / ((Nat.gcd 12 m : Nat) : Int) = ((12 / Nat.gcd 12 m : Nat) : Int) := rfl
  have tp := termB_pos (q := q) m1
  have tn := termB_neg (q := q) m1
  generalize Nat.gcd 12 m = G at *
  generalize m / G = B at *
  generalize 12 / G = T at *
  have w1 : IntKind.i64.wrap ((B : Nat) : Int) = (B : Int) := by rw [IntKind.wrap_i64]; omega
  have w2 : IntKind.i64.wrap ((T : Nat) : Int) = (T : Int) := by rw [IntKind.wrap_i64]; omega
  have w3 : IntKind.i64.wrap (m : Int) = (m : Int) := by rw [IntKind.wrap_i64]; omega
  have gz : (G : Int) ≠ 0 := by omega
  generalize Lib.decDigits q = Q at *
  generalize Lib.decDigits B = X at *
  generalize Lib.decDigits T = Y at *
  clear d1 d2
  have app1 : ∀ a : List UInt8, (⟨a.toArray⟩ : ByteArray) ++ (⟨#[94]⟩ : ByteArray) = ⟨(a ++ [94]).toArray⟩ := fun a => bs_append a [94]
  have app2 : ∀ a : List UInt8, (⟨a.toArray⟩ : ByteArray) ++ (⟨#[45]⟩ : ByteArray) = ⟨(a ++ [45]).toArray⟩ := fun a => bs_append a [45]
  have app3 : ∀ a : List UInt8, (⟨a.toArray⟩ : ByteArray) ++ (⟨#[47]⟩ : ByteArray) = ⟨(a ++ [47]).toArray⟩ := fun a => bs_append a [47]
  rcases hme with rfl | rfl
  · by_cases h12 : m = 12
    · rw [if_pos h12] at tp
      rw [tp]
      subst h12
      clear tp tn
      go_enter Tryd.func52, Tryd.ntmps52
      go_wp2_with (go_at_call 76; ((with_reducible refine (HQ.out _).mono ?_); rintro e w' ⟨rfl, hb⟩; obtain ⟨hz, hc, hf⟩ := bcl hb (by first | (simp; rfl) | rfl)))
      go_ret
      refine ⟨rfl, ?_⟩
      (repeat (first | (with_reducible exact bl_refl _) | (with_reducible refine bl_drew ?_) | (with_reducible refine bl_alloc ?_ _) | (with_reducible refine bl_set' ?_ ?_; · (first | omega | (simp; done) | (simp; omega))) | (with_reducible refine bl_last (by assumption) ?_) | (with_reducible refine bl_drewN ?_ _)))
    · rw [if_neg h12] at tp
      have n12 : ((m : Int) == 12) = false := by simp; omega
      have nlt : ¬ (m : Int) < 0 := by omega
      by_cases hg : G = 12
      · rw [if_pos hg, List.append_nil] at tp
        have hg2 : ((G : Int) != 12) = false := by simp; omega
        rw [tp]
        have HV := Lib.hid (show (Q ++ [94]) ++ X = Q ++ (94 :: X) by simp)
        clear tp tn hg
        go_enter Tryd.func52, Tryd.ntmps52
        go_wp2_with (first | (go_at_call 76; ((with_reducible refine (HQ.out _).mono ?_); rintro e w' ⟨rfl, hb⟩; obtain ⟨hz, hc, hf⟩ := bcl hb (by first | (simp; rfl) | rfl))) | (go_at_call 77; ((with_reducible refine (HC.out _).mono ?_); rintro e w' ⟨rfl, rfl⟩)) | (go_at_call 76; ((with_reducible refine (HM.out _).mono ?_); rintro e w' ⟨rfl, hb⟩; obtain ⟨hz, hc, hf⟩ := bcl hb (by first | (simp; rfl) | rfl))))
        go_ret
        refine ⟨?_, ?_⟩
        · show Ending.returned (.string _) = Ending.returned (.string _)
          refine congrArg (fun b => Ending.returned (.string b)) ?_
          apply ByteArray.ext
          simp [ByteArray.data_append]
        · (repeat (first | (with_reducible exact bl_refl _) | (with_reducible refine bl_drew ?_) | (with_reducible refine bl_alloc ?_ _) | (with_reducible refine bl_set' ?_ ?_; · (first | omega | (simp; done) | (simp; omega))) | (with_reducible refine bl_last (by assumption) ?_) | (with_reducible refine bl_drewN ?_ _)))
      · rw [if_neg hg] at tp
        have hg2 : ((G : Int) != 12) = true := by simp; omega
        rw [tp]
        have HV := Lib.hid (show (((Q ++ [94]) ++ X) ++ [47]) ++ Y = Q ++ (94 :: (X ++ 47 :: Y)) by simp)
        clear tp tn hg
        go_enter Tryd.func52, Tryd.ntmps52
        go_wp2_with (first | (go_at_call 76; ((with_reducible refine (HQ.out _).mono ?_); rintro e w' ⟨rfl, hb⟩; obtain ⟨hz, hc, hf⟩ := bcl hb (by first | (simp; rfl) | rfl))) | (go_at_call 77; ((with_reducible refine (HC.out _).mono ?_); rintro e w' ⟨rfl, rfl⟩)) | (go_at_call 76; ((with_reducible refine (HM.out _).mono ?_); rintro e w' ⟨rfl, hb⟩; obtain ⟨hz, hc, hf⟩ := bcl hb (by first | (simp; rfl) | rfl))) | (go_at_call 76; ((with_reducible refine (HT.out _).mono ?_); rintro e w' ⟨rfl, hb⟩; obtain ⟨hz, hc, hf⟩ := bcl hb (by first | (simp; rfl) | rfl))))
        go_ret
        refine ⟨?_, ?_⟩
        · show Ending.returned (.string _) = Ending.returned (.string _)
          refine congrArg (fun b => Ending.returned (.string b)) ?_
          apply ByteArray.ext
          simp [ByteArray.data_append]
        · (repeat (first | (with_reducible exact bl_refl _) | (with_reducible refine bl_drew ?_) | (with_reducible refine bl_alloc ?_ _) | (with_reducible refine bl_set' ?_ ?_; · (first | omega | (simp; done) | (simp; omega))) | (with_reducible refine bl_last (by assumption) ?_) | (with_reducible refine bl_drewN ?_ _)))
  · have n12 : (-(m : Int) == 12) = false := by simp; omega
    have nlt : 0 < (m : Int) := by omega
    have nlt2 : -(m : Int) < 0 := by omega
    by_cases hg : G = 12
    · rw [if_pos hg, List.append_nil] at tn
      have hg2 : ((G : Int) != 12) = false := by simp; omega
      rw [tn]
      have HV := Lib.hid (show ((Q ++ [94]) ++ [45]) ++ X = Q ++ (94 :: 45 :: X) by simp)
      clear tp tn hg
      go_enter Tryd.func52, Tryd.ntmps52
      go_wp2_with (first | (go_at_call 76; ((with_reducible refine (HQ.out _).mono ?_); rintro e w' ⟨rfl, hb⟩; obtain ⟨hz, hc, hf⟩ := bcl hb (by first | (simp; rfl) | rfl))) | (go_at_call 77; ((with_reducible refine (HC.out _).mono ?_); rintro e w' ⟨rfl, rfl⟩)) | (go_at_call 76; ((with_reducible refine (HM.out _).mono ?_); rintro e w' ⟨rfl, hb⟩; obtain ⟨hz, hc, hf⟩ := bcl hb (by first | (simp; rfl) | rfl))))
      go_ret
      refine ⟨?_, ?_⟩
      · show Ending.returned (.string _) = Ending.returned (.string _)
        refine congrArg (fun b => Ending.returned (.string b)) ?_
        apply ByteArray.ext
        simp [ByteArray.data_append]
      · (repeat (first | (with_reducible exact bl_refl _) | (with_reducible refine bl_drew ?_) | (with_reducible refine bl_alloc ?_ _) | (with_reducible refine bl_set' ?_ ?_; · (first | omega | (simp; done) | (simp; omega))) | (with_reducible refine bl_last (by assumption) ?_) | (with_reducible refine bl_drewN ?_ _)))
    · rw [if_neg hg] at tn
      have hg2 : ((G : Int) != 12) = true := by simp; omega
      rw [tn]
      have HV := Lib.hid (show ((((Q ++ [94]) ++ [45]) ++ X) ++ [47]) ++ Y = Q ++ (94 :: 45 :: (X ++ 47 :: Y)) by simp)
      clear tp tn hg
      go_enter Tryd.func52, Tryd.ntmps52
      go_wp2_with (first | (go_at_call 76; ((with_reducible refine (HQ.out _).mono ?_); rintro e w' ⟨rfl, hb⟩; obtain ⟨hz, hc, hf⟩ := bcl hb (by first | (simp; rfl) | rfl))) | (go_at_call 77; ((with_reducible refine (HC.out _).mono ?_); rintro e w' ⟨rfl, rfl⟩)) | (go_at_call 76; ((with_reducible refine (HM.out _).mono ?_); rintro e w' ⟨rfl, hb⟩; obtain ⟨hz, hc, hf⟩ := bcl hb (by first | (simp; rfl) | rfl))) | (go_at_call 76; ((with_reducible refine (HT.out _).mono ?_); rintro e w' ⟨rfl, hb⟩; obtain ⟨hz, hc, hf⟩ := bcl hb (by first | (simp; rfl) | rfl))))
      go_ret
      refine ⟨?_, ?_⟩
      · show Ending.returned (.string _) = Ending.returned (.string _)
        refine congrArg (fun b => Ending.returned (.string b)) ?_
        apply ByteArray.ext
        simp [ByteArray.data_append]
      · (repeat (first | (with_reducible exact bl_refl _) | (with_reducible refine bl_drew ?_) | (with_reducible refine bl_alloc ?_ _) | (with_reducible refine bl_set' ?_ ?_; · (first | omega | (simp; done) | (simp; omega))) | (with_reducible refine bl_last (by assumption) ?_) | (with_reducible refine bl_drewN ?_ _)))
end Go.Proofs.YtgbiiaaeabflnaaDoor
namespace Go.Proofs.YtgbiiaaeabflnaaDoor
open Go Go.RowKit

/-- The terms of the first k primes, joined. -/
def rtx (E : Nat → Int) : Nat → List UInt8
  | 0 => []
  | k + 1 => if E k = 0 then rtx E k else (if rtx E k = [] then termB (prm k) (E k) else rtx E k ++ 42 :: termB (prm k) (E k))
theorem dd_ne (u : Nat) : Lib.decDigits u ≠ [] := by
  rw [Lib.decDigits]
  split <;> simp
theorem termB_ne (q : Nat) (e : Int) : termB q e ≠ [] := by
  unfold termB
  rw [itoa_nn]
  have := dd_ne q
  split
  · exact this
  · simp
theorem join_snoc (L : List (List UInt8)) (t : List UInt8) : Lib.join (L ++ [t]) [42] = if L = [] then t else Lib.join L [42] ++ 42 :: t := by
  cases L with
  | nil => rw [if_pos rfl, List.nil_append, Lib.join_one]
  | cons x r =>
    rw [if_neg (by simp), List.cons_append, Lib.join_cons, Lib.join_cons]
    simp [Lib.joinTail]
theorem rtx_eq (E : Nat → Int) : ∀ k, rtx E k = Lib.join ((txtL E k).map (·.data.toList)) [42] ∧ (rtx E k = [] ↔ txtL E k = [])
  | 0 => ⟨rfl, by simp [rtx, txtL]⟩
  | k + 1 => by
    obtain ⟨h1, h2⟩ := rtx_eq E k
    unfold rtx txtL
    by_cases h0 : E k = 0
    · rw [if_pos h0, if_pos h0]
      exact ⟨h1, h2⟩
    · rw [if_neg h0, if_neg h0, List.map_append]
      have hs := join_snoc ((txtL E k).map (·.data.toList)) (termB (prm k) (E k))
      refine ⟨?_, ?_⟩
      · show _ = Lib.join ((txtL E k).map (·.data.toList) ++ [termB (prm k) (E k)]) [42]
        rw [hs]
        by_cases hn : txtL E k = []
        · rw [if_pos (h2.2 hn), if_pos (by rw [hn]; rfl)]
        · rw [if_neg (fun h => hn (h2.1 h)), if_neg (by simpa using hn), h1]
      · constructor
        · intro h
          exfalso
          split at h
          · exact termB_ne _ _ h
          · simp at h
        · intro h
          simp at h
theorem textB_rtx (E : Nat → Int) : textB E = if rtx E 6 = [] then [49] else rtx E 6 := by
  obtain ⟨h1, h2⟩ := rtx_eq E 6
  unfold textB
  by_cases h : txtL E 6 = []
  · rw [if_pos h, if_pos (h2.2 h)]
  · rw [if_neg h, if_neg (fun g => h (h2.1 g)), h1]
theorem rtx_len {E : Nat → Int} (hE : ∀ k, k < 6 → -576 ≤ E k ∧ E k ≤ 576) {k : Nat} (hk : k ≤ 6) : (rtx E k).length ≤ 1000 := by
  rw [(rtx_eq E k).1]
  refine join_le (fun x hx => txtL_each hE k hk x hx) ?_
  rw [List.length_map]
  exact Nat.le_trans (txtL_len E k) hk
set_option maxRecDepth 100000 in
set_option maxHeartbeats 8000000 in
theorem RText_c (a b c d e f : Int) (w : World) : Calls Tryd.prog 34 #[.agg #[.int .i64 a, .int .i64 b, .int .i64 c, .int .i64 d, .int .i64 e, .int .i64 f]] w (Ret (textV a b c d e f) w) := by
  have hA := fun w => RPVld_c a b c d e f w
  unfold textV
  cases hp : pV a b c d e f 576
  · rw [hp] at hA
    have HA := Lib.hid hA
    clear hp hA
    rw [if_neg (by decide)]
    go_enter Tryd.func34, Tryd.ntmps34
    go_wp2_with (go_at_call 11; ((with_reducible refine (HA.out _).mono ?_); rintro e w' ⟨rfl, hb⟩; obtain ⟨hz, hc, hf⟩ := bcl hb (by first | (simp; rfl) | rfl)))
    (refine bodyPost_ret (v := .tuple #[.string ⟨#[]⟩, .int .i64 1]) (by simp only [results, Tryd.results34]; go_simp) rfl ⟨rfl, ?_⟩)
    (repeat (first | (with_reducible exact bl_refl _) | (with_reducible refine bl_drew ?_) | (with_reducible refine bl_alloc ?_ _) | (with_reducible refine bl_set' ?_ ?_; · (first | omega | (simp; done) | (simp; omega))) | (with_reducible refine bl_last (by assumption) ?_) | (with_reducible refine bl_drewN ?_ _)))
  rw [hp] at hA
  rw [if_pos rfl, textB_rtx]
  have HA := Lib.hid hA
  have hE : ∀ k, k < 6 → -576 ≤ pex a b c d e f k ∧ pex a b c d e f k ≤ 576 := fun k hk => by
    obtain ⟨h1, h2, h3, h4, h5, h6⟩ := pV_of hp
    rcases lt6 hk with rfl | rfl | rfl | rfl | rfl | rfl
    · exact wi_of h1
    · exact wi_of h2
    · exact wi_of h3
    · exact wi_of h4
    · exact wi_of h5
    · exact wi_of h6
  have HE := Lib.hid hE
  have HLn := Lib.hid (fun k hk => rtx_len hE (k := k) hk)
  have HR0 : Hid (rtx (pex a b c d e f) 0 = []) := Lib.hid rfl
  have HS : Hid (∀ k, rtx (pex a b c d e f) (k + 1) = if pex a b c d e f k = 0 then rtx (pex a b c d e f) k else (if rtx (pex a b c d e f) k = [] then termB (prm k) (pex a b c d e f k) else rtx (pex a b c d e f) k ++ 42 :: termB (prm k) (pex a b c d e f k))) := Lib.hid (fun _ => rfl)
  generalize rtx (pex a b c d e f) = R at *
  generalize hV : (if R 6 = [] then ([49] : List UInt8) else R 6) = V
  have HV := Lib.hid hV
  clear hA hp hE hV
  go_enter Tryd.func34, Tryd.ntmps34
  go_wp2_with fail
  ((with_reducible refine (HA.out _).mono ?_); rintro en v1 ⟨rfl, d1⟩)
  obtain ⟨hz1, hc1, hf1⟩ := bcl d1 (by first | (simp; rfl) | rfl)
  have z1 : w.heap.size < v1.heap.size := by omega
  have k1 : Below w.heap.size w v1 := by (repeat (first | (with_reducible exact bl_refl _) | (with_reducible refine bl_drew ?_) | (with_reducible refine bl_alloc ?_ _) | (with_reducible refine bl_set' ?_ ?_; · (first | omega | (simp; done) | (simp; omega))) | (with_reducible refine bl_last (by assumption) ?_) | (with_reducible refine bl_drewN ?_ _)))
  have B1 : Blk v1 w.heap.size 23 #[.int .i64 a, .int .i64 b, .int .i64 c, .int .i64 d, .int .i64 e, .int .i64 f] := blk_up (Blk.new _ _ _) d1
  clear hz1 hc1 hf1 d1
  go_wp2_with fail
  go_loopw [5, 6] (fun s i wr => ∃ k : Nat, k ≤ 6 ∧ s = .string ⟨(R k).toArray⟩ ∧ i = .int .i64 (k : Int) ∧ Below w.heap.size w wr ∧ Hid (Blk wr w.heap.size 23 #[.int .i64 a, .int .i64 b, .int .i64 c, .int .i64 d, .int .i64 e, .int .i64 f])) (fun _ i _ => 6 - (intOf i).toNat)
  case atStart => exact ⟨0, by omega, by rw [HR0.out], rfl, k1, Lib.hid B1⟩
  case round =>
    clear k1 B1 z1
    obtain ⟨k, hk, rfl, rfl, hbw, HB⟩ := hrel
    have hz : w.heap.size < wr.heap.size := HB.out.lt
    by_cases hlt : k < 6
    · have hv := vec_at HB.out hlt
      have hs := HS.out k
      obtain ⟨x1, x2⟩ := HE.out k hlt
      obtain ⟨p1, p2⟩ := prm_pos hlt
      have HPm := Lib.hid (fun W => RPrime_c k hlt W)
      have hT := fun W (h : pex a b c d e f k ≠ 0) => Rterm_c (prm k) (pex a b c d e f k) W (by omega) x1 x2 h
      have hl := HLn.out k hk
      have hl2 := HLn.out (k + 1) hlt
      have e8 : IntKind.i64.wrap ((k : Int) + 1) = ((k + 1 : Nat) : Int) := by rw [IntKind.wrap_i64]; omega
      generalize termB (prm k) (pex a b c d e f k) = t at *
      generalize pex a b c d e f k = x at *
      generalize prm k = P at *
      by_cases h0 : x = 0
      · rw [if_pos h0] at hs
        have hx0 : (x != 0) = false := by simp [h0]
        have HSS := Lib.hid hs
        clear hT hs hl2
        generalize R k = T at *
        go_wp2
        go_roundw
        case rel => exact ⟨k + 1, hlt, by rw [HSS.out], by go_num, hbw, HB⟩
        case measure => simp [intOf]; omega
      · have HT := Lib.hid (fun W => hT W h0)
        rw [if_neg h0] at hs
        have hx0 : (x != 0) = true := by simp [h0]
        clear hT
        by_cases hn : R k = []
        · rw [if_pos hn] at hs
          rw [hs] at hl2
          have HSS := Lib.hid hs
          rw [hn]
          clear hs hn hl
          go_wp2
          (refine wp_region_bl [0,1,2,3,4,5,6,7] [8] (by kernel_rfl) (by kernel_rfl) (by rfl) ?_
           simp only [pickI, pick, List.getElem?_cons_succ, List.getElem?_cons_zero]
           iterate 8 (first
             | (refine head_val (by rfl) (by rfl) ?_
                apply Exists.intro
                refine ⟨fun X hX => ?_, ?_⟩
                · (obtain ⟨qz, qc, qf⟩ := bcl hX.out (by first | (simp; rfl) | rfl)
                   go_simp
                   first | done | (go_at_call 51; ((with_reducible refine (HPm.out _).mono ?_); rintro e w2 ⟨rfl, rfl⟩; exact ⟨rfl, hX⟩)) | (go_at_call 52; refine (HT.out _).mono ?_; rintro e w2 ⟨rfl, hb2⟩; exact ⟨rfl, hX.trans hb2⟩) | (rw [if_neg (by first | omega | (simp; omega))]; exact ⟨rfl, rfl⟩) | rfl | exact ⟨rfl, rfl⟩)
                simp only [Act.put, List.setIfInBounds_toArray, List.set_cons_zero, List.set_cons_succ])
             | (refine head_pass (by rfl) ?_
                simp only [Act.put, List.setIfInBounds_toArray, List.set_cons_zero, List.set_cons_succ]))
           refine head_nil ?_
           intro w' hw'
           have hb := hw'.out
           clear hw'
           obtain ⟨hz, hc, hf⟩ := bcl hb (by first | (simp; rfl) | rfl))
          go_wp2
          go_roundw
          case rel => exact ⟨k + 1, hlt, by rw [HSS.out]; (first | rfl | (refine congrArg Value.string ?_; apply ByteArray.ext; simp [ByteArray.data_append])), by go_num, bl_last hb hbw, Lib.hid (blk_up HB.out hb)⟩
          case measure => simp [intOf]; omega
        · rw [if_neg hn] at hs
          have hpos : 0 < (R k).length := List.length_pos_iff.2 hn
          have htl : t.length ≤ 1000 := by rw [hs] at hl2; simp at hl2; omega
          have HSS := Lib.hid hs
          clear hs hn hl2
          generalize R k = T at *
          have h42 : (⟨T.toArray⟩ : ByteArray) ++ (⟨#[42]⟩ : ByteArray) = ⟨(T ++ [42]).toArray⟩ := bs_append T [42]
          go_wp2
          (refine wp_region_bl [0,1,2,3,4,5,6,7] [8] (by kernel_rfl) (by kernel_rfl) (by rfl) ?_
           simp only [pickI, pick, List.getElem?_cons_succ, List.getElem?_cons_zero]
           iterate 8 (first
             | (refine head_val (by rfl) (by rfl) ?_
                apply Exists.intro
                refine ⟨fun X hX => ?_, ?_⟩
                · (obtain ⟨qz, qc, qf⟩ := bcl hX.out (by first | (simp; rfl) | rfl)
                   go_simp
                   first | done | (go_at_call 51; ((with_reducible refine (HPm.out _).mono ?_); rintro e w2 ⟨rfl, rfl⟩; exact ⟨rfl, hX⟩)) | (go_at_call 52; refine (HT.out _).mono ?_; rintro e w2 ⟨rfl, hb2⟩; exact ⟨rfl, hX.trans hb2⟩) | (rw [if_neg (by first | omega | (simp; omega))]; exact ⟨rfl, rfl⟩) | rfl | exact ⟨rfl, rfl⟩)
                simp only [Act.put, List.setIfInBounds_toArray, List.set_cons_zero, List.set_cons_succ])
             | (refine head_pass (by rfl) ?_
                simp only [Act.put, List.setIfInBounds_toArray, List.set_cons_zero, List.set_cons_succ]))
           refine head_nil ?_
           intro w' hw'
           have hb := hw'.out
           clear hw'
           obtain ⟨hz, hc, hf⟩ := bcl hb (by first | (simp; rfl) | rfl))
          go_wp2
          go_roundw
          case rel => exact ⟨k + 1, hlt, by rw [HSS.out]; (refine congrArg Value.string ?_; apply ByteArray.ext; simp [ByteArray.data_append]), by go_num, bl_last hb hbw, Lib.hid (blk_up HB.out hb)⟩
          case measure => simp [intOf]; omega
    · obtain rfl : k = 6 := by omega
      have hl := HLn.out 6 hk
      have hV := HV.out
      clear HV
      by_cases hn : R 6 = []
      · rw [if_pos hn] at hV
        subst hV
        rw [hn]
        clear hl hn
        go_wp2
        (refine bodyPost_ret (v := .tuple #[.string ⟨#[49]⟩, .int .i64 0]) (by simp only [results, Tryd.results34]; go_simp) rfl ⟨rfl, ?_⟩)
        exact hbw
      · rw [if_neg hn] at hV
        subst hV
        have hpos : 0 < (R 6).length := List.length_pos_iff.2 hn
        clear hn
        generalize R 6 = T at *
        go_wp2
        (refine bodyPost_ret (v := .tuple #[.string ⟨T.toArray⟩, .int .i64 0]) (by simp only [results, Tryd.results34]; go_simp) rfl ⟨rfl, ?_⟩)
        exact hbw
end Go.Proofs.YtgbiiaaeabflnaaDoor
namespace Go.Proofs.YtgbiiaaeabflnaaDoor
open Go Go.RowKit

/-- The index at which the rest r of l begins. -/
def ix (l r : List UInt8) : Nat := l.length - r.length
theorem ix_cons {l r : List UInt8} {x : UInt8} (h : (x :: r) <:+ l) : ix l (x :: r) + 1 = ix l r ∧ ix l (x :: r) < l.length ∧ r <:+ l ∧ l[ix l (x :: r)]? = some x := by
  obtain ⟨t, rfl⟩ := h
  unfold ix
  refine ⟨?_, ?_, ⟨t ++ [x], by simp⟩, ?_⟩
  · simp; omega
  · simp
  · have : (t ++ x :: r).length - (x :: r).length = t.length := by simp
    rw [this]
    simp
theorem ix_nil (l : List UInt8) : ix l [] = l.length := by unfold ix; simp
theorem numR_sfx : ∀ (f : Nat) (r : List UInt8), numR f r <:+ r
  | 0, r => List.suffix_refl r
  | f + 1, [] => List.suffix_refl _
  | f + 1, x :: r => by
    unfold numR
    split
    · exact (numR_sfx f r).trans (List.suffix_cons x r)
    · exact List.suffix_refl _
theorem cutR_sfx (m : UInt8) : ∀ r : List UInt8, cutR m r <:+ r
  | [] => List.suffix_refl _
  | x :: r => by
    show (if (x == m) = true then r else x :: r) <:+ x :: r
    split
    · exact List.suffix_cons x r
    · exact List.suffix_refl _
theorem ix_cut {l r : List UInt8} {m : UInt8} (h : r <:+ l) (hc : cutB m r = true) : ix l r + 1 = ix l (cutR m r) := by
  cases r with
  | nil => cases hc
  | cons x r =>
    have hc : (x == m) = true := hc
    have : cutR m (x :: r) = r := if_pos hc
    rw [this]
    exact (ix_cons h).1
theorem cutR_no {m : UInt8} {r : List UInt8} (hc : cutB m r = false) : cutR m r = r := by
  cases r with
  | nil => rfl
  | cons x r =>
    have hc : (x == m) = false := hc
    show (if (x == m) = true then r else x :: r) = x :: r
    rw [hc]
    rfl
theorem ba_get {l : List UInt8} {i : Nat} {x : UInt8} (h : l[i]? = some x) (hi : i < (⟨l.toArray⟩ : ByteArray).size) : (⟨l.toArray⟩ : ByteArray)[i]'hi = x := by
  have hl : i < l.length := (List.getElem?_eq_some_iff.1 h).1
  have := (List.getElem?_eq_some_iff.1 h).2
  rw [← this]
  rfl
set_option maxRecDepth 100000 in
set_option maxHeartbeats 4000000 in
theorem Ris_c (l r : List UInt8) (m : UInt8) (w : World) (h : r <:+ l) (hl : l.length ≤ 200) : Calls Tryd.prog 54 #[.string ⟨l.toArray⟩, .int .i64 (ix l r : Int), .int .u8 (m.toNat : Int)] w (RetS (.bool (cutB m r)) w) := by
  cases r with
  | nil =>
    rw [ix_nil]
    have e1 : cutB m [] = false := rfl
    rw [e1]
    clear e1
    go_enter Tryd.func54, Tryd.ntmps54
    go_wp2
    go_ret
    exact ⟨rfl, rfl⟩
  | cons x r =>
    obtain ⟨_, h2, _, h4⟩ := ix_cons h
    have hg := fun hi => ba_get h4 hi
    have h5 : ((ix l (x :: r) : Nat) : Int) < (l.length : Int) := by omega
    have e1 : cutB m (x :: r) = (x == m) := rfl
    have e2 : ((x.toNat : Int) == (m.toNat : Int)) = (x == m) := by
      by_cases hx : x = m
      · subst hx; simp
      · have : ¬ x.toNat = m.toNat := fun e => hx (UInt8.toNat.inj e)
        have h1 : (x == m) = false := by simp [hx]
        rw [h1]
        simp
        omega
    rw [e1]
    clear e1 h4 h
    generalize (x == m) = v at *
    generalize ix l (x :: r) = a at *
    go_enter Tryd.func54, Tryd.ntmps54
    go_wp2
    go_ret
    exact ⟨rfl, rfl⟩
set_option maxRecDepth 100000 in
set_option maxHeartbeats 4000000 in
theorem Rnumber_c (l r : List UInt8) (w : World) (h : r <:+ l) (hl : l.length ≤ 200) : Calls Tryd.prog 53 #[.string ⟨l.toArray⟩, .int .i64 (ix l r : Int)] w (RetS (.tuple #[.int .i64 (numN 3 0 r : Int), .int .i64 (ix l (numR 3 r) : Int)]) w) := by
  obtain ⟨M, hM⟩ : ∃ M, numN 3 0 r = M := ⟨_, rfl⟩
  obtain ⟨L, hL⟩ : ∃ L, numR 3 r = L := ⟨_, rfl⟩
  rw [hM, hL]
  have HS := Lib.hid (⟨hM, hL⟩ : numN 3 0 r = M ∧ numR 3 r = L)
  have HH := Lib.hid h
  have hix : ix l r ≤ 200 := by unfold ix; omega
  obtain ⟨a0, ha0⟩ : ∃ a0, a0 = ix l r := ⟨_, rfl⟩
  rw [← ha0] at hix ⊢
  have HA0 := Lib.hid ha0
  have w3 : IntKind.i64.wrap ((a0 : Int) + 3) = (a0 : Int) + 3 := by rw [IntKind.wrap_i64]; omega
  clear hM hL h ha0
  go_enter Tryd.func53, Tryd.ntmps53
  go_wp2
  go_loop [1, 6] (fun a n => ∃ (k v : Nat) (r' : List UInt8), k ≤ 3 ∧ n = .int .i64 (v : Int) ∧ a = .int .i64 ((ix l r' : Nat) : Int) ∧ ix l r' + k = a0 + 3 ∧ v ≤ 10000 - 100 * k ∧ Hid (r' <:+ l) ∧ Hid (numN k v r' = M ∧ numR k r' = L) ∧ (k = 3 → v = 0) ∧ (k = 2 → v ≤ 9) ∧ (k = 1 → v ≤ 99)) (fun a _ => a0 + 3 - (intOf a).toNat)
  case atStart => exact ⟨3, 0, r, by omega, rfl, by rw [HA0.out], by rw [HA0.out], by omega, HH, HS, fun _ => rfl, fun h => by omega, fun h => by omega⟩
  case round =>
    clear HS HH HA0
    obtain ⟨k, v, r', hk, rfl, rfl, hak, hv, HH, HS, b3, b2, b1⟩ := hrel
    cases r' with
    | nil =>
      obtain ⟨s1, s2⟩ := HS.out
      have e1 : v = M := by rw [← s1]; cases k <;> rfl
      have e2 : [] = L := by rw [← s2]; cases k <;> rfl
      subst e1
      have e3 := ix_nil l
      subst e2
      clear s1 s2 HS HH hak b1 b2 b3
      rw [e3]
      go_wp2
      (refine bodyPost_ret (v := (.tuple #[.int .i64 (v : Int), .int .i64 (l.length : Int)])) (by simp only [results, Tryd.results53]; go_simp) rfl ⟨rfl, ?_⟩)
      rfl
    | cons x rs =>
      obtain ⟨i1, i2, i3, i4⟩ := ix_cons HH.out
      have hg := fun hi => ba_get i4 hi
      have h5 : ((ix l (x :: rs) : Nat) : Int) < (l.length : Int) := by omega
      cases k with
      | zero =>
        obtain ⟨s1, s2⟩ := HS.out
        have e1 : v = M := s1
        have e2 : x :: rs = L := s2
        subst e1
        subst e2
        have h6 : ¬ ((ix l (x :: rs) : Nat) : Int) < (a0 : Int) + 3 := by omega
        clear s1 s2 HS HH i1 i2 i3 i4 b1 b2 b3 hg hak
        generalize ix l (x :: rs) = a at *
        go_wp2
        (refine bodyPost_ret (v := (.tuple #[.int .i64 (v : Int), .int .i64 (a : Int)])) (by simp only [results, Tryd.results53]; go_simp) rfl ⟨rfl, ?_⟩)
        rfl
      | succ k =>
        have h6 : ((ix l (x :: rs) : Nat) : Int) < (a0 : Int) + 3 := by omega
        have hy : x.toNat < 256 := x.toNat_lt
        obtain ⟨s1, s2⟩ := HS.out
        cases hd : isDig x
        · have e1 : v = M := by rw [← s1]; show _ = (if isDig x = true then _ else v); rw [hd]; rfl
          have e2 : x :: rs = L := by rw [← s2]; show _ = (if isDig x = true then _ else x :: rs); rw [hd]; rfl
          have hw : ¬ (48 : Int) ≤ (x.toNat : Int) ∨ ((48 : Int) ≤ (x.toNat : Int) ∧ ¬ (x.toNat : Int) ≤ 57) := by
            unfold isDig at hd
            simp at hd
            omega
          subst e1
          subst e2
          clear s1 s2 HS hd HH i1 i2 i3 i4 b1 b2 b3 hak
          generalize ix l (x :: rs) = a at *
          rcases hw with g | ⟨g, g'⟩
          · go_wp2
            (refine bodyPost_ret (v := (.tuple #[.int .i64 (v : Int), .int .i64 (a : Int)])) (by simp only [results, Tryd.results53]; go_simp) rfl ⟨rfl, ?_⟩)
            rfl
          · go_wp2
            (refine bodyPost_ret (v := (.tuple #[.int .i64 (v : Int), .int .i64 (a : Int)])) (by simp only [results, Tryd.results53]; go_simp) rfl ⟨rfl, ?_⟩)
            rfl
        · have hw : (48 : Int) ≤ (x.toNat : Int) ∧ (x.toNat : Int) ≤ 57 := by
            unfold isDig at hd
            simp at hd
            omega
          obtain ⟨g, g'⟩ := hw
          have f1 : numN k (10 * v + (x.toNat - 48)) rs = M := by rw [← s1]; show _ = (if isDig x = true then _ else v); rw [hd]; rfl
          have f2 : numR k rs = L := by rw [← s2]; show _ = (if isDig x = true then _ else x :: rs); rw [hd]; rfl
          have HF := Lib.hid (⟨f1, f2⟩ : numN k (10 * v + (x.toNat - 48)) rs = M ∧ numR k rs = L)
          have HI := Lib.hid (⟨i1, i3⟩ : ix l (x :: rs) + 1 = ix l rs ∧ rs <:+ l)
          have q1 : IntKind.u8.wrap ((x.toNat : Int) - 48) = ((x.toNat - 48 : Nat) : Int) := by rw [IntKind.wrap_u8]; omega
          have q2 : IntKind.i64.wrap (10 * (v : Int)) = 10 * (v : Int) := by rw [IntKind.wrap_i64]; omega
          have q3 : IntKind.i64.wrap ((x.toNat - 48 : Nat) : Int) = ((x.toNat - 48 : Nat) : Int) := by rw [IntKind.wrap_i64]; omega
          have q4 : IntKind.i64.wrap (10 * (v : Int) + ((x.toNat - 48 : Nat) : Int)) = ((10 * v + (x.toNat - 48) : Nat) : Int) := by rw [IntKind.wrap_i64]; omega
          have q5 : IntKind.i64.wrap ((ix l (x :: rs) : Int) + 1) = ((ix l (x :: rs) + 1 : Nat) : Int) := by rw [IntKind.wrap_i64]; omega
          clear s1 s2 f1 f2 HS hd HH i1 i3 i4
          generalize hz : x.toNat - 48 = z at *
          have HZ := Lib.hid (show z ≤ 9 by omega)
          clear hz
          generalize ix l (x :: rs) = a at *
          go_wp2
          go_round
          case rel => exact ⟨k, 10 * v + z, rs, by omega, rfl, by rw [← HI.out.1]; rfl, by have := HI.out.1; omega, by have := HZ.out; omega, Lib.hid HI.out.2, HF, by omega, by have := HZ.out; omega, by have := HZ.out; omega⟩
          case measure => simp [intOf]; omega
end Go.Proofs.YtgbiiaaeabflnaaDoor
namespace Go.Proofs.YtgbiiaaeabflnaaDoor
open Go Go.RowKit

/-- The state of the reference's Parse. -/
structure PT (w : World) (E : Nat → Int) (W : World) : Prop where
  below : Below w.heap.size w W
  a : Blk W w.heap.size 23 #[.int .i64 0, .int .i64 0, .int .i64 0, .int .i64 0, .int .i64 0, .int .i64 0]
  b : Blk W (w.heap.size + 1) 23 (cell6 E)
theorem PT.set {w W : World} {E : Nat → Int} (h : PT w E W) {k : Nat} (hk : k < 6) (x : Int) : PT w (upd6 E k x) (W.setCell ⟨w.heap.size + 1, k, none⟩ (.int .i64 x)) :=
  ⟨bl_set' (by show w.heap.size ≤ w.heap.size + 1; omega) h.below, h.a.far (by show w.heap.size ≠ w.heap.size + 1; omega) _, by rw [← cell6_set E hk]; exact h.b.set_ k _⟩
def msP (n : Nat) (a m : Value) : Nat := match m with
  | .bool true => 1 + n - (intOf a).toNat
  | _ => 0
theorem tm_neg (x d : Int) : (-x).tmod d = -(x.tmod d) := Int.neg_tmod ..
set_option maxRecDepth 100000 in
set_option maxHeartbeats 16000000 in
theorem RParse_c (l : List UInt8) (w : World) (hl : l.length ≤ 200) : Calls Tryd.prog 35 #[.string ⟨l.toArray⟩] w (Ret (parV l) w) := by
  obtain ⟨G, hG⟩ : ∃ G, parF (l.length + 1) l (fun _ => 0) = G := ⟨_, rfl⟩
  have hV : parV l = parW l G := by
    unfold parV parW par
    rw [hG]
    cases G <;> rfl
  generalize parV l = VV at *
  have HG0 := Lib.hid hG
  have HV := Lib.hid hV
  have HX := Lib.hid (fun i h w => RPrime_c i h w)
  obtain ⟨S, hS⟩ : ∃ S : ByteArray, S = ⟨l.toArray⟩ := ⟨_, rfl⟩
  rw [← hS]
  have HSS := Lib.hid hS
  have HI94 : Hid (∀ r W, r <:+ l → Calls Tryd.prog 54 #[.string S, .int .i64 (ix l r : Int), .int .u8 94] W (RetS (.bool (cutB 94 r)) W)) := Lib.hid (fun r W h => by rw [hS]; exact Ris_c l r 94 W h hl)
  have HI45 : Hid (∀ r W, r <:+ l → Calls Tryd.prog 54 #[.string S, .int .i64 (ix l r : Int), .int .u8 45] W (RetS (.bool (cutB 45 r)) W)) := Lib.hid (fun r W h => by rw [hS]; exact Ris_c l r 45 W h hl)
  have HI47 : Hid (∀ r W, r <:+ l → Calls Tryd.prog 54 #[.string S, .int .i64 (ix l r : Int), .int .u8 47] W (RetS (.bool (cutB 47 r)) W)) := Lib.hid (fun r W h => by rw [hS]; exact Ris_c l r 47 W h hl)
  have HI42 : Hid (∀ r W, r <:+ l → Calls Tryd.prog 54 #[.string S, .int .i64 (ix l r : Int), .int .u8 42] W (RetS (.bool (cutB 42 r)) W)) := Lib.hid (fun r W h => by rw [hS]; exact Ris_c l r 42 W h hl)
  have HN : Hid (∀ r W, r <:+ l → Calls Tryd.prog 53 #[.string S, .int .i64 (ix l r : Int)] W (RetS (.tuple #[.int .i64 (numN 3 0 r : Int), .int .i64 (ix l (numR 3 r) : Int)]) W)) := Lib.hid (fun r W h => by rw [hS]; exact Rnumber_c l r W h hl)
  have HW : Hid (∀ (r : List UInt8) (m : UInt8), r <:+ l → cutB m r = true → IntKind.i64.wrap ((ix l r : Int) + 1) = (ix l (cutR m r) : Int)) := Lib.hid (fun r m h hc => by
    have h1 := ix_cut h hc
    have h2 : ix l r ≤ 200 := by unfold ix; omega
    rw [IntKind.wrap_i64]
    omega)
  have ix0 : Hid (ix l l = 0) := Lib.hid (by unfold ix; omega)
  clear hG hV hS
  go_enter Tryd.func35, Tryd.ntmps35
  go_wp2
  go_loopw [5, 6] (fun at_ more wr => ∃ (m : Bool) (r : List UInt8) (E : Nat → Int), more = .bool m ∧ at_ = .int .i64 (ix l r : Int) ∧ Hid (r <:+ l) ∧ Hid (PT w E wr) ∧ (m = true → ∃ f, Hid (parF f r E = G) ∧ r.length < f) ∧ (m = false → Hid (some E = G))) (fun at_ more _ => msP l.length at_ more)
  case atStart =>
    refine ⟨true, l, fun _ => 0, rfl, by rw [ix0.out]; rfl, Lib.hid (List.suffix_refl l), Lib.hid ⟨by (repeat (first | (with_reducible exact bl_refl _) | (with_reducible refine bl_drew ?_) | (with_reducible refine bl_alloc ?_ _) | (with_reducible refine bl_set' ?_ ?_; · (first | omega | (simp; done) | (simp; omega))) | (with_reducible refine bl_last (by assumption) ?_) | (with_reducible refine bl_drewN ?_ _))), ?_, ?_⟩, fun _ => ⟨l.length + 1, HG0, by omega⟩, fun h => by cases h⟩
    · exact Blk.alloc (Blk.new _ _ _) _
    · show Blk _ (w.heap.size + 1) 23 #[.int .i64 0, .int .i64 0, .int .i64 0, .int .i64 0, .int .i64 0, .int .i64 0]
      exact blkAt _ _ _ _ (by simp)
  case round =>
    clear HG0 ix0
    obtain ⟨m, r, E, rfl, rfl, HF, HS, ht, hf⟩ := hrel
    have lr : r.length ≤ l.length := HF.out.length_le
    cases m
    case false =>
      have hGn := (hf rfl).out
      clear ht hf
      have hv := HV.out
      rw [← hGn] at hv
      have hv : VV = (if parOK l E then .tuple #[.agg (cell6 E), .int .i64 0] else zP) := hv
      have aA := HS.out.a
      have aB := HS.out.b
      have lA := aA.lt
      have lB := aB.lt
      have g0 := aA.frozen 0
      have g1 := aA.frozen 1
      have g2 := aA.frozen 2
      have g3 := aA.frozen 3
      have g4 := aA.frozen 4
      have g5 := aA.frozen 5
      have f0 := aA.cell 0
      have f1 := aA.cell 1
      have f2 := aA.cell 2
      have f3 := aA.cell 3
      have f4 := aA.cell 4
      have f5 := aA.cell 5
      have b0 := aB.cell 0
      have b1 := aB.cell 1
      have b2 := aB.cell 2
      have b3 := aB.cell 3
      have b4 := aB.cell 4
      have b5 := aB.cell 5
      simp only [cell6, List.getElem?_toArray, List.getElem?_cons_zero, List.getElem?_cons_succ] at f0 f1 f2 f3 f4 f5 b0 b1 b2 b3 b4 b5
      have hT := RText_c (E 0) (E 1) (E 2) (E 3) (E 4) (E 5) wr
      unfold textV at hT
      clear hGn aA aB HI94 HI45 HI47 HI42 HN HW HX HF
      cases hp : pV (E 0) (E 1) (E 2) (E 3) (E 4) (E 5) 576
      · have hOK : parOK l E = false := by unfold parOK; rw [hp]; rfl
        rw [hp, if_neg (by decide)] at hT
        rw [hOK, if_neg (by decide)] at hv
        have HVz := Lib.hid hv
        have HT := Lib.hid hT
        clear hv hT hOK hp
        go_wp2_with fail
        ((with_reducible refine HT.out.mono ?_); rintro en W8 ⟨rfl, d8⟩)
        obtain ⟨hz8, hc8, hf8⟩ := bcl d8 (by first | (simp; rfl) | rfl)
        go_wp2_with fail
        refine bodyPost_letter ?_
        intro W9 hW9
        have k9 : Below w.heap.size w W9 := by
          rw [hW9]
          exact bl_set' (Nat.le_refl _) (bl_set' (Nat.le_refl _) (bl_set' (Nat.le_refl _) (bl_set' (Nat.le_refl _) (bl_set' (Nat.le_refl _) (bl_set' (Nat.le_refl _) (bl_last d8 HS.out.below))))))
        have hA9 : Blk W9 w.heap.size 23 #[.int .i64 0, .int .i64 0, .int .i64 0, .int .i64 0, .int .i64 0, .int .i64 0] := by
          rw [hW9]
          exact blk_st6 (blk_up HS.out.a d8)
        clear hW9 hc8 hf8 hz8 d8 HS f0 f1 f2 f3 f4 f5 g0 g1 g2 g3 g4 g5 b0 b1 b2 b3 b4 b5 lA lB
        have r0 := hA9.cell 0
        have r1 := hA9.cell 1
        have r2 := hA9.cell 2
        have r3 := hA9.cell 3
        have r4 := hA9.cell 4
        have r5 := hA9.cell 5
        simp only [List.getElem?_toArray, List.getElem?_cons_zero, List.getElem?_cons_succ] at r0 r1 r2 r3 r4 r5
        refine bodyPost_ret (v := .tuple #[.agg #[.int .i64 0, .int .i64 0, .int .i64 0, .int .i64 0, .int .i64 0, .int .i64 0], .int .i64 8]) (by simp only [results, Tryd.results35]; go_simp) rfl ⟨?_, k9⟩
        first | (rw [HVz.out]; done) | (rw [HVz.out]; rfl)
      rw [hp, if_pos rfl] at hT
      by_cases htx : textB (pex (E 0) (E 1) (E 2) (E 3) (E 4) (E 5)) = l
      · have hOK : parOK l E = true := by unfold parOK; rw [hp, decide_eq_true htx]; rfl
        rw [htx, ← HSS.out] at hT
        rw [hOK, if_pos rfl] at hv
        unfold cell6 at hv
        have HVz := Lib.hid hv
        have HT := Lib.hid hT
        clear hv hT hOK hp htx
        go_wp2_with fail
        ((with_reducible refine HT.out.mono ?_); rintro en W8 ⟨rfl, d8⟩)
        obtain ⟨hz8, hc8, hf8⟩ := bcl d8 (by first | (simp; rfl) | rfl)
        go_wp2_with fail
        refine bodyPost_letter ?_
        intro W9 hW9
        have k9 : Below w.heap.size w W9 := by
          rw [hW9]
          exact bl_set' (Nat.le_refl _) (bl_set' (Nat.le_refl _) (bl_set' (Nat.le_refl _) (bl_set' (Nat.le_refl _) (bl_set' (Nat.le_refl _) (bl_set' (Nat.le_refl _) (bl_last d8 HS.out.below))))))
        have hA9 : Blk W9 w.heap.size 23 #[.int .i64 (E 0), .int .i64 (E 1), .int .i64 (E 2), .int .i64 (E 3), .int .i64 (E 4), .int .i64 (E 5)] := by
          rw [hW9]
          exact blk_st6 (blk_up HS.out.a d8)
        clear hW9 hc8 hf8 hz8 d8 HS f0 f1 f2 f3 f4 f5 g0 g1 g2 g3 g4 g5 b0 b1 b2 b3 b4 b5 lA lB
        have r0 := hA9.cell 0
        have r1 := hA9.cell 1
        have r2 := hA9.cell 2
        have r3 := hA9.cell 3
        have r4 := hA9.cell 4
        have r5 := hA9.cell 5
        simp only [List.getElem?_toArray, List.getElem?_cons_zero, List.getElem?_cons_succ] at r0 r1 r2 r3 r4 r5
        refine bodyPost_ret (v := .tuple #[.agg #[.int .i64 (E 0), .int .i64 (E 1), .int .i64 (E 2), .int .i64 (E 3), .int .i64 (E 4), .int .i64 (E 5)], .int .i64 0]) (by simp only [results, Tryd.results35]; go_simp) rfl ⟨?_, k9⟩
        first | (rw [HVz.out]; done) | (rw [HVz.out]; rfl)
      · have hOK : parOK l E = false := by unfold parOK; rw [hp, decide_eq_false htx]; rfl
        rw [hOK, if_neg (by decide)] at hv
        obtain ⟨T, hT0⟩ : ∃ T : ByteArray, T = ⟨(textB (pex (E 0) (E 1) (E 2) (E 3) (E 4) (E 5))).toArray⟩ := ⟨_, rfl⟩
        rw [← hT0] at hT
        have hne2 : ¬ T.toList = S.toList := by
          rw [hT0, HSS.out, ByteArray.toList_eq, ByteArray.toList_eq]
          simpa using htx
        have hne : (T.toList == S.toList) = false := by simpa using hne2
        have hne3 : (T.toList != S.toList) = true := by simpa using hne2
        have HVz := Lib.hid hv
        have HT := Lib.hid hT
        clear hv hT hOK hp htx hT0
        go_wp2_with fail
        ((with_reducible refine HT.out.mono ?_); rintro en W8 ⟨rfl, d8⟩)
        obtain ⟨hz8, hc8, hf8⟩ := bcl d8 (by first | (simp; rfl) | rfl)
        go_wp2_with fail
        refine bodyPost_letter ?_
        intro W9 hW9
        have k9 : Below w.heap.size w W9 := by
          rw [hW9]
          exact bl_set' (Nat.le_refl _) (bl_set' (Nat.le_refl _) (bl_set' (Nat.le_refl _) (bl_set' (Nat.le_refl _) (bl_set' (Nat.le_refl _) (bl_set' (Nat.le_refl _) (bl_last d8 HS.out.below))))))
        have hA9 : Blk W9 w.heap.size 23 #[.int .i64 0, .int .i64 0, .int .i64 0, .int .i64 0, .int .i64 0, .int .i64 0] := by
          rw [hW9]
          exact blk_st6 (blk_up HS.out.a d8)
        clear hW9 hc8 hf8 hz8 d8 HS f0 f1 f2 f3 f4 f5 g0 g1 g2 g3 g4 g5 b0 b1 b2 b3 b4 b5 lA lB
        have r0 := hA9.cell 0
        have r1 := hA9.cell 1
        have r2 := hA9.cell 2
        have r3 := hA9.cell 3
        have r4 := hA9.cell 4
        have r5 := hA9.cell 5
        simp only [List.getElem?_toArray, List.getElem?_cons_zero, List.getElem?_cons_succ] at r0 r1 r2 r3 r4 r5
        refine bodyPost_ret (v := .tuple #[.agg #[.int .i64 0, .int .i64 0, .int .i64 0, .int .i64 0, .int .i64 0, .int .i64 0], .int .i64 8]) (by simp only [results, Tryd.results35]; go_simp) rfl ⟨?_, k9⟩
        first | (rw [HVz.out]; done) | (rw [HVz.out]; rfl)
    case true =>
      obtain ⟨f, HG, hlen⟩ := ht rfl
      obtain ⟨f', rfl⟩ : ∃ f', f = f' + 1 := ⟨f - 1, by omega⟩
      clear ht hf
      have s1 := (numR_sfx 3 r).trans HF.out
      have s2 := (cutR_sfx 94 (numR 3 r)).trans s1
      have s3 := (cutR_sfx 45 (cutR 94 (numR 3 r))).trans s2
      have s4 := (numR_sfx 3 (cutR 45 (cutR 94 (numR 3 r)))).trans s3
      have s5 := (cutR_sfx 47 (numR 3 (cutR 45 (cutR 94 (numR 3 r))))).trans s4
      have s6 := (numR_sfx 3 (cutR 47 (numR 3 (cutR 45 (cutR 94 (numR 3 r)))))).trans s5
      have HB := Lib.hid HS.out.below
      go_wp2_with fail
      ((with_reducible refine (HN.out r _ HF.out).mono ?_); rintro en W1 ⟨rfl, rfl⟩)
      go_wp2_with fail
      ((with_reducible refine (HI94.out (numR 3 r) _ s1).mono ?_); rintro en W2 ⟨rfl, rfl⟩)
      obtain ⟨W0, hW0⟩ : ∃ W0, W0 = wr := ⟨_, rfl⟩
      go_upto_if 27 with fail
      go_cut [5, 9] (fun a e W => a = .int .i64 (ix l (stR r) : Int) ∧ e = .int .i64 (stV r) ∧ W = W0 ∧ stOK r = true)
      case first =>
        cases hX : cutB 94 (numR 3 r)
        · have e1 : stR r = numR 3 r := by
            unfold stR stX stL
            rw [hX]
            exact cutR_no hX
          have e2 : stV r = 12 := by unfold stV stE stD stX; rw [hX]; rfl
          have e3 : stOK r = true := by unfold stOK stE stD stX; rw [hX]; rfl
          go_wp2
          go_meet
          case rel => exact ⟨by rw [e1], by rw [e2], hW0.symm, e3⟩
        · have q1 := HW.out _ 94 s1 hX
          have n1 := num_le (cutR 45 (cutR 94 (numR 3 r)))
          go_wp2_with fail
          ((with_reducible refine (HI45.out (cutR 94 (numR 3 r)) _ s2).mono ?_); rintro en W3 ⟨rfl, rfl⟩)
          cases hM : cutB 45 (cutR 94 (numR 3 r))
          · have q2 : ix l (cutR 94 (numR 3 r)) = ix l (cutR 45 (cutR 94 (numR 3 r))) := by rw [cutR_no hM]
            rw [q2]
            go_wp2_with fail
            ((with_reducible refine (HN.out (cutR 45 (cutR 94 (numR 3 r))) _ s3).mono ?_); rintro en W4 ⟨rfl, rfl⟩)
            go_wp2_with fail
            ((with_reducible refine (HI47.out (numR 3 (cutR 45 (cutR 94 (numR 3 r)))) _ s4).mono ?_); rintro en W5 ⟨rfl, rfl⟩)
            cases hS : cutB 47 (numR 3 (cutR 45 (cutR 94 (numR 3 r))))
            · have eR : stR r = (numR 3 (cutR 45 (cutR 94 (numR 3 r)))) := by unfold stR stX stL4 stL3 stL; rw [hX, hS]; exact cutR_no hS
              have eD : stD r = ((1 : Nat) : Int) := by unfold stD stX stL4 stL3 stL; rw [hX, hS]; rfl
              have n2 : 1 ≤ 1000 := by omega
              have eE : stE r = (numN 3 0 (cutR 45 (cutR 94 (numR 3 r))) : Int) := by unfold stE stX stM stL3 stL; rw [hX, hM]; rfl
              have eV : stV r = ((numN 3 0 (cutR 45 (cutR 94 (numR 3 r))) : Int) * 12).tdiv (stD r) := by unfold stV; rw [eE]
              have eO : stOK r = (decide (1 ≤ stD r) && decide (((numN 3 0 (cutR 45 (cutR 94 (numR 3 r))) : Int) * 12).tmod (stD r) = 0)) := by unfold stOK; rw [eE]
              have hVb := stV_bd r
              rw [eD] at eV eO
              clear eD eE
              generalize stV r = V at *
              generalize hRr : ix l (stR r) = ar at *
              rw [eR] at hRr
              generalize numN 3 0 (cutR 45 (cutR 94 (numR 3 r))) = N at *
              rw [hRr]
              have hOKt : stOK r = true := by
                rw [eO]
                simp
              have eV2 : V = (N : Int) * 12 := by rw [eV]; simp
              clear hRr eR q1 q2 s1 s2 s3 s4 s5 s6 hX hM hS eO eV n2
              have w1 : IntKind.i64.wrap ((N : Int) * 12) = (N : Int) * 12 := by rw [IntKind.wrap_i64]; omega
              have w2 : IntKind.i64.wrap (-(N : Int)) = -(N : Int) := by rw [IntKind.wrap_i64]; omega
              have w3 : IntKind.i64.wrap (-(N : Int) * 12) = -(N : Int) * 12 := by rw [IntKind.wrap_i64]; omega
              have w4 : IntKind.i64.wrap (N : Int) = (N : Int) := by rw [IntKind.wrap_i64]; omega
              have w6 : IntKind.i64.wrap (-((N : Int) * 12)) = -((N : Int) * 12) := by rw [IntKind.wrap_i64]; omega
              have HE2 := Lib.hid eV2
              clear eV2 hVb
              go_wp2
              go_meet
              case rel => exact ⟨rfl, by first | (rw [HE2.out]; done) | (rw [HE2.out]; rfl) | (rw [HE2.out]; simp; done) | (rw [HE2.out, Int.neg_mul]), hW0.symm, hOKt⟩
            · have q3 := HW.out _ 47 s4 hS
              have n2 := num_le (cutR 47 (numR 3 (cutR 45 (cutR 94 (numR 3 r)))))
              go_wp2_with fail
              ((with_reducible refine (HN.out (cutR 47 (numR 3 (cutR 45 (cutR 94 (numR 3 r))))) _ s5).mono ?_); rintro en W6 ⟨rfl, rfl⟩)
              have eR : stR r = numR 3 (cutR 47 (numR 3 (cutR 45 (cutR 94 (numR 3 r))))) := by unfold stR stX stL4 stL3 stL; rw [hX, hS]; rfl
              have eD : stD r = (numN 3 0 (cutR 47 (numR 3 (cutR 45 (cutR 94 (numR 3 r))))) : Int) := by unfold stD stX stL4 stL3 stL; rw [hX, hS]; rfl
              have eE : stE r = (numN 3 0 (cutR 45 (cutR 94 (numR 3 r))) : Int) := by unfold stE stX stM stL3 stL; rw [hX, hM]; rfl
              have eV : stV r = ((numN 3 0 (cutR 45 (cutR 94 (numR 3 r))) : Int) * 12).tdiv (stD r) := by unfold stV; rw [eE]
              have eO : stOK r = (decide (1 ≤ stD r) && decide (((numN 3 0 (cutR 45 (cutR 94 (numR 3 r))) : Int) * 12).tmod (stD r) = 0)) := by unfold stOK; rw [eE]
              have hVb := stV_bd r
              rw [eD] at eV eO
              clear eD eE
              generalize stV r = V at *
              generalize hRr : ix l (stR r) = ar at *
              rw [eR] at hRr
              generalize numN 3 0 (cutR 45 (cutR 94 (numR 3 r))) = N at *
              generalize numN 3 0 (cutR 47 (numR 3 (cutR 45 (cutR 94 (numR 3 r))))) = D at *
              rw [hRr]
              clear hRr eR q1 q2 s1 s2 s3 s4 s5 s6 hX hM hS
              have t0 : (N : Int) * 12 = ((N * 12 : Nat) : Int) := by omega
              have w1 : IntKind.i64.wrap ((N : Int) * 12) = (N : Int) * 12 := by rw [IntKind.wrap_i64]; omega
              have w2 : IntKind.i64.wrap (-(N : Int)) = -(N : Int) := by rw [IntKind.wrap_i64]; omega
              have w3 : IntKind.i64.wrap (-(N : Int) * 12) = -(N : Int) * 12 := by rw [IntKind.wrap_i64]; omega
              have w4 : IntKind.i64.wrap (N : Int) = (N : Int) := by rw [IntKind.wrap_i64]; omega
              have w5 : IntKind.i64.wrap V = V := by rw [IntKind.wrap_i64]; omega
              have w6 : IntKind.i64.wrap (-((N : Int) * 12)) = -((N : Int) * 12) := by rw [IntKind.wrap_i64]; omega
              by_cases hd1 : D < 1
              · have hd1' : ((D : Nat) : Int) < 1 := by omega
                have hOKf : stOK r = false := by rw [eO, decide_eq_false (by omega)]; rfl
                have hGn : none = G := by
                  have h := HG.out
                  unfold parF at h
                  rw [hOKf] at h
                  exact h
                have hv := HV.out
                rw [← hGn] at hv
                have hv : VV = zP := hv
                have HVz := Lib.hid hv
                have aA := HS.out.a
                have lA := aA.lt
                have g0 := aA.frozen 0
                have g1 := aA.frozen 1
                have g2 := aA.frozen 2
                have g3 := aA.frozen 3
                have g4 := aA.frozen 4
                have g5 := aA.frozen 5
                have f0 := aA.cell 0
                have f1 := aA.cell 1
                have f2 := aA.cell 2
                have f3 := aA.cell 3
                have f4 := aA.cell 4
                have f5 := aA.cell 5
                simp only [List.getElem?_toArray, List.getElem?_cons_zero, List.getElem?_cons_succ] at f0 f1 f2 f3 f4 f5
                clear hGn hv hOKf
                go_wp2
                refine bodyPost_ret (v := .tuple #[.agg #[.int .i64 0, .int .i64 0, .int .i64 0, .int .i64 0, .int .i64 0, .int .i64 0], .int .i64 8]) (by simp only [results, Tryd.results35]; go_simp) rfl ?_
                refine ⟨by first | (rw [HVz.out]; done) | (rw [HVz.out]; rfl), ?_⟩
                exact bl_set' (Nat.le_refl _) (bl_set' (Nat.le_refl _) (bl_set' (Nat.le_refl _) (bl_set' (Nat.le_refl _) (bl_set' (Nat.le_refl _) (bl_set' (Nat.le_refl _) HB.out)))))
              by_cases hd2 : (N * 12) % D = 0
              · have tm1 : ((N : Int) * 12).tmod (D : Int) = 0 := by rw [t0, Int.tmod_eq_emod_of_nonneg (by omega)]; exact_mod_cast hd2
                have tm2 : ((N : Int) * 12) % (D : Int) = 0 := by rw [t0]; exact_mod_cast hd2
                have hd3 : ¬ ((D : Nat) : Int) < 1 := by omega
                have hd4 : (D : Int) ≠ 0 := by omega
                have hOKt : stOK r = true := by
                  rw [eO, decide_eq_true (by omega), decide_eq_true (by first | exact tm1 | (rw [Int.neg_mul, tm_neg, tm1]; rfl))]
                  rfl
                have hV1 := eV.symm
                have w7 : ((N : Int) * 12) / (D : Int) = V := by rw [eV, Int.tdiv_eq_ediv_of_nonneg (by omega)]
                clear eO eV w1 t0
                go_wp2
                go_meet
                case rel => exact ⟨rfl, by first | rfl | (rw [hV1]; done) | (rw [← hV1]; rfl) | (simp [*]; done), hW0.symm, hOKt⟩
              · have tm1 : ¬ ((N : Int) * 12).tmod (D : Int) = 0 := by rw [t0, Int.tmod_eq_emod_of_nonneg (by omega)]; exact_mod_cast hd2
                have tm2 : ¬ ((N : Int) * 12) % (D : Int) = 0 := by rw [t0]; exact_mod_cast hd2
                have tm3 : (((N : Int) * 12).tmod (D : Int) != 0) = true := by simpa using tm1
                have tm4 : (((N : Int) * 12) % (D : Int) != 0) = true := by simpa using tm2
                have hd3 : ¬ ((D : Nat) : Int) < 1 := by omega
                have hd4 : (D : Int) ≠ 0 := by omega
                have hOKf : stOK r = false := by rw [eO, decide_eq_false (p := _ = 0) (fun h => tm1 (by first | exact h | (rw [Int.neg_mul, tm_neg] at h; omega))), Bool.and_false]
                have hGn : none = G := by
                  have h := HG.out
                  unfold parF at h
                  rw [hOKf] at h
                  exact h
                have hv := HV.out
                rw [← hGn] at hv
                have hv : VV = zP := hv
                have HVz := Lib.hid hv
                have aA := HS.out.a
                have lA := aA.lt
                have g0 := aA.frozen 0
                have g1 := aA.frozen 1
                have g2 := aA.frozen 2
                have g3 := aA.frozen 3
                have g4 := aA.frozen 4
                have g5 := aA.frozen 5
                have f0 := aA.cell 0
                have f1 := aA.cell 1
                have f2 := aA.cell 2
                have f3 := aA.cell 3
                have f4 := aA.cell 4
                have f5 := aA.cell 5
                simp only [List.getElem?_toArray, List.getElem?_cons_zero, List.getElem?_cons_succ] at f0 f1 f2 f3 f4 f5
                clear hGn hv hOKf t0
                go_wp2
                refine bodyPost_ret (v := .tuple #[.agg #[.int .i64 0, .int .i64 0, .int .i64 0, .int .i64 0, .int .i64 0, .int .i64 0], .int .i64 8]) (by simp only [results, Tryd.results35]; go_simp) rfl ?_
                refine ⟨by first | (rw [HVz.out]; done) | (rw [HVz.out]; rfl), ?_⟩
                exact bl_set' (Nat.le_refl _) (bl_set' (Nat.le_refl _) (bl_set' (Nat.le_refl _) (bl_set' (Nat.le_refl _) (bl_set' (Nat.le_refl _) (bl_set' (Nat.le_refl _) HB.out)))))
          · have q2 := HW.out _ 45 s2 hM
            go_wp2_with fail
            ((with_reducible refine (HN.out (cutR 45 (cutR 94 (numR 3 r))) _ s3).mono ?_); rintro en W4 ⟨rfl, rfl⟩)
            go_wp2_with fail
            ((with_reducible refine (HI47.out (numR 3 (cutR 45 (cutR 94 (numR 3 r)))) _ s4).mono ?_); rintro en W5 ⟨rfl, rfl⟩)
            cases hS : cutB 47 (numR 3 (cutR 45 (cutR 94 (numR 3 r))))
            · have eR : stR r = (numR 3 (cutR 45 (cutR 94 (numR 3 r)))) := by unfold stR stX stL4 stL3 stL; rw [hX, hS]; exact cutR_no hS
              have eD : stD r = ((1 : Nat) : Int) := by unfold stD stX stL4 stL3 stL; rw [hX, hS]; rfl
              have n2 : 1 ≤ 1000 := by omega
              have eE : stE r = -(numN 3 0 (cutR 45 (cutR 94 (numR 3 r))) : Int) := by unfold stE stX stM stL3 stL; rw [hX, hM]; rfl
              have eV : stV r = (-(numN 3 0 (cutR 45 (cutR 94 (numR 3 r))) : Int) * 12).tdiv (stD r) := by unfold stV; rw [eE]
              have eO : stOK r = (decide (1 ≤ stD r) && decide ((-(numN 3 0 (cutR 45 (cutR 94 (numR 3 r))) : Int) * 12).tmod (stD r) = 0)) := by unfold stOK; rw [eE]
              have hVb := stV_bd r
              rw [eD] at eV eO
              clear eD eE
              generalize stV r = V at *
              generalize hRr : ix l (stR r) = ar at *
              rw [eR] at hRr
              generalize numN 3 0 (cutR 45 (cutR 94 (numR 3 r))) = N at *
              rw [hRr]
              have hOKt : stOK r = true := by
                rw [eO]
                simp
              have eV2 : V = -(N : Int) * 12 := by rw [eV]; simp
              clear hRr eR q1 q2 s1 s2 s3 s4 s5 s6 hX hM hS eO eV n2
              have w1 : IntKind.i64.wrap ((N : Int) * 12) = (N : Int) * 12 := by rw [IntKind.wrap_i64]; omega
              have w2 : IntKind.i64.wrap (-(N : Int)) = -(N : Int) := by rw [IntKind.wrap_i64]; omega
              have w3 : IntKind.i64.wrap (-(N : Int) * 12) = -(N : Int) * 12 := by rw [IntKind.wrap_i64]; omega
              have w4 : IntKind.i64.wrap (N : Int) = (N : Int) := by rw [IntKind.wrap_i64]; omega
              have w6 : IntKind.i64.wrap (-((N : Int) * 12)) = -((N : Int) * 12) := by rw [IntKind.wrap_i64]; omega
              have HE2 := Lib.hid eV2
              clear eV2 hVb
              go_wp2
              go_meet
              case rel => exact ⟨rfl, by first | (rw [HE2.out]; done) | (rw [HE2.out]; rfl) | (rw [HE2.out]; simp; done) | (rw [HE2.out, Int.neg_mul]), hW0.symm, hOKt⟩
            · have q3 := HW.out _ 47 s4 hS
              have n2 := num_le (cutR 47 (numR 3 (cutR 45 (cutR 94 (numR 3 r)))))
              go_wp2_with fail
              ((with_reducible refine (HN.out (cutR 47 (numR 3 (cutR 45 (cutR 94 (numR 3 r))))) _ s5).mono ?_); rintro en W6 ⟨rfl, rfl⟩)
              have eR : stR r = numR 3 (cutR 47 (numR 3 (cutR 45 (cutR 94 (numR 3 r))))) := by unfold stR stX stL4 stL3 stL; rw [hX, hS]; rfl
              have eD : stD r = (numN 3 0 (cutR 47 (numR 3 (cutR 45 (cutR 94 (numR 3 r))))) : Int) := by unfold stD stX stL4 stL3 stL; rw [hX, hS]; rfl
              have eE : stE r = -(numN 3 0 (cutR 45 (cutR 94 (numR 3 r))) : Int) := by unfold stE stX stM stL3 stL; rw [hX, hM]; rfl
              have eV : stV r = (-(numN 3 0 (cutR 45 (cutR 94 (numR 3 r))) : Int) * 12).tdiv (stD r) := by unfold stV; rw [eE]
              have eO : stOK r = (decide (1 ≤ stD r) && decide ((-(numN 3 0 (cutR 45 (cutR 94 (numR 3 r))) : Int) * 12).tmod (stD r) = 0)) := by unfold stOK; rw [eE]
              have hVb := stV_bd r
              rw [eD] at eV eO
              clear eD eE
              generalize stV r = V at *
              generalize hRr : ix l (stR r) = ar at *
              rw [eR] at hRr
              generalize numN 3 0 (cutR 45 (cutR 94 (numR 3 r))) = N at *
              generalize numN 3 0 (cutR 47 (numR 3 (cutR 45 (cutR 94 (numR 3 r))))) = D at *
              rw [hRr]
              clear hRr eR q1 q2 s1 s2 s3 s4 s5 s6 hX hM hS
              have t0 : (N : Int) * 12 = ((N * 12 : Nat) : Int) := by omega
              have w1 : IntKind.i64.wrap ((N : Int) * 12) = (N : Int) * 12 := by rw [IntKind.wrap_i64]; omega
              have w2 : IntKind.i64.wrap (-(N : Int)) = -(N : Int) := by rw [IntKind.wrap_i64]; omega
              have w3 : IntKind.i64.wrap (-(N : Int) * 12) = -(N : Int) * 12 := by rw [IntKind.wrap_i64]; omega
              have w4 : IntKind.i64.wrap (N : Int) = (N : Int) := by rw [IntKind.wrap_i64]; omega
              have w5 : IntKind.i64.wrap V = V := by rw [IntKind.wrap_i64]; omega
              have w6 : IntKind.i64.wrap (-((N : Int) * 12)) = -((N : Int) * 12) := by rw [IntKind.wrap_i64]; omega
              by_cases hd1 : D < 1
              · have hd1' : ((D : Nat) : Int) < 1 := by omega
                have hOKf : stOK r = false := by rw [eO, decide_eq_false (by omega)]; rfl
                have hGn : none = G := by
                  have h := HG.out
                  unfold parF at h
                  rw [hOKf] at h
                  exact h
                have hv := HV.out
                rw [← hGn] at hv
                have hv : VV = zP := hv
                have HVz := Lib.hid hv
                have aA := HS.out.a
                have lA := aA.lt
                have g0 := aA.frozen 0
                have g1 := aA.frozen 1
                have g2 := aA.frozen 2
                have g3 := aA.frozen 3
                have g4 := aA.frozen 4
                have g5 := aA.frozen 5
                have f0 := aA.cell 0
                have f1 := aA.cell 1
                have f2 := aA.cell 2
                have f3 := aA.cell 3
                have f4 := aA.cell 4
                have f5 := aA.cell 5
                simp only [List.getElem?_toArray, List.getElem?_cons_zero, List.getElem?_cons_succ] at f0 f1 f2 f3 f4 f5
                clear hGn hv hOKf
                go_wp2
                refine bodyPost_ret (v := .tuple #[.agg #[.int .i64 0, .int .i64 0, .int .i64 0, .int .i64 0, .int .i64 0, .int .i64 0], .int .i64 8]) (by simp only [results, Tryd.results35]; go_simp) rfl ?_
                refine ⟨by first | (rw [HVz.out]; done) | (rw [HVz.out]; rfl), ?_⟩
                exact bl_set' (Nat.le_refl _) (bl_set' (Nat.le_refl _) (bl_set' (Nat.le_refl _) (bl_set' (Nat.le_refl _) (bl_set' (Nat.le_refl _) (bl_set' (Nat.le_refl _) HB.out)))))
              by_cases hd2 : (N * 12) % D = 0
              · have tm1 : ((N : Int) * 12).tmod (D : Int) = 0 := by rw [t0, Int.tmod_eq_emod_of_nonneg (by omega)]; exact_mod_cast hd2
                have tm2 : ((N : Int) * 12) % (D : Int) = 0 := by rw [t0]; exact_mod_cast hd2
                have hd3 : ¬ ((D : Nat) : Int) < 1 := by omega
                have hd4 : (D : Int) ≠ 0 := by omega
                have hOKt : stOK r = true := by
                  rw [eO, decide_eq_true (by omega), decide_eq_true (by first | exact tm1 | (rw [Int.neg_mul, tm_neg, tm1]; rfl))]
                  rfl
                have hV1 := eV.symm
                have w7 : -(((N : Int) * 12) / (D : Int)) = V := by rw [eV, Int.neg_mul, Int.neg_tdiv, Int.tdiv_eq_ediv_of_nonneg (by omega)]
                have w8 : -(((N : Int) * 12).tdiv (D : Int)) = V := by rw [eV, Int.neg_mul, Int.neg_tdiv]
                have w9 : (-((N : Int) * 12)).tdiv (D : Int) = V := by rw [eV, Int.neg_mul]
                have wa : (-((N : Int) * 12)).tdiv (D : Int) = V := by rw [eV, Int.neg_mul]
                clear eO eV w1 t0
                go_wp2
                go_meet
                case rel => exact ⟨rfl, by first | rfl | (rw [hV1]; done) | (rw [← hV1]; rfl) | (simp [*]; done), hW0.symm, hOKt⟩
              · have tm1 : ¬ ((N : Int) * 12).tmod (D : Int) = 0 := by rw [t0, Int.tmod_eq_emod_of_nonneg (by omega)]; exact_mod_cast hd2
                have tm2 : ¬ ((N : Int) * 12) % (D : Int) = 0 := by rw [t0]; exact_mod_cast hd2
                have tm3 : (((N : Int) * 12).tmod (D : Int) != 0) = true := by simpa using tm1
                have tm4 : (((N : Int) * 12) % (D : Int) != 0) = true := by simpa using tm2
                have hd3 : ¬ ((D : Nat) : Int) < 1 := by omega
                have hd4 : (D : Int) ≠ 0 := by omega
                have hOKf : stOK r = false := by rw [eO, decide_eq_false (p := _ = 0) (fun h => tm1 (by first | exact h | (rw [Int.neg_mul, tm_neg] at h; omega))), Bool.and_false]
                have hGn : none = G := by
                  have h := HG.out
                  unfold parF at h
                  rw [hOKf] at h
                  exact h
                have hv := HV.out
                rw [← hGn] at hv
                have hv : VV = zP := hv
                have HVz := Lib.hid hv
                have aA := HS.out.a
                have lA := aA.lt
                have g0 := aA.frozen 0
                have g1 := aA.frozen 1
                have g2 := aA.frozen 2
                have g3 := aA.frozen 3
                have g4 := aA.frozen 4
                have g5 := aA.frozen 5
                have f0 := aA.cell 0
                have f1 := aA.cell 1
                have f2 := aA.cell 2
                have f3 := aA.cell 3
                have f4 := aA.cell 4
                have f5 := aA.cell 5
                simp only [List.getElem?_toArray, List.getElem?_cons_zero, List.getElem?_cons_succ] at f0 f1 f2 f3 f4 f5
                clear hGn hv hOKf t0
                go_wp2
                refine bodyPost_ret (v := .tuple #[.agg #[.int .i64 0, .int .i64 0, .int .i64 0, .int .i64 0, .int .i64 0, .int .i64 0], .int .i64 8]) (by simp only [results, Tryd.results35]; go_simp) rfl ?_
                refine ⟨by first | (rw [HVz.out]; done) | (rw [HVz.out]; rfl), ?_⟩
                exact bl_set' (Nat.le_refl _) (bl_set' (Nat.le_refl _) (bl_set' (Nat.le_refl _) (bl_set' (Nat.le_refl _) (bl_set' (Nat.le_refl _) (bl_set' (Nat.le_refl _) HB.out)))))
      case rest =>
      obtain ⟨rfl, rfl, hwc, hOK⟩ := hcut
      rw [hwc, hW0]
      clear hwc
      have HGs : Hid ((if cutB 42 (stR r) then parF f' (cutR 42 (stR r)) (stU r E 6) else some (stU r E 6)) = G) := Lib.hid (by
        have h := HG.out
        unfold parF at h
        rw [hOK] at h
        exact h)
      have sR : stR r <:+ r := by
        unfold stR stL4 stL3 stL
        split
        · split
          · exact (numR_sfx 3 _).trans ((cutR_sfx 47 _).trans ((numR_sfx 3 _).trans ((cutR_sfx 45 _).trans ((cutR_sfx 94 _).trans (numR_sfx 3 r)))))
          · exact (cutR_sfx 47 _).trans ((numR_sfx 3 _).trans ((cutR_sfx 45 _).trans ((cutR_sfx 94 _).trans (numR_sfx 3 r))))
        · exact (cutR_sfx 94 _).trans (numR_sfx 3 r)
      have hB := stV_bd r
      clear HG hOK HI94 HI45 HI47 HN s1 s2 s3 s4 s5 s6
      go_wp2
      go_loopw [14] (fun i wr => ∃ k : Nat, k ≤ 6 ∧ i = .int .i64 (k : Int) ∧ Hid (PT w (stU r E k) wr)) (fun i _ => 6 - (intOf i).toNat)
      case atStart => exact ⟨0, by omega, rfl, by rw [stU_zero]; exact HS⟩
      case round =>
        clear HS HB hW0
        obtain ⟨k, hk, rfl, HS3⟩ := hrel
        by_cases hlt : k < 6
        · have HPr := Lib.hid (fun w => HX.out k hlt w)
          have cB := (HS3.out.b.cell k).trans (cell6_get _ hlt)
          have fB := HS3.out.b.frozen k
          have lB := HS3.out.b.lt
          have e8 : IntKind.i64.wrap ((k : Int) + 1) = ((k + 1 : Nat) : Int) := by rw [IntKind.wrap_i64]; omega
          by_cases hq : prm k = stQ r
          · have HNx := Lib.hid (stU_yes (E := E) hq)
            have hq' : (prm k : Int) = (numN 3 0 r : Int) := by rw [hq]; rfl
            have hq2 : ((prm k : Int) == (numN 3 0 r : Int)) = true := by rw [hq']; simp
            clear hq hq'
            generalize prm k = pk at *
            go_wp2_with (go_at_call 51; ((with_reducible refine (HPr.out _).mono ?_); rintro e w' ⟨rfl, rfl⟩))
            go_roundw
            case rel => exact ⟨k + 1, hlt, by go_num, Lib.hid (by rw [← HNx.out]; exact HS3.out.set hlt (stV r))⟩
            case measure => simp [intOf]; omega
          · have HNx := Lib.hid (stU_no (E := E) hq)
            have hq' : ¬ (prm k : Int) = (numN 3 0 r : Int) := fun e => hq (by unfold stQ; omega)
            have hq2 : ((prm k : Int) == (numN 3 0 r : Int)) = false := by simpa using hq'
            clear hq hq'
            generalize prm k = pk at *
            go_wp2_with (go_at_call 51; ((with_reducible refine (HPr.out _).mono ?_); rintro e w' ⟨rfl, rfl⟩))
            go_roundw
            case rel => exact ⟨k + 1, hlt, by go_num, Lib.hid (by rw [HNx.out]; exact HS3.out)⟩
            case measure => simp [intOf]; omega
        · obtain rfl : k = 6 := by omega
          have sl := sR.trans HF.out
          have sc := (cutR_sfx 42 (stR r)).trans sl
          go_wp2_with fail
          ((with_reducible refine (HI42.out (stR r) _ sl).mono ?_); rintro en W7 ⟨rfl, rfl⟩)
          cases hC : cutB 42 (stR r)
          · have HGn : Hid (some (stU r E 6) = G) := Lib.hid (by
              have h := HGs.out
              rw [hC] at h
              exact h)
            go_wp2
            go_roundw
            case rel => exact ⟨false, stR r, stU r E 6, rfl, rfl, Lib.hid sl, HS3, fun h => (by cases h), fun _ => HGn⟩
            case measure =>
              have : ix l r ≤ l.length := by unfold ix; omega
              simp [msP, intOf]
              omega
          · have HGn : Hid (parF f' (cutR 42 (stR r)) (stU r E 6) = G) := Lib.hid (by
              have h := HGs.out
              rw [hC] at h
              exact h)
            have h1 := cutR_lt hC
            have h2 := stR_len r
            have q4 := HW.out _ 42 sl hC
            go_wp2
            go_roundw
            case rel => exact ⟨true, cutR 42 (stR r), stU r E 6, rfl, rfl, Lib.hid sc, HS3, fun _ => ⟨f', HGn, by omega⟩, fun h => (by cases h)⟩
            case measure =>
              have h3 : ix l r + r.length = l.length := by unfold ix; omega
              have h4 : ix l (cutR 42 (stR r)) + (cutR 42 (stR r)).length = l.length := by have := sc.length_le; unfold ix; omega
              simp [msP, intOf]
              omega
end Go.Proofs.YtgbiiaaeabflnaaDoor
