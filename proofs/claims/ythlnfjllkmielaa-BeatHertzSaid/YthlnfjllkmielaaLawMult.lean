/- BeatMultiples and BeatTriangle: the plain laws. -/
import Derived.Test.YthlnfjllkmielaaLawSet
namespace Go.Proofs.Ythlnfjllkmielaa
open Go Go.RowKit

/-- What Rate returns, as an equation. -/
theorem ra_spec {fn fd gn gd p q : Int} (h : raE fn fd gn gd p q = 0) :
    raG fn fd gn gd p q = true ∧ rtV (raX fn fd gn gd p q) (raY fn fd gn gd p q) = true ∧ raX fn fd gn gd p q * (fd * gd) = raN fn fd gn gd p q * raY fn fd gn gd p q := by
  unfold raE at h
  split at h
  · rename_i hG
    unfold maK at h
    split at h
    · rename_i hM
      unfold raX raY maN maD
      rw [if_pos hG, if_pos hG, if_pos hM, if_pos hM]
      unfold maE at hM
      simp only [Bool.and_eq_true, decide_eq_true_eq] at hM
      obtain ⟨_, _, h3⟩ := mk_spec hM.1
      exact ⟨hG, hM.2, h3⟩
    · cases h
  · cases h
/-- In range, but no rate. -/
theorem ra_far {fn fd gn gd p q : Int} (hG : raG fn fd gn gd p q = true) (h : maE rtV (raN fn fd gn gd p q) (fd * gd) = false) : raE fn fd gn gd p q = 3 := by
  unfold raE maK
  rw [if_pos hG, h]
  rfl
theorem den_dvd {X Y z y : Int} (h : Low X Y) (hy : 0 < y) (e : X * y = z * Y) : Y ≤ y := by
  have h1 : Int.gcd Y X = 1 := by
    rw [Int.gcd_comm]
    exact h.2
  have h2 : Y ∣ X * y := ⟨z, by rw [e]; exact Int.mul_comm _ _⟩
  have h3 := Int.dvd_gcd_mul_iff_dvd_mul.2 h2
  rw [h1] at h3
  exact Int.le_of_dvd hy (by simpa using h3)
/-- What the product with k / 1 is. -/
theorem mul_rt {x y k : Int} (hv : rtV x y = true) (hk : 0 ≤ k) (h : mkE (x * k) (y * 1) = 0) : rtV (mkN (x * k) (y * 1)) (mkD (x * k) (y * 1)) = true ∧ mkN (x * k) (y * 1) * y = x * k * mkD (x * k) (y * 1) := by
  obtain ⟨_, h1, h2⟩ := mk_spec h
  rw [Int.mul_one] at h1 h2 ⊢
  obtain ⟨r1, r2, r3, r4⟩ := rt_of hv
  have hy : 0 < y := by omega
  have hD := den_pos h1
  have hle := den_dvd (low_of h1) hy h2
  have hN : 0 ≤ mkN (x * k) y := by
    rcases Int.lt_or_le (mkN (x * k) y) 0 with g | g
    · have g1 := Int.mul_neg_of_neg_of_pos g hy
      have g2 := Int.mul_nonneg (Int.mul_nonneg r1 hk) (Int.le_of_lt hD)
      omega
    · exact g
  refine ⟨?_, h2⟩
  unfold rtV
  rw [h1, decide_eq_true hN, decide_eq_true (show mkD (x * k) y ≤ 100000000 by omega)]
  rfl
theorem mulV_k {x y k : Int} (hx : vR x y = true) (hk : vR k 1 = true) : mulV x y k 1 = mkV (x * k) (y * 1) := by
  unfold mulV
  rw [hx, hk]
  rfl
theorem mkE_ways (n d : Int) (hd : d ≠ 0) : mkE n d = 0 ∨ mkE n d = 3 := by
  unfold mkE
  rw [if_neg hd]
  split
  · exact Or.inr rfl
  · exact Or.inl rfl
theorem mkE_bad {n d : Int} (h : ¬ mkE n d = 0) : mkN n d = 0 ∧ mkD n d = 0 := by
  unfold mkN mkD
  rw [if_neg h, if_neg h]
  exact ⟨rfl, rfl⟩
theorem pt_mk {p : Int} (h1 : 1 ≤ p) (h2 : p ≤ 64) : ptV p = true := by simp [ptV, h1, h2]
theorem raN_mul (fn fd gn gd p q k : Int) (hk : 0 ≤ k) : raN fn fd gn gd (k * p) (k * q) = k * raN fn fd gn gd p q := by
  unfold raN
  have e : k * p * fn * gd - k * q * gn * fd = k * (p * fn * gd - q * gn * fd) := by grind
  rw [e, Int.natAbs_mul]
  have : (k.natAbs : Int) = k := by omega
  rw [Int.natCast_mul, this]
theorem mult_law {fn fd gn gd p q k : Int} (h : raE fn fd gn gd p q = 0) (hk : 1 ≤ k) (hp : k * p ≤ 64) (hq : k * q ≤ 64) :
    (mkE (raX fn fd gn gd p q * k) (raY fn fd gn gd p q * 1) = 0 ∧ raE fn fd gn gd (k * p) (k * q) = 0 ∧ raX fn fd gn gd (k * p) (k * q) = mkN (raX fn fd gn gd p q * k) (raY fn fd gn gd p q * 1) ∧ raY fn fd gn gd (k * p) (k * q) = mkD (raX fn fd gn gd p q * k) (raY fn fd gn gd p q * 1)) ∨
      ((mkE (raX fn fd gn gd p q * k) (raY fn fd gn gd p q * 1) != 0) = true ∧ raE fn fd gn gd (k * p) (k * q) = 3) := by
  obtain ⟨hG, hr, he⟩ := ra_spec h
  obtain ⟨⟨h1, h2⟩, h3, h4⟩ := raG_of hG
  have p1 := (pt_of h3).1
  have q1 := (pt_of h4).1
  have kp : 1 ≤ k * p := by have := Int.mul_le_mul hk p1 (by omega) (by omega); omega
  have kq : 1 ≤ k * q := by have := Int.mul_le_mul hk q1 (by omega) (by omega); omega
  have hG2 := raG_mk h1 h2 (pt_mk kp hp) (pt_mk kq hq)
  have hN := raN_mul fn fd gn gd p q k (by omega)
  have hd1 := (rt_of (sd_of h1).1).2.2.1
  have hd2 := (rt_of (sd_of h2).1).2.2.1
  have hdd := mul_ne (show 0 < fd by omega) (show 0 < gd by omega)
  have hy : 0 < raY fn fd gn gd p q := by have := (rt_of hr).2.2.1; omega
  have hO := fun X Y hv e => ra_of (x := X) (y := Y) hG2 hv e
  have hF := ra_far hG2
  rw [hN] at hO hF
  generalize raX fn fd gn gd p q = x at *
  generalize raY fn fd gn gd p q = y at *
  generalize raN fn fd gn gd p q = n at *
  by_cases hm : mkE (x * k) (y * 1) = 0
  · obtain ⟨m1, m2⟩ := mul_rt hr (by omega) hm
    obtain ⟨o1, o2, o3⟩ := hO _ _ m1 (by
      refine cancel hy ?_
      have a1 : k * n * mkD (x * k) (y * 1) * y = k * (n * y) * mkD (x * k) (y * 1) := by grind
      have a2 : mkN (x * k) (y * 1) * (fd * gd) * y = mkN (x * k) (y * 1) * y * (fd * gd) := by grind
      rw [a1, a2, ← he, m2]
      grind)
    exact Or.inl ⟨hm, o3, o1, o2⟩
  · refine Or.inr ⟨by simpa using hm, hF ?_⟩
    cases e : maE rtV (k * n) (fd * gd)
    · rfl
    · exfalso
      unfold maE at e
      simp only [Bool.and_eq_true, decide_eq_true_eq] at e
      have hc := (mk_congr (n := x * k) (d := y * 1) (n' := k * n) (d' := fd * gd) (by omega) hdd (by
        have : x * k * (fd * gd) = x * (fd * gd) * k := by grind
        rw [this, he]
        grind)).1
      rw [e.1] at hc
      exact hm hc
theorem of17_k (k : Nat) (w : World) (h : k ≤ 255) : Calls Try.prog 28 #[.int .i64 (k : Int), .int .i64 1] w (Ret (.agg #[.int .i64 (k : Int), .int .i64 1]) w) ∧ vR (k : Int) 1 = true := by
  have hv : vR (k : Int) 1 = true := v_mk ⟨by omega, by unfold absF; simp⟩ (by omega) (by unfold absF; omega)
  exact ⟨of17_v _ _ w hv, hv⟩
set_option maxRecDepth 100000 in
set_option maxHeartbeats 4000000 in
theorem walk_BeatMultiples (fn fd gn gd p q n : Int) (w : World) (_ : (Lit.int .i64 fn).wf = true) (_ : (Lit.int .i64 fd).wf = true) (_ : (Lit.int .i64 gn).wf = true) (_ : (Lit.int .i64 gd).wf = true) (wp : (Lit.int .u8 p).wf = true) (wq : (Lit.int .u8 q).wf = true) (wn : (Lit.int .u8 n).wf = true) :
    Calls Try.prog 6 #[.agg #[.int .i64 fn, .int .i64 fd], .agg #[.int .i64 gn, .int .i64 gd], .int .u8 p, .int .u8 q, .int .u8 n] w (Ret (.bool true) w) := by
  have HH := Lib.hid (fun w => head17_c w)
  have u8 : ∀ x : Int, (Lit.int .u8 x).wf = true → 0 ≤ x ∧ x ≤ 255 := fun x hx => by
    have h1 : (decide ((0 : Int) ≤ x) && decide (x ≤ 255)) = true := hx
    simpa using h1
  obtain ⟨p1, p2⟩ := u8 p wp
  obtain ⟨q1, q2⟩ := u8 q wq
  obtain ⟨n1, n2⟩ := u8 n wn
  clear u8 wp wq wn
  have mp := mul2_bd (A := 255) (B := 255) (x := n) (y := p) (by omega) (by omega) (by omega) (by omega)
  have mq := mul2_bd (A := 255) (B := 255) (x := n) (y := q) (by omega) (by omega) (by omega) (by omega)
  have hR1 := fun w => Rate_c fn fd gn gd p q w
  have hR2 := fun w => Rate_c fn fd gn gd (n * p) (n * q) w
  simp only [raV_eq] at hR1 hR2
  obtain ⟨P, hP⟩ : ∃ P : Int, P = n * p := ⟨_, rfl⟩
  obtain ⟨Q, hQ⟩ : ∃ Q : Int, Q = n * q := ⟨_, rfl⟩
  have w1 : IntKind.i64.wrap (n * p) = P := by rw [hP, IntKind.wrap_i64]; omega
  have w2 : IntKind.i64.wrap (n * q) = Q := by rw [hQ, IntKind.wrap_i64]; omega
  have hlaw : raE fn fd gn gd p q = 0 → 1 ≤ n → P ≤ 64 → Q ≤ 64 → _ := fun h1 h2 h3 h4 => mult_law h1 h2 (hP ▸ h3) (hQ ▸ h4)
  obtain ⟨hof, hvk⟩ := of17_k n.toNat w (by omega)
  have hof := fun w => (of17_k n.toNat w (by omega)).1
  have hnn : ((n.toNat : Nat) : Int) = n := by omega
  rw [hnn] at hvk
  simp only [hnn] at hof
  have hM := fun w => RMul_c (raX fn fd gn gd p q) (raY fn fd gn gd p q) n 1 w
  have hmv := fun h => mulV_k (x := raX fn fd gn gd p q) (y := raY fn fd gn gd p q) h hvk
  have hspec := fun h => (ra_spec (fn := fn) (fd := fd) (gn := gn) (gd := gd) (p := p) (q := q) h).2.1
  rw [← hP, ← hQ] at hR2 hlaw
  clear hP hQ hnn mp mq hvk
  generalize raX fn fd gn gd P Q = x2 at *
  generalize raY fn fd gn gd P Q = y2 at *
  generalize raE fn fd gn gd P Q = e2 at *
  generalize raX fn fd gn gd p q = x1 at *
  generalize raY fn fd gn gd p q = y1 at *
  generalize raE fn fd gn gd p q = e1 at *
  have HO := Lib.hid hof
  clear hof
  have hw : (e1 != 0) = true ∨ (e1 = 0 ∧ (n == 0) = true) ∨ (e1 = 0 ∧ (n == 0) = false ∧ 64 < P) ∨ (e1 = 0 ∧ (n == 0) = false ∧ P ≤ 64 ∧ 64 < Q) ∨ (e1 = 0 ∧ (n == 0) = false ∧ P ≤ 64 ∧ Q ≤ 64) := by
    by_cases h1 : e1 = 0
    · by_cases h2 : n = 0
      · exact Or.inr (Or.inl ⟨h1, by simpa using h2⟩)
      · have h2' : (n == 0) = false := by simpa using h2
        by_cases h3 : P ≤ 64
        · by_cases h4 : Q ≤ 64
          · exact Or.inr (Or.inr (Or.inr (Or.inr ⟨h1, h2', h3, h4⟩)))
          · exact Or.inr (Or.inr (Or.inr (Or.inl ⟨h1, h2', h3, by omega⟩)))
        · exact Or.inr (Or.inr (Or.inl ⟨h1, h2', by omega⟩))
    · exact Or.inl (by simpa using h1)
  rcases hw with h1 | ⟨rfl, h2⟩ | ⟨rfl, h2, h3⟩ | ⟨rfl, h2, h3, h4⟩ | ⟨rfl, h2, h3, h4⟩
  case inr.inr.inr.inr =>
    have hn1 : 1 ≤ n := by
      have : ¬ n = 0 := by simpa using h2
      omega
    have hl := hlaw rfl hn1 h3 h4
    rw [hmv (rt_v (hspec rfl))] at hM
    unfold mkV at hM
    have hyd := (rt_of (hspec rfl)).2.2.1
    have hbad := fun h => mkE_bad (n := x1 * n) (d := y1 * 1) h
    clear hlaw hspec hmv
    generalize mkN (x1 * n) (y1 * 1) = X at *
    generalize mkD (x1 * n) (y1 * 1) = Y at *
    generalize mkE (x1 * n) (y1 * 1) = E at *
    rcases hl with ⟨rfl, rfl, rfl, rfl⟩ | ⟨hE, rfl⟩
    · have H1 := Lib.hid hR1
      have H2 := Lib.hid hR2
      have HM := Lib.hid hM
      clear hR1 hR2 hM hbad
      go_enter Try.func6, Try.ntmps6
      go_wp2_with fail
      ((with_reducible refine (HH.out _).mono ?_); rintro e v1 ⟨rfl, b1⟩)
      obtain ⟨hz1, hc1, hf1⟩ := bcl b1 (by first | (simp; rfl) | rfl)
      go_wp2_with fail
      ((with_reducible refine (H1.out _).mono ?_); rintro e v2 ⟨rfl, b2⟩)
      obtain ⟨hz2, hc2, hf2⟩ := bcl b2 (by first | (simp; rfl) | rfl)
      go_wp2_with fail
      ((with_reducible refine (H2.out _).mono ?_); rintro e v3 ⟨rfl, b3⟩)
      obtain ⟨hz3, hc3, hf3⟩ := bcl b3 (by first | (simp; rfl) | rfl)
      go_wp2_with fail
      refine wp_letter ?_
      intro W0 hW0
      have k0 : Below w.heap.size w W0 := by
        rw [hW0]
        repeat (first | (with_reducible refine bl_alloc ?_ _) | (with_reducible refine bl_last (by assumption) ?_) | (with_reducible exact bl_refl _))
      have R0 : Blk W0 v2.heap.size 23 #[.int .i64 x1, .int .i64 y1] := by
        rw [hW0]
        repeat (first | (with_reducible exact Blk.new _ _ _) | (with_reducible refine blk_last ?_ (by assumption)) | (with_reducible refine Blk.alloc ?_ _))
      have S0 : Blk W0 v3.heap.size 23 #[.int .i64 x2, .int .i64 y2] := by
        rw [hW0]
        repeat (first | (with_reducible exact Blk.new _ _ _) | (with_reducible refine blk_last ?_ (by assumption)) | (with_reducible refine Blk.alloc ?_ _))
      have cR0 := R0.cell 0
      have cR1 := R0.cell 1
      have zR := R0.lt
      have zS := S0.lt
      simp only [List.getElem?_toArray, List.getElem?_cons_zero, List.getElem?_cons_succ] at cR0 cR1
      clear hW0 hc1 hf1 hc2 hf2 hc3 hf3
      (refine wp_region_alloc [0,1,2,3,4,5,6] [6] [8,9] 7 23 #[.int .i64 0, .int .i64 0] _ (by kernel_rfl) (by kernel_rfl) (by kernel_rfl) (by rfl) (by repeat (first | exact panic_body | refine panic_then ?_ | refine panic_block ?_)) rfl (fun _ _ => by go_simp) ?_
       simp only [pickI, pick, List.getElem?_cons_succ, List.getElem?_cons_zero]
       iterate 7 (first
         | (refine headZ_val (by rfl) (by rfl) ?_
            apply Exists.intro
            refine ⟨fun X hX => ?_, ?_⟩
            · (obtain ⟨qz, qc, qf⟩ := bcl hX.out (by first | (simp; rfl) | rfl)
               go_simp
               first | done | (go_at_call 28; ((with_reducible refine (HO.out _).mono ?_); rintro e w2 ⟨rfl, hb2⟩; exact ⟨rfl, hb2⟩)) | (go_at_call 27; ((with_reducible refine (HM.out _).mono ?_); rintro e w2 ⟨rfl, hb2⟩; exact ⟨rfl, hb2⟩)) | rfl | exact ⟨rfl, rfl⟩)
            simp only [Act.put, List.setIfInBounds_toArray, List.set_cons_zero, List.set_cons_succ])
         | (refine headZ_pure (by rfl) (by rfl) ?_
            apply Exists.intro
            refine ⟨fun X => ?_, ?_⟩
            · (go_simp
               first | done | rfl)
            simp only [Act.put, List.setIfInBounds_toArray, List.set_cons_zero, List.set_cons_succ])
         | (refine headZ_pass (by rfl) ?_
            simp only [Act.put, List.setIfInBounds_toArray, List.set_cons_zero, List.set_cons_succ]))
       refine headZ_nil ?_
       intro w' Bq hw' hBq hBk
       have hb := hw'.out
       clear hw'
       try simp only [Act.put, List.setIfInBounds_toArray, List.set_cons_zero, List.set_cons_succ]
       obtain ⟨hz, hc, hf⟩ := bcl hb (by first | (simp; rfl) | rfl))
      have u0 := hBk.cell 0
      have u1 := hBk.cell 1
      have f0 := hBk.frozen 0
      have f1 := hBk.frozen 1
      have S1 := S0.below hb zS
      have cS0 := S1.cell 0
      have cS1 := S1.cell 1
      have nS : v3.heap.size ≠ Bq := by omega
      simp only [List.getElem?_toArray, List.getElem?_cons_zero, List.getElem?_cons_succ] at u0 u1 cS0 cS1
      have zB : w.heap.size ≤ Bq := by have := k0.size; omega
      clear hc hf cR0 cR1
      go_wp2
      go_ret
      exact ⟨rfl, bl_set' zB (bl_set' zB (bl_trans k0 hb))⟩
    · obtain ⟨g1, g2⟩ := hbad (by simpa using hE)
      rw [g1, g2] at hM
      have H1 := Lib.hid hR1
      have H2 := Lib.hid hR2
      have HM := Lib.hid hM
      clear hR1 hR2 hM hbad g1 g2
      go_enter Try.func6, Try.ntmps6
      go_wp2_with fail
      ((with_reducible refine (HH.out _).mono ?_); rintro e v1 ⟨rfl, b1⟩)
      obtain ⟨hz1, hc1, hf1⟩ := bcl b1 (by first | (simp; rfl) | rfl)
      go_wp2_with fail
      ((with_reducible refine (H1.out _).mono ?_); rintro e v2 ⟨rfl, b2⟩)
      obtain ⟨hz2, hc2, hf2⟩ := bcl b2 (by first | (simp; rfl) | rfl)
      go_wp2_with fail
      ((with_reducible refine (H2.out _).mono ?_); rintro e v3 ⟨rfl, b3⟩)
      obtain ⟨hz3, hc3, hf3⟩ := bcl b3 (by first | (simp; rfl) | rfl)
      go_wp2_with fail
      refine wp_letter ?_
      intro W0 hW0
      have k0 : Below w.heap.size w W0 := by
        rw [hW0]
        repeat (first | (with_reducible refine bl_alloc ?_ _) | (with_reducible refine bl_last (by assumption) ?_) | (with_reducible exact bl_refl _))
      have R0 : Blk W0 v2.heap.size 23 #[.int .i64 x1, .int .i64 y1] := by
        rw [hW0]
        repeat (first | (with_reducible exact Blk.new _ _ _) | (with_reducible refine blk_last ?_ (by assumption)) | (with_reducible refine Blk.alloc ?_ _))
      have S0 : Blk W0 v3.heap.size 23 #[.int .i64 x2, .int .i64 y2] := by
        rw [hW0]
        repeat (first | (with_reducible exact Blk.new _ _ _) | (with_reducible refine blk_last ?_ (by assumption)) | (with_reducible refine Blk.alloc ?_ _))
      have cR0 := R0.cell 0
      have cR1 := R0.cell 1
      have zR := R0.lt
      have zS := S0.lt
      simp only [List.getElem?_toArray, List.getElem?_cons_zero, List.getElem?_cons_succ] at cR0 cR1
      clear hW0 hc1 hf1 hc2 hf2 hc3 hf3
      (refine wp_region_alloc [0,1,2,3,4,5,6] [6] [8,9] 7 23 #[.int .i64 0, .int .i64 0] _ (by kernel_rfl) (by kernel_rfl) (by kernel_rfl) (by rfl) (by repeat (first | exact panic_body | refine panic_then ?_ | refine panic_block ?_)) rfl (fun _ _ => by go_simp) ?_
       simp only [pickI, pick, List.getElem?_cons_succ, List.getElem?_cons_zero]
       iterate 7 (first
         | (refine headZ_val (by rfl) (by rfl) ?_
            apply Exists.intro
            refine ⟨fun X hX => ?_, ?_⟩
            · (obtain ⟨qz, qc, qf⟩ := bcl hX.out (by first | (simp; rfl) | rfl)
               go_simp
               first | done | (go_at_call 28; ((with_reducible refine (HO.out _).mono ?_); rintro e w2 ⟨rfl, hb2⟩; exact ⟨rfl, hb2⟩)) | (go_at_call 27; ((with_reducible refine (HM.out _).mono ?_); rintro e w2 ⟨rfl, hb2⟩; exact ⟨rfl, hb2⟩)) | rfl | exact ⟨rfl, rfl⟩)
            simp only [Act.put, List.setIfInBounds_toArray, List.set_cons_zero, List.set_cons_succ])
         | (refine headZ_pure (by rfl) (by rfl) ?_
            apply Exists.intro
            refine ⟨fun X => ?_, ?_⟩
            · (go_simp
               first | done | rfl)
            simp only [Act.put, List.setIfInBounds_toArray, List.set_cons_zero, List.set_cons_succ])
         | (refine headZ_pass (by rfl) ?_
            simp only [Act.put, List.setIfInBounds_toArray, List.set_cons_zero, List.set_cons_succ]))
       refine headZ_nil ?_
       intro w' Bq hw' hBq hBk
       have hb := hw'.out
       clear hw'
       try simp only [Act.put, List.setIfInBounds_toArray, List.set_cons_zero, List.set_cons_succ]
       obtain ⟨hz, hc, hf⟩ := bcl hb (by first | (simp; rfl) | rfl))
      have u0 := hBk.cell 0
      have u1 := hBk.cell 1
      have f0 := hBk.frozen 0
      have f1 := hBk.frozen 1
      have S1 := S0.below hb zS
      have cS0 := S1.cell 0
      have cS1 := S1.cell 1
      have nS : v3.heap.size ≠ Bq := by omega
      simp only [List.getElem?_toArray, List.getElem?_cons_zero, List.getElem?_cons_succ] at u0 u1 cS0 cS1
      have zB : w.heap.size ≤ Bq := by have := k0.size; omega
      clear hc hf cR0 cR1
      go_wp2
      go_ret
      exact ⟨rfl, bl_set' zB (bl_set' zB (bl_trans k0 hb))⟩
  all_goals
    clear hlaw hM hmv hspec
    have H1 := Lib.hid hR1
    have H2 := Lib.hid hR2
    clear hR1 hR2
    go_enter Try.func6, Try.ntmps6
    go_wp2_with (first | (go_at_call 11; ((with_reducible refine (HH.out _).mono ?_); rintro e w' ⟨rfl, hb⟩; obtain ⟨hz, hc, hf⟩ := bcl hb (by first | (simp; rfl) | rfl))) | (go_at_call 12; ((with_reducible refine (H1.out _).mono ?_); rintro e w' ⟨rfl, hb⟩; obtain ⟨hz, hc, hf⟩ := bcl hb (by first | (simp; rfl) | rfl))) | (go_at_call 12; ((with_reducible refine (H2.out _).mono ?_); rintro e w' ⟨rfl, hb⟩; obtain ⟨hz, hc, hf⟩ := bcl hb (by first | (simp; rfl) | rfl))))
    go_ret
    refine ⟨rfl, ?_⟩
    (repeat (first | (with_reducible exact bl_refl _) | (with_reducible refine bl_drew ?_) | (with_reducible refine bl_alloc ?_ _) | (with_reducible refine bl_set' ?_ ?_; · (first | omega | (simp; done) | (simp; omega))) | (with_reducible refine bl_last (by assumption) ?_) | (with_reducible refine bl_drewN ?_ _)))
end Go.Proofs.Ythlnfjllkmielaa
