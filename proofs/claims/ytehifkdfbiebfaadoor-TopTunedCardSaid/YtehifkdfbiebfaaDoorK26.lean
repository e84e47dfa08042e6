/- TopTuned: what a step of the list answers. Plain; and the contract of counted18w17. -/
import Derived.Test.YtehifkdfbiebfaaDoorK25
import Derived.Test.YtehifkdfbiebfaaDoorK03
namespace Go.Proofs.YtehifkdfbiebfaaDoor
open Go Go.RowKit

theorem cmp_sg {an ad bn bd : Int} (ha : vR an ad = true) (hb : vR bn bd = true) : cmpV an ad bn bd = .tuple #[.int .i64 (sgF (an * bd - bn * ad)), .int .i64 0] := cmp_good (by rw [ha, hb]; rfl)
theorem sgF_le {x : Int} (h : sgF x ≤ 0) : x ≤ 0 := by
  unfold sgF at h
  split at h
  · omega
  · split at h
    · omega
    · omega
theorem sgF_ge {x : Int} (h : 0 ≤ sgF x) : 0 ≤ x := by
  unfold sgF at h
  split at h
  · omega
  · omega
theorem sub_ear {e1 e2 : Int} (h : vR e1 e2 = true) : subV 0 1 e1 e2 = .tuple #[.agg #[.int .i64 (-e1), .int .i64 e2], .int .i64 0] := by
  have a := v_of h
  have vn : vR (-e1) e2 = true := v_mk ⟨a.1, by rw [show absF (-e1) = absF e1 from Int.natAbs_neg _]; exact (low_of h).2⟩ (by omega) (by unfold absF; omega)
  have h0 : vR 0 1 = true := by decide
  have d := den_pos h
  rw [subV_eq]
  unfold suN suD suE
  rw [h0, h]
  simp only [Bool.and_self, if_true, Int.one_mul]
  obtain ⟨m1, m2, m3⟩ := mk_of (n := 0 * e2 - e1 * 1) (d := e2) (x := -e1) (y := e2) (by omega) vn (by grind)
  rw [m1, m2, m3]
theorem tn_off {e1 e2 o od : Int} (he : vR e1 e2 = true) (ho : vR o od = true) :
    (∃ c : Int, cmpV o od e1 e2 = .tuple #[.int .i64 c, .int .i64 0] ∧ (c ≤ 0 → Le (o, od) (e1, e2))) ∧
    (∃ d : Int, cmpV o od (-e1) e2 = .tuple #[.int .i64 d, .int .i64 0] ∧ (0 ≤ d → Le (-e1, e2) (o, od))) := by
  have a := v_of he
  have vn : vR (-e1) e2 = true := v_mk ⟨a.1, by rw [show absF (-e1) = absF e1 from Int.natAbs_neg _]; exact (low_of he).2⟩ (by omega) (by unfold absF; omega)
  refine ⟨⟨_, cmp_sg ho he, fun h => ?_⟩, ⟨_, cmp_sg ho vn, fun h => ?_⟩⟩
  · have := sgF_le h
    unfold Le; simp only; omega
  · have := sgF_ge h
    unfold Le; simp only; omega
theorem tn_step {n : Int} {l : List Bt} {f1 f2 e1 e2 : Int} {off : Nat → Int × Int} {g h p : Nat → Int × Int} (hg : runG n l f1 f2 e1 e2 = true)
    (p1 : plO l (f1, f2) (fun _ => (-e1, e2)) l.length = some g) (p2 : plO l (f1, f2) (fun _ => (e1, e2)) l.length = some h) (q : plO l (f1, f2) off l.length = some p) {k : Nat} {b : Bt} (hb : l[k]? = some b) :
    (0 ≤ b.fr ∧ b.fr < n ∧ 0 ≤ b.to ∧ b.to < n) ∧ (-1000000000 ≤ b.rn ∧ b.rn ≤ 1000000000) ∧
    (-1000000000 ≤ adN (sgn b.ab b.rn) b.rd (off k).1 (off k).2 ∧ adN (sgn b.ab b.rn) b.rd (off k).1 (off k).2 ≤ 1000000000) ∧
    addV (sgn b.ab b.rn) b.rd (off k).1 (off k).2 = .tuple #[.agg #[.int .i64 (adN (sgn b.ab b.rn) b.rd (off k).1 (off k).2), .int .i64 (adD (sgn b.ab b.rn) b.rd (off k).1 (off k).2)], .int .i64 0] ∧
    raV (p b.fr.toNat).1 (p b.fr.toNat).2 (p b.to.toNat).1 (p b.to.toNat).2 b.p b.q = .tuple #[.agg #[.int .i64 ((adN (sgn b.ab b.rn) b.rd (off k).1 (off k).2).natAbs : Int), .int .i64 (adD (sgn b.ab b.rn) b.rd (off k).1 (off k).2)], .int .i64 0] ∧
    (∃ c : Int, cmpV b.rn b.rd e1 e2 = .tuple #[.int .i64 c, .int .i64 0] ∧
      (0 ≤ c → suE b.rn b.rd e1 e2 = 0 → adE b.rn b.rd e1 e2 = 0 → ∀ K, K = mvK (g b.fr.toNat).1 (g b.fr.toNat).2 (h b.fr.toNat).1 (h b.fr.toNat).2 b.p b.q (suN b.rn b.rd e1 e2) (suD b.rn b.rd e1 e2) (adN b.rn b.rd e1 e2) (adD b.rn b.rd e1 e2) b.ab → K = 0 →
        mvV (g b.fr.toNat).1 (g b.fr.toNat).2 (h b.fr.toNat).1 (h b.fr.toNat).2 b.p b.q (suN b.rn b.rd e1 e2) (suD b.rn b.rd e1 e2) (adN b.rn b.rd e1 e2) (adD b.rn b.rd e1 e2) b.ab =
          .tuple #[.agg #[.int .i64 (g b.to.toNat).1, .int .i64 (g b.to.toNat).2, .int .i64 (h b.to.toNat).1, .int .i64 (h b.to.toNat).2], .int .i64 0])) := by
  obtain ⟨hv, hs, hr, he2⟩ := run_parts hg
  have hk : k < l.length := (List.getElem?_eq_some_iff.1 hb).1
  obtain ⟨o1, o2, o3, o4, o5, o6, o7⟩ := ok_parts (vld_at hv hb)
  obtain ⟨r1, r2, r3, r4⟩ := rt_of o3
  obtain ⟨g1, g2⟩ := (play_fix hv (Nat.le_refl _) p1).2 k b hk hb
  obtain ⟨h1, h2⟩ := (play_fix hv (Nat.le_refl _) p2).2 k b hk hb
  obtain ⟨q1, q2⟩ := (play_fix hv (Nat.le_refl _) q).2 k b hk hb
  obtain ⟨t1, t2⟩ := tn_rate q1
  have hn := vld_len hv
  have hE : adE (sgn b.ab b.rn) b.rd (off k).1 (off k).2 = 0 := by
    have h' : moE (p b.fr.toNat).1 (p b.fr.toNat).2 b.p b.q (sgn b.ab b.rn) b.rd (off k).1 (off k).2 = 0 := q1
    unfold moE at h'
    split at h'
    · rename_i hh; exact hh.1
    · omega
  have hvS := v_of (ad_spec hE).2.2.1
  have ve := rt_v hr
  have er := (rt_of hr).1
  refine ⟨by omega, by omega, ⟨hvS.2.2.1, hvS.2.2.2.1⟩, t1, ?_, _, cmp_sg (rt_v o3) ve, fun hc s1 s2 K hK h0 => ?_⟩
  · rw [q2]; exact t2
  · rw [g2, h2]
    subst hK
    exact tn_move (rt_v o3) ve er (sgF_ge hc) g1 h1 s1 s2 h0
set_option maxRecDepth 100000 in
set_option maxHeartbeats 4000000 in
theorem counted_c (c tn td rn rd : Int) (w : World) (h : baK c tn td = 0 → (∃ x : Int, decide (x ≤ 0) = true ∧ cmpV (baLN c tn td) (baLD c tn td) rn rd = .tuple #[.int .i64 x, .int .i64 0]) ∧
      (∃ x : Int, decide (x ≤ 0) = true ∧ cmpV rn rd (baHN c tn td) (baHD c tn td) = .tuple #[.int .i64 x, .int .i64 0])) :
    Calls Tryd.prog 24 #[.int .i64 c, .agg #[.int .i64 tn, .int .i64 td], .agg #[.int .i64 rn, .int .i64 rd]] w (Ret (.bool true) w) := by
  have hB := fun w => Band_c c tn td w
  have e : baV c tn td = .tuple #[.agg #[.int .i64 (baLN c tn td), .int .i64 (baLD c tn td), .int .i64 (baHN c tn td), .int .i64 (baHD c tn td)], .int .i64 (baK c tn td)] := rfl
  rw [e] at hB
  clear e
  have HB := Lib.hid hB
  have H1 := Lib.hid (fun w => Cmp_c (baLN c tn td) (baLD c tn td) rn rd w)
  have H2 := Lib.hid (fun w => Cmp_c rn rd (baHN c tn td) (baHD c tn td) w)
  clear hB
  generalize baLN c tn td = l1 at *
  generalize baLD c tn td = l2 at *
  generalize baHN c tn td = h1 at *
  generalize baHD c tn td = h2 at *
  generalize baK c tn td = K at *
  by_cases hK : K = 0
  · subst hK
    obtain ⟨⟨x, hx, e1⟩, ⟨y, hy, e2⟩⟩ := h rfl
    rw [e1] at H1
    rw [e2] at H2
    clear e1 e2 h
    go_enter Tryd.func24, Tryd.ntmps24
    go_wp2_with (first | (go_at_call 73; ((with_reducible refine (HB.out _).mono ?_); rintro e w' ⟨rfl, hb⟩; obtain ⟨hz, hc, hf⟩ := bcl hb (by first | (simp; rfl) | rfl))) | (go_at_call 20; ((with_reducible refine (H1.out _).mono ?_); rintro e w' ⟨rfl, hb⟩; obtain ⟨hz, hc, hf⟩ := bcl hb (by first | (simp; rfl) | rfl))) | (go_at_call 20; ((with_reducible refine (H2.out _).mono ?_); rintro e w' ⟨rfl, hb⟩; obtain ⟨hz, hc, hf⟩ := bcl hb (by first | (simp; rfl) | rfl))))
    go_ret
    refine ⟨rfl, ?_⟩
    (repeat (first | (with_reducible exact bl_refl _) | (with_reducible refine bl_drew ?_) | (with_reducible refine bl_alloc ?_ _) | (with_reducible refine bl_set' ?_ ?_; · (first | omega | (simp; done) | (simp; omega))) | (with_reducible refine bl_last (by assumption) ?_) | (with_reducible refine bl_drewN ?_ _)))
  · have hK' : (K != 0) = true := by simpa using hK
    clear h
    go_enter Tryd.func24, Tryd.ntmps24
    go_wp2_with (go_at_call 73; ((with_reducible refine (HB.out _).mono ?_); rintro e w' ⟨rfl, hb⟩; obtain ⟨hz, hc, hf⟩ := bcl hb (by first | (simp; rfl) | rfl)))
    go_ret
    refine ⟨rfl, ?_⟩
    (repeat (first | (with_reducible exact bl_refl _) | (with_reducible refine bl_drew ?_) | (with_reducible refine bl_alloc ?_ _) | (with_reducible refine bl_set' ?_ ?_; · (first | omega | (simp; done) | (simp; omega))) | (with_reducible refine bl_last (by assumption) ?_) | (with_reducible refine bl_drewN ?_ _)))
end Go.Proofs.YtehifkdfbiebfaaDoor
