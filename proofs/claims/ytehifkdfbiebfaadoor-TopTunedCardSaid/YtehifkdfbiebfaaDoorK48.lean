/- TopTuned: the walk. -/
import Derived.Test.YtehifkdfbiebfaaDoorK26
import Derived.Test.YtehifkdfbiebfaaDoorK18
import Derived.Test.YtehifkdfbiebfaaDoorK47
import Derived.Test.YtehifkdfbiebfaaDoorK22
import Derived.Deep.CutRange
namespace Go.Proofs.YtehifkdfbiebfaaDoor
open Go Go.RowKit

theorem tn_all {off : Nat → Int × Int} {M k : Nat} (h : allV off M = true) (hk : k < M) : vR (off k).1 (off k).2 = true := by
  have := List.all_eq_true.1 h k (by simp [hk])
  simpa using this
set_option maxRecDepth 100000 in
set_option maxHeartbeats 32000000 in
theorem walk_TopTuned (n : Int) (A : Option Addr) (l : List Bt) (cap : Nat) (f1 f2 e1 e2 : Int) (Ao : Option Addr) (M : Nat) (off : Nat → Int × Int) (capo : Nat) (t1 t2 : Int) (w : World) (hlen : l.length ≤ 9223372036854775807) (hl : Lst w w.heap.size A l)
    (hM : M ≤ 9223372036854775807) (ho : RatsR w w.heap.size Ao M off) (hg : LG w) :
    Calls Tryd.prog 4 #[.int .i64 n, .slice A l.length cap, .agg #[.int .i64 f1, .int .i64 f2], .agg #[.int .i64 e1, .int .i64 e2], .slice Ao M capo, .agg #[.int .i64 t1, .int .i64 t2]] w (Ret (.bool true) w) := by
  have HL := Lib.hid hl
  have HO := Lib.hid ho
  have HG := Lib.hid hg
  clear hl ho hg
  go_enter Tryd.func4, Tryd.ntmps4
  go_wp2_with fail
  refine calls_letter ?_
  intro W1 hW1
  have b1 : Below w.heap.size w W1 := by rw [hW1]; (repeat (first | (with_reducible exact bl_refl _) | (with_reducible refine bl_drew ?_) | (with_reducible refine bl_alloc ?_ _) | (with_reducible refine bl_set' ?_ ?_; · (first | omega | (simp; done) | (simp; omega))) | (with_reducible refine bl_last (by assumption) ?_) | (with_reducible refine bl_drewN ?_ _)))
  have F1 : Blk W1 w.heap.size 25 #[.int .i64 f1, .int .i64 f2] := by rw [hW1]; exact ((Blk.new _ _ _).alloc _).alloc _
  have E1 : Blk W1 (w.heap.size + 1) 25 #[.int .i64 e1, .int .i64 e2] := by rw [hW1]; exact (blkAt _ _ _ _ (by simp)).alloc _
  have T1 : Blk W1 (w.heap.size + 1 + 1) 25 #[.int .i64 t1, .int .i64 t2] := by rw [hW1]; exact blkAt _ _ _ _ (by simp)
  clear hW1
  (with_reducible refine (headT_c _ (HG.out.up b1)).mono ?_)
  rintro e W2 ⟨rfl, hb2⟩
  have F2 := F1.below hb2 F1.lt
  have E2 := E1.below hb2 E1.lt
  have T2 := T1.below hb2 T1.lt
  have b2 := bl_trans b1 hb2
  clear F1 E1 T1 b1 hb2 HG
  by_cases h12 : 12 < n
  · go_wp2
    go_ret
    exact ⟨rfl, b2⟩
  have c1 := F2.cell 0
  have c2 := F2.cell 1
  have zF := F2.lt
  simp only [List.getElem?_toArray, List.getElem?_cons_zero, List.getElem?_cons_succ] at c1 c2
  go_wp2_with fail
  (with_reducible refine (Play_u n l f1 f2 M off A Ao cap capo _ (HL.out.up b2) (HO.out.up b2) hlen hM).mono ?_)
  rintro e W3 ⟨hb3, Bf, Nf, cf, k3, rfl, hNf, h3⟩
  have F3 := F2.below hb3 F2.lt
  have E3 := E2.below hb3 E2.lt
  have T3 := T2.below hb3 T2.lt
  have b3 := bl_trans b2 hb3
  clear F2 E2 T2 b2 hb3 c1 c2 zF
  have c1 := F3.cell 0
  have c2 := F3.cell 1
  have zF := F3.lt
  have c3 := E3.cell 0
  have c4 := E3.cell 1
  have zE := E3.lt
  simp only [List.getElem?_toArray, List.getElem?_cons_zero, List.getElem?_cons_succ] at c1 c2 c3 c4
  have H3 := Lib.hid h3
  clear h3
  go_wp2_with fail
  (with_reducible refine (Run_u n l f1 f2 e1 e2 A cap _ (HL.out.up b3) hlen).mono ?_)
  rintro e W4 ⟨hb4, Bb, Nb, cb, k4, rfl, hNb, h4⟩
  have E4 := E3.below hb4 E3.lt
  have T4 := T3.below hb4 T3.lt
  have b4 := bl_trans b3 hb4
  clear F3 E3 T3 b3 c1 c2 c3 c4 zF zE
  have h3 := H3.out
  clear H3
  rcases h3 with h3 | ⟨rfl, p, rfl, hg2, p2, hB2⟩
  · clear h4
    go_wp2
    go_ret
    exact ⟨rfl, b4⟩
  rcases h4 with h4 | ⟨rfl, g, h, rfl, hg1, p1, q1, hB1⟩
  · go_wp2
    go_ret
    exact ⟨rfl, b4⟩
  obtain ⟨hv, hs, hr, he2⟩ := run_parts hg1
  obtain ⟨_, _, hML, hall⟩ := ply_parts hg2
  have hn40 : n ≤ 40 := (vld_len hv).2.1
  have hn1 : 1 ≤ n := (vld_len hv).1
  have HF4 := Lib.hid ((hB2.below hb4).more hb4.size)
  have HB4 := Lib.hid hB1
  have HL4 := Lib.hid (HL.out.up b4)
  have HO4 := Lib.hid (HO.out.up b4)
  have HE4 := Lib.hid E4
  have HT4 := Lib.hid T4
  have HStep := Lib.hid (fun (k : Nat) (b : Bt) (hb : l[k]? = some b) => tn_step (off := off) hg1 p1 q1 p2 hb)
  have HLaw := Lib.hid (fun hall => bounds_law hg1 hg2 hall p1 q1 p2)
  have HV := Lib.hid hall
  have hve := rt_v hr
  have HVe := Lib.hid hve
  have Hb4 := Lib.hid b4
  have HS := Lib.hid (fun w => Sub_c 0 1 e1 e2 w)
  rw [sub_ear hve] at HS
  clear hb4 hg1 p1 q1 p2 hg2 hB1 hB2 hv hs hr hall hve b4 E4 T4 HL HO
  subst hML
  generalize hLL : l.length = L at *
  obtain ⟨N, rfl⟩ : ∃ N : Nat, n = (N : Int) := ⟨n.toNat, by omega⟩
  simp only [Int.toNat_natCast] at *
  go_wp2
  go_loopw [18, 19] (fun u i wr => ∃ (k : Nat) (t : Bool), k ≤ L ∧ i = .int .i64 (k : Int) ∧ u = .bool t ∧ Hid (t = true → ∀ j, j < k → Le (off j) (e1, e2) ∧ Le (-e1, e2) (off j)) ∧ Hid (Below W4.heap.size W4 wr)) (fun _ i _ => L - (intOf i).toNat)
  case atStart => exact ⟨0, true, Nat.zero_le _, rfl, rfl, Lib.hid (fun _ j hj => absurd hj (by omega)), Lib.hid (bl_refl _)⟩
  case round =>
    obtain ⟨k, t, hk, rfl, rfl, HI, HBw⟩ := hrel
    by_cases hlt : k < L
    · as_aux_lemma =>
      have Er := HE4.out.below HBw.out HE4.out.lt
      obtain ⟨bo, oo, rfl, hbo, hco⟩ := HO4.out (by omega)
      have hck := hco k hlt
      have d1 := (HBw.out.cell (p := ⟨bo, oo + k * 2, none⟩) hbo).trans hck.1
      have d2 := (HBw.out.cell (p := ⟨bo, oo + k * 2 + 1, none⟩) hbo).trans hck.2
      have zo : bo < wr.heap.size := by have := HBw.out.size; omega
      have c3 := Er.cell 0
      have c4 := Er.cell 1
      have zE := Er.lt
      simp only [List.getElem?_toArray, List.getElem?_cons_zero, List.getElem?_cons_succ] at c3 c4
      obtain ⟨⟨c, hc, hcl⟩, ⟨d, hd, hdl⟩⟩ := tn_off HVe.out (tn_all HV.out hlt)
      have HC := Lib.hid (fun w => Cmp_c (off k).1 (off k).2 e1 e2 w)
      have HD := Lib.hid (fun w => Cmp_c (off k).1 (off k).2 (-e1) e2 w)
      rw [hc] at HC
      rw [hd] at HD
      have HN := Lib.hid (And.intro hcl hdl)
      have HEr := Lib.hid Er
      clear hc hd hcl hdl hck hco Er hbo
      generalize ho1 : (off k).1 = o1 at *
      generalize ho2 : (off k).2 = o2 at *
      have HOk : Hid (off k = (o1, o2)) := Lib.hid (by rw [← ho1, ← ho2])
      clear ho1 ho2
      have hbw := HBw.out
      go_wp2_with (go_at_call 19; ((with_reducible refine (HS.out _).mono ?_); rintro e w' ⟨rfl, hb⟩; obtain ⟨hz, hc, hf⟩ := bcl hb (by first | (simp; rfl) | rfl)))
      refine wp_letter ?_
      intro Wa hWa
      have ba : Below wr.heap.size wr Wa := by rw [hWa]; (repeat (first | (with_reducible exact bl_refl _) | (with_reducible refine bl_drew ?_) | (with_reducible refine bl_alloc ?_ _) | (with_reducible refine bl_set' ?_ ?_; · (first | omega | (simp; done) | (simp; omega))) | (with_reducible refine bl_last (by assumption) ?_) | (with_reducible refine bl_drewN ?_ _)))
      have La : Blk Wa w'.heap.size 25 #[.int .i64 (-e1), .int .i64 e2] := by rw [hWa]; exact Blk.new _ _ _
      have hwz := hb.size
      clear hWa hb hz hc hf
      have d3 := (ba.cell (p := ⟨bo, oo + k * 2, none⟩) zo).trans d1
      have d4 := (ba.cell (p := ⟨bo, oo + k * 2 + 1, none⟩) zo).trans d2
      have Ea := HEr.out.below ba HEr.out.lt
      have c5 := Ea.cell 0
      have c6 := Ea.cell 1
      have zE' := Ea.lt
      have zo' : bo < Wa.heap.size := by have := ba.size; omega
      simp only [List.getElem?_toArray, List.getElem?_cons_zero, List.getElem?_cons_succ] at c5 c6
      have HLa := Lib.hid La
      have HBa := Lib.hid (bl_trans hbw ba)
      have HWa := Lib.hid ba.size
      clear c3 c4 d1 d2 zE zo La ba Ea
      generalize w'.heap.size = xl at *
      (refine wp_region_ble [0,1,2,3,4,5,6,7,8] [8] [9,10] (by kernel_rfl) (by kernel_rfl) (by rfl) (by repeat (first | (with_reducible refine panic_then ?_) | (with_reducible refine panic_block ?_) | (with_reducible exact panic_body) | exact panic_body | refine panic_then ?_ | refine panic_block ?_)) ?_
       simp only [pickI, pick, List.getElem?_cons_succ, List.getElem?_cons_zero]
       iterate 9 (first
         | (refine head_val (by rfl) (by first | exact wanted_free rfl | rfl) ?_
            apply Exists.intro
            refine ⟨fun X hX => ?_, ?_⟩
            · (obtain ⟨qz, qc, qf⟩ := bcl hX.out (by first | (simp; rfl) | rfl)
               go_simp
               first | done | (go_at_call 20; ((with_reducible refine (HC.out _).mono ?_); rintro e w2 ⟨rfl, hb2⟩; exact ⟨rfl, hX.trans hb2⟩)) | rfl | exact ⟨rfl, rfl⟩)
            simp only [Act.put, List.setIfInBounds_toArray, List.set_cons_zero, List.set_cons_succ])
         | (refine head_pure (by rfl) (by first | exact wanted_free rfl | rfl) ?_
            apply Exists.intro
            refine ⟨fun X => ?_, ?_⟩
            · (go_simp
               first | done | rfl)
            simp only [Act.put, List.setIfInBounds_toArray, List.set_cons_zero, List.set_cons_succ])
         | (refine head_pass (by rfl) ?_
            simp only [Act.put, List.setIfInBounds_toArray, List.set_cons_zero, List.set_cons_succ]))
       refine head_nil ?_
       intro w' hw'
       have hb := hw'.out
       clear hw'
       obtain ⟨hz, hc, hf⟩ := bcl hb (by first | (simp; rfl) | rfl))
      have HBb := Lib.hid (bl_trans HBa.out hb)
      have Lb := HLa.out.below hb HLa.out.lt
      have d5 := (hb.cell (p := ⟨bo, oo + k * 2, none⟩) zo').trans d3
      have d6 := (hb.cell (p := ⟨bo, oo + k * 2 + 1, none⟩) zo').trans d4
      have zo : bo < w'.heap.size := by have := hb.size; omega
      clear hb hz hc hf d3 d4 c5 c6 zE' zo'
      have c5 := Lb.cell 0
      have c6 := Lb.cell 1
      have zL := Lb.lt
      simp only [List.getElem?_toArray, List.getElem?_cons_zero, List.getElem?_cons_succ] at c5 c6
      go_wp2
      (refine wp_region_ble [0,1,2,3,4,5,6,7,8] [8] [9,10] (by kernel_rfl) (by kernel_rfl) (by rfl) (by repeat (first | (with_reducible refine panic_then ?_) | (with_reducible refine panic_block ?_) | (with_reducible exact panic_body) | exact panic_body | refine panic_then ?_ | refine panic_block ?_)) ?_
       simp only [pickI, pick, List.getElem?_cons_succ, List.getElem?_cons_zero]
       iterate 9 (first
         | (refine head_val (by rfl) (by first | exact wanted_free rfl | rfl) ?_
            apply Exists.intro
            refine ⟨fun X hX => ?_, ?_⟩
            · (obtain ⟨qz, qc, qf⟩ := bcl hX.out (by first | (simp; rfl) | rfl)
               go_simp
               first | done | (go_at_call 20; ((with_reducible refine (HD.out _).mono ?_); rintro e w2 ⟨rfl, hb2⟩; exact ⟨rfl, hX.trans hb2⟩)) | rfl | exact ⟨rfl, rfl⟩)
            simp only [Act.put, List.setIfInBounds_toArray, List.set_cons_zero, List.set_cons_succ])
         | (refine head_pure (by rfl) (by first | exact wanted_free rfl | rfl) ?_
            apply Exists.intro
            refine ⟨fun X => ?_, ?_⟩
            · (go_simp
               first | done | rfl)
            simp only [Act.put, List.setIfInBounds_toArray, List.set_cons_zero, List.set_cons_succ])
         | (refine head_pass (by rfl) ?_
            simp only [Act.put, List.setIfInBounds_toArray, List.set_cons_zero, List.set_cons_succ]))
       refine head_nil ?_
       intro w' hw'
       have hb := hw'.out
       clear hw'
       obtain ⟨hz, hc, hf⟩ := bcl hb (by first | (simp; rfl) | rfl))
      have HBc := Lib.hid (bl_trans HBb.out hb)
      clear hb hz hc hf d5 d6 c5 c6 zo zL Lb
      have hL1 : (k : Int) + 1 ≤ 9223372036854775807 := by omega
      go_upto_region 19 with fail
      cases t
      · go_wp2
        go_roundw
        case rel => exact ⟨k + 1, false, by omega, by go_num, rfl, Lib.hid (fun h => by cases h), HBc⟩
        case measure => simp [intOf]; omega
      · by_cases hcd : c ≤ 0
        · by_cases hdd : 0 ≤ d
          · have q1 : decide (c ≤ 0) = true := decide_eq_true hcd
            have q2 : decide (0 ≤ d) = true := decide_eq_true hdd
            have HX : Hid (true = true → ∀ j, j < k + 1 → Le (off j) (e1, e2) ∧ Le (-e1, e2) (off j)) := Lib.hid (fun _ j hj => by
              by_cases ej : j = k
              · rw [ej, HOk.out]; exact ⟨HN.out.1 hcd, HN.out.2 hdd⟩
              · exact HI.out rfl j (by omega))
            clear hcd hdd
            go_wp2
            go_roundw
            case rel => exact ⟨k + 1, true, by omega, by go_num, rfl, HX, HBc⟩
            case measure => simp [intOf]; omega
          · have q1 : decide (c ≤ 0) = true := decide_eq_true hcd
            have q2 : decide (0 ≤ d) = false := decide_eq_false hdd
            clear hcd hdd
            go_wp2
            go_roundw
            case rel => exact ⟨k + 1, false, by omega, by go_num, rfl, Lib.hid (fun h => by cases h), HBc⟩
            case measure => simp [intOf]; omega
        · have q1 : decide (c ≤ 0) = false := decide_eq_false hcd
          clear hcd
          go_wp2
          go_roundw
          case rel => exact ⟨k + 1, false, by omega, by go_num, rfl, Lib.hid (fun h => by cases h), HBc⟩
          case measure => simp [intOf]; omega
    · obtain rfl : k = L := by omega
      have HI0 := HI
      have HB0 := HBw
      go_wp2
      go_loopw [26] (fun i wr => ∃ (j : Nat), j ≤ k ∧ i = .int .i64 (j : Int) ∧ Hid (Below W4.heap.size W4 wr)) (fun i _ => k - (intOf i).toNat)
      case atStart => exact ⟨0, Nat.zero_le _, rfl, HB0⟩
      case round =>
        obtain ⟨j, hj, rfl, HBw⟩ := hrel
        by_cases hlt : j < k
        · as_aux_lemma =>
          obtain ⟨bl, ol, rfl, hbl, hcl⟩ := HL4.out (by omega)
          obtain ⟨x, hx⟩ : ∃ x, l[j]? = some x := ⟨l[j]'(by omega), List.getElem?_eq_getElem _⟩
          obtain ⟨l1, l2, l3, l4, l5, l6, l7⟩ := hcl j x hx
          obtain ⟨⟨r1, r2, r3, r4⟩, ⟨r5, r6⟩, ⟨r7, r8⟩, rA, rR, c, hc, hmv⟩ := HStep.out j x hx
          obtain ⟨fr, tO, pp, pq, rn, rd, ab⟩ := x
          simp only at *
          obtain ⟨F, rfl⟩ : ∃ F : Nat, fr = (F : Int) := ⟨fr.toNat, by omega⟩
          obtain ⟨T, rfl⟩ : ∃ T : Nat, tO = (T : Int) := ⟨tO.toNat, by omega⟩
          simp only [Int.toNat_natCast] at *
          obtain ⟨bf, of, rfl, hbf, hcf⟩ := HF4.out (by omega)
          obtain ⟨bb, ob, rfl, hbb, hcb⟩ := HB4.out (by omega)
          obtain ⟨bo, oo, rfl, hbo, hco⟩ := HO4.out (by omega)
          obtain ⟨pF1, pF2⟩ := hcf F (by omega)
          obtain ⟨pT1, pT2⟩ := hcf T (by omega)
          obtain ⟨gF1, gF2, gF3, gF4⟩ := hcb F (by omega)
          obtain ⟨gT1, gT2, gT3, gT4⟩ := hcb T (by omega)
          obtain ⟨oj1, oj2⟩ := hco j hlt
          clear hcf hcb hco hcl hx
          have HSE : Hid (suE rn rd e1 e2 = suE rn rd e1 e2) := Lib.hid rfl
          obtain ⟨m1, m2, m3, m4, hmV⟩ : ∃ m1 m2 m3 m4 : Int, mvV (g F).1 (g F).2 (h F).1 (h F).2 pp pq (suN rn rd e1 e2) (suD rn rd e1 e2) (adN rn rd e1 e2) (adD rn rd e1 e2) ab = .tuple #[.agg #[.int .i64 m1, .int .i64 m2, .int .i64 m3, .int .i64 m4], .int .i64 (mvK (g F).1 (g F).2 (h F).1 (h F).2 pp pq (suN rn rd e1 e2) (suD rn rd e1 e2) (adN rn rd e1 e2) (adD rn rd e1 e2) ab)] := ⟨_, _, _, _, rfl⟩
          have hMv := fun w => Move_c (g F).1 (g F).2 (h F).1 (h F).2 pp pq (suN rn rd e1 e2) (suD rn rd e1 e2) (adN rn rd e1 e2) (adD rn rd e1 e2) ab w
          rw [hmV] at hMv
          have hmv' := fun h1 h2 h3 => hmv h1 h2 h3 _ rfl
          rw [hmV] at hmv'
          have hSu := fun w => Sub_c rn rd e1 e2 w
          have hAd := fun w => Add_c rn rd e1 e2 w
          simp only [subV_eq, addV_eq] at hSu hAd
          have hCm := fun w => Cmp_c rn rd e1 e2 w
          rw [hc] at hCm
          have hA := fun w => Add_c (sgn ab rn) rd (off j).1 (off j).2 w
          rw [rA] at hA
          have hR := fun w => Rate_c (p F).1 (p F).2 (p T).1 (p T).2 pp pq w
          rw [rR] at hR
          clear hmv hmV hc rA rR HSE
          generalize mvK (g F).1 (g F).2 (h F).1 (h F).2 pp pq (suN rn rd e1 e2) (suD rn rd e1 e2) (adN rn rd e1 e2) (adD rn rd e1 e2) ab = K at *
          generalize adN (sgn ab rn) rd (off j).1 (off j).2 = S at *
          generalize adD (sgn ab rn) rd (off j).1 (off j).2 = Sd at *
          generalize suE rn rd e1 e2 = sE at *
          generalize suN rn rd e1 e2 = sN at *
          generalize suD rn rd e1 e2 = sD at *
          generalize adE rn rd e1 e2 = aE at *
          generalize adN rn rd e1 e2 = aN at *
          generalize adD rn rd e1 e2 = aD at *
          generalize (p F).1 = pf1 at *
          generalize (p F).2 = pf2 at *
          generalize (p T).1 = pt1 at *
          generalize (p T).2 = pt2 at *
          generalize (g F).1 = gf1 at *
          generalize (g F).2 = gf2 at *
          generalize (h F).1 = hf1 at *
          generalize (h F).2 = hf2 at *
          generalize (g T).1 = gt1 at *
          generalize (g T).2 = gt2 at *
          generalize (h T).1 = ht1 at *
          generalize (h T).2 = ht2 at *
          generalize (off j).1 = ov1 at *
          generalize (off j).2 = ov2 at *
          have hCo := fun w => Counts_c (S.natAbs : Int) Sd t1 t2 w
          have hCn := fun (h : coK (S.natAbs : Int) Sd t1 t2 = 0) W => counted_c (coX (S.natAbs : Int) Sd t1 t2) t1 t2 (S.natAbs : Int) Sd W (fun hb => tn_count h (Or.inl rfl) hb)
          have hCn2 := fun (h : coK (S.natAbs : Int) Sd t1 t2 = 0) W => counted_c (coY (S.natAbs : Int) Sd t1 t2) t1 t2 (S.natAbs : Int) Sd W (fun hb => tn_count h (Or.inr rfl) hb)
          unfold coV at hCo
          generalize coK (S.natAbs : Int) Sd t1 t2 = cK at *
          generalize coX (S.natAbs : Int) Sd t1 t2 = cX at *
          generalize coY (S.natAbs : Int) Sd t1 t2 = cY at *
          have HMv := Lib.hid hMv
          have HMe := Lib.hid hmv'
          have HSu := Lib.hid hSu
          have HAd := Lib.hid hAd
          have HCm := Lib.hid hCm
          have HA := Lib.hid hA
          have HR := Lib.hid hR
          have HCo := Lib.hid hCo
          have HCn := Lib.hid hCn
          have HCn2 := Lib.hid hCn2
          clear hMv hmv' hSu hAd hCm hA hR hCo hCn hCn2
          have HPF : Hid (∀ X, Below W4.heap.size W4 X → (X.cell? ⟨bf, of + F * 2, none⟩ = some (.int .i64 pf1) ∧ X.cell? ⟨bf, of + F * 2 + 1, none⟩ = some (.int .i64 pf2) ∧ bf < X.heap.size)) := Lib.hid (fun X hX => ⟨(hX.cell (p := ⟨bf, of + F * 2, none⟩) hbf).trans pF1, (hX.cell (p := ⟨bf, of + F * 2 + 1, none⟩) hbf).trans pF2, by have := hX.size; omega⟩)
          have HPT : Hid (∀ X, Below W4.heap.size W4 X → (X.cell? ⟨bf, of + T * 2, none⟩ = some (.int .i64 pt1) ∧ X.cell? ⟨bf, of + T * 2 + 1, none⟩ = some (.int .i64 pt2) ∧ bf < X.heap.size)) := Lib.hid (fun X hX => ⟨(hX.cell (p := ⟨bf, of + T * 2, none⟩) hbf).trans pT1, (hX.cell (p := ⟨bf, of + T * 2 + 1, none⟩) hbf).trans pT2, by have := hX.size; omega⟩)
          have HGF : Hid (∀ X, Below W4.heap.size W4 X → (X.cell? ⟨bb, ob + F * 4, none⟩ = some (.int .i64 gf1) ∧ X.cell? ⟨bb, ob + F * 4 + 1, none⟩ = some (.int .i64 gf2) ∧ X.cell? ⟨bb, ob + F * 4 + 2, none⟩ = some (.int .i64 hf1) ∧ X.cell? ⟨bb, ob + F * 4 + 3, none⟩ = some (.int .i64 hf2) ∧ bb < X.heap.size)) := Lib.hid (fun X hX => ⟨(hX.cell (p := ⟨bb, ob + F * 4, none⟩) hbb).trans gF1, (hX.cell (p := ⟨bb, ob + F * 4 + 1, none⟩) hbb).trans gF2, (hX.cell (p := ⟨bb, ob + F * 4 + 2, none⟩) hbb).trans gF3, (hX.cell (p := ⟨bb, ob + F * 4 + 3, none⟩) hbb).trans gF4, by have := hX.size; omega⟩)
          have HGT : Hid (∀ X, Below W4.heap.size W4 X → (X.cell? ⟨bb, ob + T * 4, none⟩ = some (.int .i64 gt1) ∧ X.cell? ⟨bb, ob + T * 4 + 1, none⟩ = some (.int .i64 gt2) ∧ X.cell? ⟨bb, ob + T * 4 + 2, none⟩ = some (.int .i64 ht1) ∧ X.cell? ⟨bb, ob + T * 4 + 3, none⟩ = some (.int .i64 ht2) ∧ bb < X.heap.size)) := Lib.hid (fun X hX => ⟨(hX.cell (p := ⟨bb, ob + T * 4, none⟩) hbb).trans gT1, (hX.cell (p := ⟨bb, ob + T * 4 + 1, none⟩) hbb).trans gT2, (hX.cell (p := ⟨bb, ob + T * 4 + 2, none⟩) hbb).trans gT3, (hX.cell (p := ⟨bb, ob + T * 4 + 3, none⟩) hbb).trans gT4, by have := hX.size; omega⟩)
          have HOJ : Hid (∀ X, Below W4.heap.size W4 X → (X.cell? ⟨bo, oo + j * 2, none⟩ = some (.int .i64 ov1) ∧ X.cell? ⟨bo, oo + j * 2 + 1, none⟩ = some (.int .i64 ov2) ∧ bo < X.heap.size)) := Lib.hid (fun X hX => ⟨(hX.cell (p := ⟨bo, oo + j * 2, none⟩) hbo).trans oj1, (hX.cell (p := ⟨bo, oo + j * 2 + 1, none⟩) hbo).trans oj2, by have := hX.size; omega⟩)
          clear pF1 pF2 pT1 pT2 gF1 gF2 gF3 gF4 gT1 gT2 gT3 gT4 oj1 oj2
          have hbw := HBw.out
          have y1 := (hbw.cell (p := ⟨bl, ol + j * 7, none⟩) hbl).trans l1
          have y2 := (hbw.cell (p := ⟨bl, ol + j * 7 + 1, none⟩) hbl).trans l2
          have y3 := (hbw.cell (p := ⟨bl, ol + j * 7 + 2, none⟩) hbl).trans l3
          have y4 := (hbw.cell (p := ⟨bl, ol + j * 7 + 3, none⟩) hbl).trans l4
          have y5 := (hbw.cell (p := ⟨bl, ol + j * 7 + 4, none⟩) hbl).trans l5
          have y6 := (hbw.cell (p := ⟨bl, ol + j * 7 + 5, none⟩) hbl).trans l6
          have y7 := (hbw.cell (p := ⟨bl, ol + j * 7 + 6, none⟩) hbl).trans l7
          have zl : bl < wr.heap.size := by have := hbw.size; omega
          clear l1 l2 l3 l4 l5 l6 l7
          have hj1 : IntKind.i64.wrap ((j : Int) + 1) = (j : Int) + 1 := by rw [IntKind.wrap_i64]; omega
          go_upto_if 156 with fail
          refine wp_letter ?_
          intro W5 hW5
          have b5 : Below wr.heap.size wr W5 := by rw [hW5]; (repeat (first | (with_reducible exact bl_refl _) | (with_reducible refine bl_drew ?_) | (with_reducible refine bl_alloc ?_ _) | (with_reducible refine bl_set' ?_ ?_; · (first | omega | (simp; done) | (simp; omega))) | (with_reducible refine bl_last (by assumption) ?_) | (with_reducible refine bl_drewN ?_ _)))
          have A5 : Blk W5 wr.heap.size 39 #[.int .i64 (F : Int), .int .i64 (T : Int), .int .i64 pp, .int .i64 pq, .int .i64 rn, .int .i64 rd, .bool ab] := by
            rw [hW5]
            (repeat (first | (with_reducible assumption) | (with_reducible apply Blk.new) | (with_reducible exact blkAt _ _ _ _ (by simp; done)) | (with_reducible apply blk_st2) | (with_reducible apply Blk.alloc)))
          have C5 : Blk W5 (wr.heap.size + 1) 25 #[.int .i64 rn, .int .i64 rd] := by
            rw [hW5]
            (repeat (first | (with_reducible assumption) | (with_reducible apply Blk.new) | (with_reducible exact blkAt _ _ _ _ (by simp; done)) | (with_reducible apply blk_st2) | (with_reducible apply Blk.alloc)))
          have B5 := bl_trans hbw b5
          clear hW5 y1 y2 y3 y4 y5 y6 y7 zl hbl b5
          have hw0 : W4.heap.size ≤ wr.heap.size := hbw.size
          generalize wr.heap.size = a27 at *
          have ya_6 := A5.cell 6
          simp only [List.getElem?_toArray, List.getElem?_cons_zero, List.getElem?_cons_succ] at ya_6
          have zya := A5.lt
          go_cut [] from 142 to 302 (fun W => Hid (Below W4.heap.size W4 W) ∧ Hid (Blk W a27 39 #[.int .i64 (F : Int), .int .i64 (T : Int), .int .i64 pp, .int .i64 pq, .int .i64 rn, .int .i64 rd, .bool ab]) ∧ Hid (Blk W (a27 + 1) 25 #[.int .i64 (sgn ab rn), .int .i64 rd]))
          case first =>
            as_aux_lemma =>
            cases ab
            · have wn : IntKind.i64.wrap (-rn) = -rn := by rw [IntKind.wrap_i64]; omega
              have yc_0 := C5.cell 0
              have yc_1 := C5.cell 1
              simp only [List.getElem?_toArray, List.getElem?_cons_zero, List.getElem?_cons_succ] at yc_0 yc_1
              have zyc := C5.lt
              have fc := C5.frozen 0
              go_wp2
              go_meet
              case rel => exact ⟨bl_set' (by show W4.heap.size ≤ a27 + 1; omega) B5, A5.far (by show a27 ≠ a27 + 1; omega) _, C5.set_ 0 _⟩
            · go_wp2
              go_meet
              case rel => exact ⟨B5, A5, C5⟩
          case rest =>
          as_aux_lemma =>
          obtain ⟨HB5, HA5, HC5⟩ := hcut
          clear A5 C5 B5 ya_6 zya
          have xb := HB5.out
          have xa := HA5.out
          have xc := HC5.out
          obtain ⟨oj0, oj1, zoj⟩ := HOJ.out _ xb
          have c_0 := xc.cell 0
          have c_1 := xc.cell 1
          simp only [List.getElem?_toArray, List.getElem?_cons_zero, List.getElem?_cons_succ] at c_0 c_1
          have zc := xc.lt
          go_wp2
          (refine wp_region_alloc [0,1,2,3,4,5,6,7,8] [8] [10,11] 9 25 #[.int .i64 0, .int .i64 0] _ (by kernel_rfl) (by kernel_rfl) (by kernel_rfl) (by rfl) (by repeat (first | (with_reducible refine panic_then ?_) | (with_reducible refine panic_block ?_) | (with_reducible exact panic_body) | exact panic_body | refine panic_then ?_ | refine panic_block ?_)) rfl (fun _ _ => by go_simp) ?_
           simp only [pickI, pick, List.getElem?_cons_succ, List.getElem?_cons_zero]
           iterate 9 (first
             | (refine headZ_val (by rfl) (by first | exact wanted_free rfl | rfl) ?_
                apply Exists.intro
                refine ⟨fun X hX => ?_, ?_⟩
                · (obtain ⟨qz, qc, qf⟩ := bcl hX.out (by first | (simp; rfl) | rfl)
                   go_simp
                   first | done | (go_at_call 21; ((with_reducible refine (HA.out _).mono ?_); rintro e w2 ⟨rfl, hb2⟩; exact ⟨rfl, hb2⟩)) | rfl | exact ⟨rfl, rfl⟩)
                simp only [Act.put, List.setIfInBounds_toArray, List.set_cons_zero, List.set_cons_succ])
             | (refine headZ_pure (by rfl) (by first | exact wanted_free rfl | rfl) ?_
                apply Exists.intro
                refine ⟨fun X => ?_, ?_⟩
                · (go_simp
                   first | done | rfl)
                simp only [Act.put, List.setIfInBounds_toArray, List.set_cons_zero, List.set_cons_succ])
             | (refine headZ_pass (by rfl) ?_
                simp only [Act.put, List.setIfInBounds_toArray, List.set_cons_zero, List.set_cons_succ]))
           refine headZ_nil ?_
           intro w' Bq hw' hBq hBk
           have hb := hw'.out
           clear hw'
           try simp only [List.setIfInBounds_toArray, List.set_cons_zero, List.set_cons_succ]
           obtain ⟨hz, hc, hf⟩ := bcl hb (by first | (simp; rfl) | rfl))
          have u0 := hBk.cell 0
          have u1 := hBk.cell 1
          have v0 := hBk.frozen 0
          have v1 := hBk.frozen 1
          have vz := hBk.lt
          simp only [List.getElem?_toArray, List.getElem?_cons_zero, List.getElem?_cons_succ] at u0 u1
          have b6 := bl_trans xb hb
          have a6 := xa.below hb xa.lt
          have g0 : W4.heap.size ≤ Bq := Nat.le_trans xb.size hBq
          have g1 : a27 ≠ Bq := by have := xa.lt; omega
          clear oj0 oj1 zoj c_0 c_1 zc hz hc hf xb xa xc hb HB5 HA5 HC5
          go_upto_if 172 with fail
          refine wp_letter ?_
          intro W6 hW6
          have B6 : Below W4.heap.size W4 W6 := by rw [hW6]; exact bl_set' g0 (bl_set' g0 b6)
          have A6 : Blk W6 a27 39 #[.int .i64 (F : Int), .int .i64 (T : Int), .int .i64 pp, .int .i64 pq, .int .i64 rn, .int .i64 rd, .bool ab] := by rw [hW6]; exact (a6.far g1 _).far g1 _
          have S6 : Blk W6 Bq 25 #[.int .i64 S, .int .i64 Sd] := by rw [hW6]; exact (hBk.set_ 0 _).set_ 1 _
          clear hW6 b6 a6 u0 u1 v0 v1 vz hBk
          generalize Bq = a29 at *
          have s_0 := S6.cell 0
          have s_1 := S6.cell 1
          simp only [List.getElem?_toArray, List.getElem?_cons_zero, List.getElem?_cons_succ] at s_0 s_1
          have zs := S6.lt
          have fs0 := S6.frozen 0
          go_cut [] from 142 to 302 (fun W => Hid (Below W4.heap.size W4 W) ∧ Hid (Blk W a27 39 #[.int .i64 (F : Int), .int .i64 (T : Int), .int .i64 pp, .int .i64 pq, .int .i64 rn, .int .i64 rd, .bool ab]) ∧ Hid (Blk W a29 25 #[.int .i64 (S.natAbs : Int), .int .i64 Sd]))
          case first =>
            as_aux_lemma =>
            by_cases hneg : S < 0
            · have wn : IntKind.i64.wrap (-S) = -S := by rw [IntKind.wrap_i64]; omega
              have wa : (S.natAbs : Int) = -S := by omega
              go_wp2
              go_meet
              case rel => exact ⟨bl_set' g0 B6, A6.far g1 _, Lib.hid (by rw [wa]; exact S6.set_ 0 _)⟩
            · have wa : (S.natAbs : Int) = S := by omega
              go_wp2
              go_meet
              case rel => exact ⟨B6, A6, Lib.hid (by rw [wa]; exact S6)⟩
          case rest =>
          as_aux_lemma =>
          obtain ⟨HB6, HA6, HS6⟩ := hcut
          clear A6 B6 S6 fs0 s_0 s_1 zs
          have xb := HB6.out
          have xa := HA6.out
          have xs := HS6.out
          obtain ⟨pf0, pf1, zpf⟩ := HPF.out _ xb
          obtain ⟨pt0, pt1, zpt⟩ := HPT.out _ xb
          have a_0 := xa.cell 0
          have a_1 := xa.cell 1
          have a_2 := xa.cell 2
          have a_3 := xa.cell 3
          simp only [List.getElem?_toArray, List.getElem?_cons_zero, List.getElem?_cons_succ] at a_0 a_1 a_2 a_3
          have za := xa.lt
          go_wp2
          (refine wp_region_alloc [0,1,2,3,4,5,6,7,8,9,10,11,12,13,14,15,16,17] [17] [19,20] 18 25 #[.int .i64 0, .int .i64 0] _ (by kernel_rfl) (by kernel_rfl) (by kernel_rfl) (by rfl) (by repeat (first | (with_reducible refine panic_then ?_) | (with_reducible refine panic_block ?_) | (with_reducible exact panic_body) | exact panic_body | refine panic_then ?_ | refine panic_block ?_)) rfl (fun _ _ => by go_simp) ?_
           simp only [pickI, pick, List.getElem?_cons_succ, List.getElem?_cons_zero]
           iterate 18 (first
             | (refine headZ_val (by rfl) (by first | exact wanted_free rfl | rfl) ?_
                apply Exists.intro
                refine ⟨fun X hX => ?_, ?_⟩
                · (obtain ⟨qz, qc, qf⟩ := bcl hX.out (by first | (simp; rfl) | rfl)
                   go_simp
                   first | done | (go_at_call 22; ((with_reducible refine (HR.out _).mono ?_); rintro e w2 ⟨rfl, hb2⟩; exact ⟨rfl, hb2⟩)) | rfl | exact ⟨rfl, rfl⟩)
                simp only [Act.put, List.setIfInBounds_toArray, List.set_cons_zero, List.set_cons_succ])
             | (refine headZ_pure (by rfl) (by first | exact wanted_free rfl | rfl) ?_
                apply Exists.intro
                refine ⟨fun X => ?_, ?_⟩
                · (go_simp
                   first | done | rfl)
                simp only [Act.put, List.setIfInBounds_toArray, List.set_cons_zero, List.set_cons_succ])
             | (refine headZ_pass (by rfl) ?_
                simp only [Act.put, List.setIfInBounds_toArray, List.set_cons_zero, List.set_cons_succ]))
           refine headZ_nil ?_
           intro w' Bq hw' hBq hBk
           have hb := hw'.out
           clear hw'
           try simp only [List.setIfInBounds_toArray, List.set_cons_zero, List.set_cons_succ]
           obtain ⟨hz, hc, hf⟩ := bcl hb (by first | (simp; rfl) | rfl))
          have u0 := hBk.cell 0
          have u1 := hBk.cell 1
          have v0 := hBk.frozen 0
          have v1 := hBk.frozen 1
          have vz := hBk.lt
          simp only [List.getElem?_toArray, List.getElem?_cons_zero, List.getElem?_cons_succ] at u0 u1
          have b7 := bl_trans xb hb
          have a7 := xa.below hb xa.lt
          have s7 := xs.below hb xs.lt
          have g0 : W4.heap.size ≤ Bq := Nat.le_trans xb.size hBq
          have g1 : a27 ≠ Bq := by have := xa.lt; omega
          have g2 : a29 ≠ Bq := by have := xs.lt; omega
          clear pf0 pf1 zpf pt0 pt1 zpt a_0 a_1 a_2 a_3 za hz hc hf xb xa xs hb HB6 HA6 HS6
          go_upto_region 31 with fail
          refine wp_letter ?_
          intro W7 hW7
          have B7 : Below W4.heap.size W4 W7 := by rw [hW7]; exact bl_set' g0 (bl_set' g0 b7)
          have A7 : Blk W7 a27 39 #[.int .i64 (F : Int), .int .i64 (T : Int), .int .i64 pp, .int .i64 pq, .int .i64 rn, .int .i64 rd, .bool ab] := by rw [hW7]; exact (a7.far g1 _).far g1 _
          have S7 : Blk W7 a29 25 #[.int .i64 (S.natAbs : Int), .int .i64 Sd] := by rw [hW7]; exact (s7.far g2 _).far g2 _
          have R7 : Blk W7 Bq 25 #[.int .i64 (S.natAbs : Int), .int .i64 Sd] := by rw [hW7]; exact (hBk.set_ 0 _).set_ 1 _
          have T7 := HT4.out.below B7 HT4.out.lt
          clear hW7 b7 a7 s7 u0 u1 v0 v1 vz hBk
          generalize Bq = a31 at *
          generalize (S.natAbs : Int) = SA at *
          have s_0 := S7.cell 0
          have s_1 := S7.cell 1
          simp only [List.getElem?_toArray, List.getElem?_cons_zero, List.getElem?_cons_succ] at s_0 s_1
          have zs := S7.lt
          have r_0 := R7.cell 0
          have r_1 := R7.cell 1
          simp only [List.getElem?_toArray, List.getElem?_cons_zero, List.getElem?_cons_succ] at r_0 r_1
          have zr := R7.lt
          have t_0 := T7.cell 0
          have t_1 := T7.cell 1
          simp only [List.getElem?_toArray, List.getElem?_cons_zero, List.getElem?_cons_succ] at t_0 t_1
          have zt := T7.lt
          have HB7 := Lib.hid B7
          have HA7 := Lib.hid A7
          have HR7 := Lib.hid R7
          clear B7 A7 R7 T7 S7
          go_upto_region 34 with (go_at_call 23; ((with_reducible refine (HCo.out _).mono ?_); rintro e w' ⟨rfl, hb⟩; obtain ⟨hz, hc, hf⟩ := bcl hb (by first | (simp; rfl) | rfl)))
          have B8 := bl_trans HB7.out hb
          have A8 := HA7.out.below hb HA7.out.lt
          have R8 := HR7.out.below hb HR7.out.lt
          have T8 := HT4.out.below B8 HT4.out.lt
          clear s_0 s_1 zs r_0 r_1 zr t_0 t_1 zt hz hc hf hb HB7 HA7 HR7
          have r_0 := R8.cell 0
          have r_1 := R8.cell 1
          simp only [List.getElem?_toArray, List.getElem?_cons_zero, List.getElem?_cons_succ] at r_0 r_1
          have zr := R8.lt
          have t_0 := T8.cell 0
          have t_1 := T8.cell 1
          simp only [List.getElem?_toArray, List.getElem?_cons_zero, List.getElem?_cons_succ] at t_0 t_1
          have zt := T8.lt
          have HB8 := Lib.hid B8
          have HA8 := Lib.hid A8
          clear B8 A8 R8 T8
          go_cut [240] from 142 to 302 (fun u W => u = .bool false ∧ Hid (Below W4.heap.size W4 W) ∧ Hid (Blk W a27 39 #[.int .i64 (F : Int), .int .i64 (T : Int), .int .i64 pp, .int .i64 pq, .int .i64 rn, .int .i64 rd, .bool ab]))
          case first =>
            as_aux_lemma =>
            by_cases hck : cK = 0
            · have HC1 := Lib.hid (HCn.out hck)
              have HC2 := Lib.hid (HCn2.out hck)
              have hckb : (cK == 0) = true := by rw [hck]; rfl
              clear hck
              go_wp2_with (first | (go_at_call 24; ((with_reducible refine (HC1.out _).mono ?_); rintro e v1 ⟨rfl, k1⟩; obtain ⟨hz, hc, hf⟩ := bcl k1 (by first | (simp; rfl) | rfl))) | (go_at_call 24; ((with_reducible refine (HC2.out _).mono ?_); rintro e v2 ⟨rfl, k2⟩; obtain ⟨hz, hc, hf⟩ := bcl k2 (by first | (simp; rfl) | rfl))))
              go_meet
              case rel => exact ⟨rfl, Lib.hid (bl_trans (bl_trans HB8.out k1) k2), Lib.hid (blk_up (blk_up HA8.out k1) k2)⟩
            · have hckb : (cK == 0) = false := by rw [beq_eq_false_iff_ne]; exact hck
              clear hck
              go_wp2
              go_meet
              case rel => exact ⟨rfl, HB8, HA8⟩
          case rest =>
          as_aux_lemma =>
          obtain ⟨rfl, HB9, HA9⟩ := hcut
          clear r_0 r_1 zr t_0 t_1 zt HB8 HA8
          have B9 := HB9.out
          have A9 := HA9.out
          have E9 := HE4.out.below B9 HE4.out.lt
          have a_4 := A9.cell 4
          have a_5 := A9.cell 5
          simp only [List.getElem?_toArray, List.getElem?_cons_zero, List.getElem?_cons_succ] at a_4 a_5
          have za := A9.lt
          have e_0 := E9.cell 0
          have e_1 := E9.cell 1
          simp only [List.getElem?_toArray, List.getElem?_cons_zero, List.getElem?_cons_succ] at e_0 e_1
          have ze := E9.lt
          clear A9 B9 E9
          go_wp2_with fail
          ((with_reducible refine (HCm.out _).mono ?_); rintro e U1 ⟨rfl, d1⟩)
          have B9 := bl_trans HB9.out d1
          have A9 := HA9.out.below d1 HA9.out.lt
          have E9 := HE4.out.below B9 HE4.out.lt
          have HB1 := Lib.hid B9
          have HA1 := Lib.hid A9
          clear a_4 a_5 za e_0 e_1 ze d1 HB9 HA9
          have a_4 := A9.cell 4
          have a_5 := A9.cell 5
          simp only [List.getElem?_toArray, List.getElem?_cons_zero, List.getElem?_cons_succ] at a_4 a_5
          have za := A9.lt
          have e_0 := E9.cell 0
          have e_1 := E9.cell 1
          simp only [List.getElem?_toArray, List.getElem?_cons_zero, List.getElem?_cons_succ] at e_0 e_1
          have ze := E9.lt
          clear A9 B9 E9
          go_wp2_with fail
          ((with_reducible refine (HSu.out _).mono ?_); rintro e U2 ⟨rfl, d2⟩)
          have B9 := bl_trans HB1.out d2
          have A9 := HA1.out.below d2 HA1.out.lt
          have E9 := HE4.out.below B9 HE4.out.lt
          have HB2 := Lib.hid B9
          have HA2 := Lib.hid A9
          clear a_4 a_5 za e_0 e_1 ze d2 HB1 HA1
          have a_4 := A9.cell 4
          have a_5 := A9.cell 5
          simp only [List.getElem?_toArray, List.getElem?_cons_zero, List.getElem?_cons_succ] at a_4 a_5
          have za := A9.lt
          have e_0 := E9.cell 0
          have e_1 := E9.cell 1
          simp only [List.getElem?_toArray, List.getElem?_cons_zero, List.getElem?_cons_succ] at e_0 e_1
          have ze := E9.lt
          clear A9 B9 E9
          go_wp2_with fail
          refine calls_letter ?_
          intro W8 hW8
          have B8 : Below W4.heap.size W4 W8 := by rw [hW8]; exact bl_alloc HB2.out _
          have A8 : Blk W8 a27 39 #[.int .i64 (F : Int), .int .i64 (T : Int), .int .i64 pp, .int .i64 pq, .int .i64 rn, .int .i64 rd, .bool ab] := by rw [hW8]; exact HA2.out.alloc _
          have L8 : Blk W8 U2.heap.size 25 #[.int .i64 sN, .int .i64 sD] := by rw [hW8]; exact Blk.new _ _ _
          clear a_4 a_5 za e_0 e_1 ze hW8 HB2 HA2
          generalize U2.heap.size = a38 at *
          ((with_reducible refine (HAd.out _).mono ?_); rintro e U3 ⟨rfl, d3⟩)
          have B9 := bl_trans B8 d3
          have A9 := A8.below d3 A8.lt
          have L9 := L8.below d3 L8.lt
          clear B8 A8 L8 d3
          go_upto_region 41 with fail
          refine wp_letter ?_
          intro Wa hWa
          have Ba : Below W4.heap.size W4 Wa := by rw [hWa]; exact bl_alloc B9 _
          have Aa : Blk Wa a27 39 #[.int .i64 (F : Int), .int .i64 (T : Int), .int .i64 pp, .int .i64 pq, .int .i64 rn, .int .i64 rd, .bool ab] := by rw [hWa]; exact A9.alloc _
          have La : Blk Wa a38 25 #[.int .i64 sN, .int .i64 sD] := by rw [hWa]; exact L9.alloc _
          have Ha : Blk Wa U3.heap.size 25 #[.int .i64 aN, .int .i64 aD] := by rw [hWa]; exact Blk.new _ _ _
          clear hWa B9 A9 L9
          generalize U3.heap.size = a40 at *
          have HBa := Lib.hid Ba
          have HAa := Lib.hid Aa
          have HLa := Lib.hid La
          have HHa := Lib.hid Ha
          clear Ba Aa La Ha
          by_cases hc0 : 0 ≤ c
          · have q1 : decide (0 ≤ c) = true := decide_eq_true hc0
            by_cases hs0 : sE = 0
            · have q2 : (sE == 0) = true := by rw [hs0]; rfl
              by_cases ha0 : aE = 0
              · have q3 : (aE == 0) = true := by rw [ha0]; rfl
                have HMf := Lib.hid (HMe.out hc0 hs0 ha0)
                clear hc0 hs0 ha0
                have xb := HBa.out
                go_upto_region 42 with fail
                go_cut [42, 43] from 142 to 302 (fun p q W => ∃ a42 : Nat, p = .pointer (some ⟨a42, 0, none⟩) ∧ q = .int .i64 K ∧ Hid (Below W4.heap.size W4 W) ∧ Hid (Blk W a27 39 #[.int .i64 (F : Int), .int .i64 (T : Int), .int .i64 pp, .int .i64 pq, .int .i64 rn, .int .i64 rd, .bool ab]) ∧ Hid (Blk W a42 68 #[.int .i64 m1, .int .i64 m2, .int .i64 m3, .int .i64 m4]))
                case first =>
                  as_aux_lemma =>
                  have xb := HBa.out
                  have xa := HAa.out
                  have xl := HLa.out
                  have xh := HHa.out
                  obtain ⟨gf0, gf1, gf2, gf3, zgf⟩ := HGF.out _ xb
                  have a_0 := xa.cell 0
                  have a_2 := xa.cell 2
                  have a_3 := xa.cell 3
                  have a_5 := xa.cell 5
                  have a_6 := xa.cell 6
                  simp only [List.getElem?_toArray, List.getElem?_cons_zero, List.getElem?_cons_succ] at a_0 a_2 a_3 a_5 a_6
                  have za := xa.lt
                  have l_0 := xl.cell 0
                  have l_1 := xl.cell 1
                  simp only [List.getElem?_toArray, List.getElem?_cons_zero, List.getElem?_cons_succ] at l_0 l_1
                  have zl := xl.lt
                  have h_0 := xh.cell 0
                  have h_1 := xh.cell 1
                  simp only [List.getElem?_toArray, List.getElem?_cons_zero, List.getElem?_cons_succ] at h_0 h_1
                  have zh := xh.lt
                  (refine wp_region_alloc [0,1,2,3,4,5,6,7,8,9,10,11,12,13,14,15,16,17] [17] [19,20] 18 68 #[.int .i64 0, .int .i64 0, .int .i64 0, .int .i64 0] _ (by kernel_rfl) (by kernel_rfl) (by kernel_rfl) (by rfl) (by repeat (first | (with_reducible refine panic_then ?_) | (with_reducible refine panic_block ?_) | (with_reducible exact panic_body) | exact panic_body | refine panic_then ?_ | refine panic_block ?_)) rfl (fun _ _ => by go_simp) ?_
                   simp only [pickI, pick, List.getElem?_cons_succ, List.getElem?_cons_zero]
                   iterate 18 (first
                     | (refine headZ_val (by rfl) (wanted_free rfl) ⟨_, fun X hX => quiet_build (pv := #[(0, .agg #[.int .i64 sN, .int .i64 sD]), (1, .agg #[.int .i64 aN, .int .i64 aD])]) (by rfl) (by kernel_rfl) (built_band _ _ _ _), ?_⟩
                        simp only [Act.put, List.setIfInBounds_toArray, List.set_cons_zero, List.set_cons_succ])
                     | (refine headZ_val (by rfl) (by first | exact wanted_free rfl | rfl) ?_
                        apply Exists.intro
                        refine ⟨fun X hX => ?_, ?_⟩
                        · (obtain ⟨qz, qc, qf⟩ := bcl hX.out (by first | (simp; rfl) | rfl)
                           go_simp
                           first | done | (go_at_call 25; ((with_reducible refine (HMv.out _).mono ?_); rintro e w2 ⟨rfl, hb2⟩; exact ⟨rfl, hb2⟩)) | rfl | exact ⟨rfl, rfl⟩)
                        simp only [Act.put, List.setIfInBounds_toArray, List.set_cons_zero, List.set_cons_succ])
                     | (refine headZ_pure (by rfl) (by first | exact wanted_free rfl | rfl) ?_
                        apply Exists.intro
                        refine ⟨fun X => ?_, ?_⟩
                        · (go_simp
                           first | done | rfl)
                        simp only [Act.put, List.setIfInBounds_toArray, List.set_cons_zero, List.set_cons_succ])
                     | (refine headZ_pass (by rfl) ?_
                        simp only [Act.put, List.setIfInBounds_toArray, List.set_cons_zero, List.set_cons_succ]))
                   refine headZ_nil ?_
                   intro w' Bq hw' hBq hBk
                   have hb := hw'.out
                   clear hw'
                   try simp only [List.setIfInBounds_toArray, List.set_cons_zero, List.set_cons_succ]
                   obtain ⟨hz, hc, hf⟩ := bcl hb (by first | (simp; rfl) | rfl))
                  have u0 := hBk.cell 0
                  have v0 := hBk.frozen 0
                  have u1 := hBk.cell 1
                  have v1 := hBk.frozen 1
                  have u2 := hBk.cell 2
                  have v2 := hBk.frozen 2
                  have u3 := hBk.cell 3
                  have v3 := hBk.frozen 3
                  have vz := hBk.lt
                  simp only [List.getElem?_toArray, List.getElem?_cons_zero, List.getElem?_cons_succ] at u0 u1 u2 u3
                  have b7 := bl_trans xb hb
                  have a7 := xa.below hb xa.lt
                  have g0 : W4.heap.size ≤ Bq := Nat.le_trans xb.size hBq
                  have g1 : a27 ≠ Bq := by have := xa.lt; omega
                  clear gf0 gf1 gf2 gf3 zgf a_0 a_2 a_3 a_5 a_6 za l_0 l_1 zl h_0 h_1 zh hz hc hf xb xa xl xh hb HAa HLa HHa HBa
                  go_wp2
                  go_meet
                  case rel => exact ⟨Bq, rfl, rfl, Lib.hid (bl_set' g0 (bl_set' g0 (bl_set' g0 (bl_set' g0 b7)))), Lib.hid ((((a7.far g1 _).far g1 _).far g1 _).far g1 _), Lib.hid ((((hBk.set_ 0 _).set_ 1 _).set_ 2 _).set_ 3 _)⟩
                case rest =>
                as_aux_lemma =>
                obtain ⟨a42, rfl, rfl, HBa2, HAb, HMb⟩ := hcut
                have Ab := HAb.out
                have Mb := HMb.out
                clear HBa HAa HLa HHa HAb HMb
                have HBa := HBa2
                clear HBa2
                by_cases hK : K = 0
                · have q4 : (K == 0) = true := by rw [hK]; rfl
                  have hm := HMf.out hK
                  simp only [Value.tuple.injEq, Array.mk.injEq, List.cons.injEq, Value.agg.injEq, Value.int.injEq, true_and, and_true] at hm
                  obtain ⟨⟨rfl, rfl, rfl, rfl⟩, _⟩ := hm
                  clear hK HMf
                  obtain ⟨gt0, gt1, gt2, gt3, zgt⟩ := HGT.out _ HBa.out
                  have a_1 := Ab.cell 1
                  simp only [List.getElem?_toArray, List.getElem?_cons_zero, List.getElem?_cons_succ] at a_1
                  have za := Ab.lt
                  have m_0 := Mb.cell 0
                  have m_1 := Mb.cell 1
                  have m_2 := Mb.cell 2
                  have m_3 := Mb.cell 3
                  simp only [List.getElem?_toArray, List.getElem?_cons_zero, List.getElem?_cons_succ] at m_0 m_1 m_2 m_3
                  have zm := Mb.lt
                  go_upto_region 43 with fail
                  (refine wp_region_bl [0,1,2,3,4,5,6,7,8,9,10] [] (by kernel_rfl) (by kernel_rfl) (by rfl) ?_
                   simp only [pickI, pick, List.getElem?_cons_succ, List.getElem?_cons_zero]
                   iterate 11 (first
                     | (refine head_val (by rfl) (by first | exact wanted_free rfl | rfl) ?_
                        apply Exists.intro
                        refine ⟨fun X hX => ?_, ?_⟩
                        · (obtain ⟨qz, qc, qf⟩ := bcl hX.out (by first | (simp; rfl) | rfl)
                           go_simp
                           first | done | rfl | exact ⟨rfl, rfl⟩)
                        simp only [Act.put, List.setIfInBounds_toArray, List.set_cons_zero, List.set_cons_succ])
                     | (refine head_pass (by rfl) ?_
                        simp only [Act.put, List.setIfInBounds_toArray, List.set_cons_zero, List.set_cons_succ]))
                   refine head_nil ?_
                   intro w' hw'
                   have hb := hw'.out
                   clear hw'
                   obtain ⟨hz, hc, hf⟩ := bcl hb (by first | (simp; rfl) | rfl))
                  have HBc := Lib.hid (bl_trans HBa.out hb)
                  clear gt0 gt1 gt2 gt3 zgt a_1 za m_0 m_1 m_2 m_3 zm hz hc hf hb
                  go_wp2
                  go_roundw
                  case rel => exact ⟨j + 1, by omega, by go_num, HBc⟩
                  case measure => simp [intOf]; omega
                · have q4 : (K == 0) = false := by rw [beq_eq_false_iff_ne]; exact hK
                  clear hK HMf Ab Mb
                  have hxx := HBa.out.size
                  go_upto_region 43 with fail
                  (refine wp_region_bl [0,1,2,3,4,5,6,7,8,9,10] [] (by kernel_rfl) (by kernel_rfl) (by rfl) ?_
                   simp only [pickI, pick, List.getElem?_cons_succ, List.getElem?_cons_zero]
                   iterate 11 (first
                     | (refine head_val (by rfl) (by first | exact wanted_free rfl | rfl) ?_
                        apply Exists.intro
                        refine ⟨fun X hX => ?_, ?_⟩
                        · (obtain ⟨qz, qc, qf⟩ := bcl hX.out (by first | (simp; rfl) | rfl)
                           go_simp
                           first | done | rfl | exact ⟨rfl, rfl⟩)
                        simp only [Act.put, List.setIfInBounds_toArray, List.set_cons_zero, List.set_cons_succ])
                     | (refine head_pass (by rfl) ?_
                        simp only [Act.put, List.setIfInBounds_toArray, List.set_cons_zero, List.set_cons_succ]))
                   refine head_nil ?_
                   intro w' hw'
                   have hb := hw'.out
                   clear hw'
                   obtain ⟨hz, hc, hf⟩ := bcl hb (by first | (simp; rfl) | rfl))
                  have HBc := Lib.hid (bl_trans HBa.out hb)
                  clear hz hc hf hb
                  go_wp2
                  go_roundw
                  case rel => exact ⟨j + 1, by omega, by go_num, HBc⟩
                  case measure => simp [intOf]; omega
              · have q3 : (aE == 0) = false := by rw [beq_eq_false_iff_ne]; exact ha0
                clear hc0 hs0 ha0
                go_wp2
                go_roundw
                case rel => exact ⟨j + 1, by omega, by go_num, HBa⟩
                case measure => simp [intOf]; omega
            · have q2 : (sE == 0) = false := by rw [beq_eq_false_iff_ne]; exact hs0
              clear hc0 hs0
              go_wp2
              go_roundw
              case rel => exact ⟨j + 1, by omega, by go_num, HBa⟩
              case measure => simp [intOf]; omega
          · have q1 : decide (0 ≤ c) = false := decide_eq_false hc0
            clear hc0
            go_wp2
            go_roundw
            case rel => exact ⟨j + 1, by omega, by go_num, HBa⟩
            case measure => simp [intOf]; omega
        · obtain rfl : j = k := by omega
          as_aux_lemma =>
          have HBx := HBw
          cases t
          · go_wp2
            go_loopw [44] (fun i wr => i = .int .i64 0 ∧ Hid (Below W4.heap.size W4 wr)) (fun _ _ => 0)
            case atStart => exact ⟨rfl, HBx⟩
            case round =>
              obtain ⟨rfl, HBy⟩ := hrel
              have hn0 : (0 : Int) < (N : Int) := by omega
              have hb9 := HBy.out
              go_wp2
              go_ret
              exact ⟨rfl, bl_trans Hb4.out hb9⟩
          · have HLL := Lib.hid (HLaw.out (HI0.out rfl))
            clear HLaw
            go_wp2
            go_loopw [44] (fun i wr => ∃ m : Nat, m ≤ N ∧ i = .int .i64 (m : Int) ∧ Hid (Below W4.heap.size W4 wr)) (fun i _ => N - (intOf i).toNat)
            case atStart => exact ⟨0, Nat.zero_le _, rfl, HBx⟩
            case round =>
              obtain ⟨m, hm, rfl, HBy⟩ := hrel
              by_cases hlt : m < N
              · as_aux_lemma =>
                obtain ⟨b1, o1, rfl, hb1, hc1⟩ := HB4.out (by omega)
                obtain ⟨b2, o2, rfl, hb2, hc2⟩ := HF4.out (by omega)
                obtain ⟨x1, x2, x3, x4⟩ := hc1 m hlt
                obtain ⟨y1, y2⟩ := hc2 m hlt
                obtain ⟨⟨x, hx, hX⟩, ⟨y, hy, hY⟩⟩ := HLL.out m hlt
                have hbt := HBy.out
                have st := hbt.size
                have c1 := (hbt.cell (p := ⟨b1, o1 + m * 4, none⟩) hb1).trans x1
                have c2 := (hbt.cell (p := ⟨b1, o1 + m * 4 + 1, none⟩) hb1).trans x2
                have c3 := (hbt.cell (p := ⟨b1, o1 + m * 4 + 2, none⟩) hb1).trans x3
                have c4 := (hbt.cell (p := ⟨b1, o1 + m * 4 + 3, none⟩) hb1).trans x4
                have d1 := (hbt.cell (p := ⟨b2, o2 + m * 2, none⟩) hb2).trans y1
                have d2 := (hbt.cell (p := ⟨b2, o2 + m * 2 + 1, none⟩) hb2).trans y2
                have z1 : b1 < wr.heap.size := by omega
                have z2 : b2 < wr.heap.size := by omega
                have HX := Lib.hid (fun w => Cmp_c (g m).1 (g m).2 (p m).1 (p m).2 w)
                have HY := Lib.hid (fun w => Cmp_c (p m).1 (p m).2 (h m).1 (h m).2 w)
                rw [hX] at HX
                rw [hY] at HY
                have hmi : (m : Int) < (N : Int) := by omega
                have wm : IntKind.i64.wrap ((m : Int) + 1) = (m : Int) + 1 := by rw [IntKind.wrap_i64]; omega
                have HBt := Lib.hid hbt
                clear hX hY hc1 hc2 x1 x2 x3 x4 y1 y2 hb1 hb2 hbt
                have hxd : decide (0 < x) = false := decide_eq_false (by omega)
                have hyd : decide (0 < y) = false := decide_eq_false (by omega)
                generalize (g m).1 = p1 at *
                generalize (g m).2 = p2 at *
                generalize (p m).1 = p3 at *
                generalize (p m).2 = p4 at *
                generalize (h m).1 = q1 at *
                generalize (h m).2 = q2 at *
                go_upto_region 48 with fail
                go_cut [45, 46] from 303 to 350 (fun u v W => u = .int .i64 x ∧ v = .int .i64 0 ∧ Hid (Below wr.heap.size wr W))
                case first =>
                  as_aux_lemma =>
                  (refine wp_region_ble [0,1,2,3,4,5,6,7,8,9,10,11,12] [12] [13,14] (by kernel_rfl) (by kernel_rfl) (by rfl) (by repeat (first | (with_reducible refine panic_then ?_) | (with_reducible refine panic_block ?_) | (with_reducible exact panic_body) | exact panic_body | refine panic_then ?_ | refine panic_block ?_)) ?_
                   simp only [pickI, pick, List.getElem?_cons_succ, List.getElem?_cons_zero]
                   iterate 13 (first
                     | (refine head_val (by rfl) (by first | exact wanted_free rfl | rfl) ?_
                        apply Exists.intro
                        refine ⟨fun X hX => ?_, ?_⟩
                        · (obtain ⟨qz, qc, qf⟩ := bcl hX.out (by first | (simp; rfl) | rfl)
                           go_simp
                           first | done | (go_at_call 20; ((with_reducible refine (HX.out _).mono ?_); rintro e w2 ⟨rfl, hb2⟩; exact ⟨rfl, hX.trans hb2⟩)) | rfl | exact ⟨rfl, rfl⟩)
                        simp only [Act.put, List.setIfInBounds_toArray, List.set_cons_zero, List.set_cons_succ])
                     | (refine head_pure (by rfl) (by first | exact wanted_free rfl | rfl) ?_
                        apply Exists.intro
                        refine ⟨fun X => ?_, ?_⟩
                        · (go_simp
                           first | done | rfl)
                        simp only [Act.put, List.setIfInBounds_toArray, List.set_cons_zero, List.set_cons_succ])
                     | (refine head_pass (by rfl) ?_
                        simp only [Act.put, List.setIfInBounds_toArray, List.set_cons_zero, List.set_cons_succ]))
                   refine head_nil ?_
                   intro w' hw'
                   have hb := hw'.out
                   clear hw'
                   obtain ⟨hz, hc, hf⟩ := bcl hb (by first | (simp; rfl) | rfl))
                  have HQ := Lib.hid hb
                  clear hb hz hc hf
                  go_wp2
                  go_meet
                  case rel => exact ⟨rfl, rfl, HQ⟩
                case rest =>
                as_aux_lemma =>
                obtain ⟨rfl, rfl, HQ⟩ := hcut
                have hb := HQ.out
                have e1 := (hb.cell (p := ⟨b1, o1 + m * 4, none⟩) z1).trans c1
                have e2 := (hb.cell (p := ⟨b1, o1 + m * 4 + 1, none⟩) z1).trans c2
                have e3 := (hb.cell (p := ⟨b1, o1 + m * 4 + 2, none⟩) z1).trans c3
                have e4 := (hb.cell (p := ⟨b1, o1 + m * 4 + 3, none⟩) z1).trans c4
                have e5 := (hb.cell (p := ⟨b2, o2 + m * 2, none⟩) z2).trans d1
                have e6 := (hb.cell (p := ⟨b2, o2 + m * 2 + 1, none⟩) z2).trans d2
                have z3 : b1 < wc.heap.size := by have := hb.size; omega
                have z4 : b2 < wc.heap.size := by have := hb.size; omega
                clear hb c1 c2 c3 c4 d1 d2 z1 z2
                go_wp2
                (refine wp_region_ble [0,1,2,3,4,5,6,7,8,9,10,11,12] [12] [13,14] (by kernel_rfl) (by kernel_rfl) (by rfl) (by repeat (first | (with_reducible refine panic_then ?_) | (with_reducible refine panic_block ?_) | (with_reducible exact panic_body) | exact panic_body | refine panic_then ?_ | refine panic_block ?_)) ?_
                 simp only [pickI, pick, List.getElem?_cons_succ, List.getElem?_cons_zero]
                 iterate 13 (first
                   | (refine head_val (by rfl) (by first | exact wanted_free rfl | rfl) ?_
                      apply Exists.intro
                      refine ⟨fun X hX => ?_, ?_⟩
                      · (obtain ⟨qz, qc, qf⟩ := bcl hX.out (by first | (simp; rfl) | rfl)
                         go_simp
                         first | done | (go_at_call 20; ((with_reducible refine (HY.out _).mono ?_); rintro e w2 ⟨rfl, hb2⟩; exact ⟨rfl, hX.trans hb2⟩)) | rfl | exact ⟨rfl, rfl⟩)
                      simp only [Act.put, List.setIfInBounds_toArray, List.set_cons_zero, List.set_cons_succ])
                   | (refine head_pure (by rfl) (by first | exact wanted_free rfl | rfl) ?_
                      apply Exists.intro
                      refine ⟨fun X => ?_, ?_⟩
                      · (go_simp
                         first | done | rfl)
                      simp only [Act.put, List.setIfInBounds_toArray, List.set_cons_zero, List.set_cons_succ])
                   | (refine head_pass (by rfl) ?_
                      simp only [Act.put, List.setIfInBounds_toArray, List.set_cons_zero, List.set_cons_succ]))
                 refine head_nil ?_
                 intro w' hw'
                 have hb := hw'.out
                 clear hw'
                 obtain ⟨hz, hc, hf⟩ := bcl hb (by first | (simp; rfl) | rfl))
                have HBz := Lib.hid (bl_trans (bl_trans HBt.out HQ.out) hb)
                clear hb hz hc hf e1 e2 e3 e4 e5 e6 z3 z4
                go_wp2
                go_roundw
                case rel => exact ⟨m + 1, by omega, by go_num, HBz⟩
                case measure => simp [intOf]; omega
              · obtain rfl : m = N := by omega
                have hb9 := HBy.out
                go_wp2
                go_ret
                exact ⟨rfl, bl_trans Hb4.out hb9⟩
end Go.Proofs.YtehifkdfbiebfaaDoor
