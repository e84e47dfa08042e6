/- BenchRepairs: which items change with the steps that are off. -/
import Derived.Test.YtkgklmmkkhbimaaPlainC
import Derived.Test.YtkgklmmkkhbimaaWalkBounds
namespace Go.Proofs.Ytkgklmmkkhbimaa
open Go.RowKit

set_option maxRecDepth 100000 in
set_option maxHeartbeats 8000000 in
theorem walk_BenchRepairs (n : Int) (A : Option Addr) (l : List Bt) (cap : Nat) (f1 f2 : Int) (Ao : Option Addr) (M : Nat) (off : Nat → Int × Int) (capo : Nat) (Ab : Option Addr) (M2 : Nat) (by_ : Nat → Int × Int) (capb : Nat) (w : World) (hlen : l.length ≤ 9223372036854775807) (hl : Lst w w.heap.size A l)
    (hM : M ≤ 9223372036854775807) (ho : RatsR w w.heap.size Ao M off) (hM2 : M2 ≤ 9223372036854775807) (hb0 : RatsR w w.heap.size Ab M2 by_) :
    Calls Try.prog 5 #[.int .i64 n, .slice A l.length cap, .agg #[.int .i64 f1, .int .i64 f2], .slice Ao M capo, .slice Ab M2 capb] w (Ret (.bool true) w) := by
  obtain ⟨i0, hi, hy0, hy1, hy2⟩ := info_parts Try.infoInt
  have HL := Lib.hid hl
  have HO := Lib.hid ho
  have HB := Lib.hid hb0
  clear hl ho hb0
  go_enter Try.func5, Try.ntmps5
  go_wp2_with fail
  ((with_reducible refine (head18_c _).mono ?_); rintro e w1 ⟨rfl, hb1⟩; obtain ⟨hz1, hc1, hf1⟩ := bcl hb1 (by first | (simp; rfl) | rfl))
  go_wp2_with fail
  (with_reducible refine (Play_u n l f1 f2 M off A Ao cap capo _ ?_ ?_ hlen hM).mono ?_)
  · exact HL.out.up (by (repeat (first | (with_reducible exact bl_refl _) | (with_reducible refine bl_drew ?_) | (with_reducible refine bl_alloc ?_ _) | (with_reducible refine bl_set' ?_ ?_; · (first | omega | (simp; done) | (simp; omega))) | (with_reducible refine bl_last (by assumption) ?_) | (with_reducible refine bl_drewN ?_ _))))
  · exact HO.out.up (by (repeat (first | (with_reducible exact bl_refl _) | (with_reducible refine bl_drew ?_) | (with_reducible refine bl_alloc ?_ _) | (with_reducible refine bl_set' ?_ ?_; · (first | omega | (simp; done) | (simp; omega))) | (with_reducible refine bl_last (by assumption) ?_) | (with_reducible refine bl_drewN ?_ _))))
  rintro e w2 ⟨hb2, B1, N1, c1, k1, rfl, hN1, h1⟩
  obtain ⟨hz2, hc2, hf2⟩ := bcl hb2 (by first | (simp; rfl) | rfl)
  have H1 := Lib.hid h1
  clear h1
  go_wp2_with fail
  (with_reducible refine (Play_u n l f1 f2 M2 by_ A Ab cap capb _ ?_ ?_ hlen hM2).mono ?_)
  · exact HL.out.up (by (repeat (first | (with_reducible exact bl_refl _) | (with_reducible refine bl_drew ?_) | (with_reducible refine bl_alloc ?_ _) | (with_reducible refine bl_set' ?_ ?_; · (first | omega | (simp; done) | (simp; omega))) | (with_reducible refine bl_last (by assumption) ?_) | (with_reducible refine bl_drewN ?_ _))))
  · exact HB.out.up (by (repeat (first | (with_reducible exact bl_refl _) | (with_reducible refine bl_drew ?_) | (with_reducible refine bl_alloc ?_ _) | (with_reducible refine bl_set' ?_ ?_; · (first | omega | (simp; done) | (simp; omega))) | (with_reducible refine bl_last (by assumption) ?_) | (with_reducible refine bl_drewN ?_ _))))
  rintro e w3 ⟨hb3, B2, N2, c2, k2, rfl, hN2, h2⟩
  have h1 := H1.out
  clear H1
  rcases h1 with h1 | ⟨rfl, p, rfl, hg1, p1, hB1⟩
  · clear h2
    go_wp2
    go_ret
    refine ⟨rfl, ?_⟩
    (repeat (first | (with_reducible exact bl_refl _) | (with_reducible refine bl_drew ?_) | (with_reducible refine bl_alloc ?_ _) | (with_reducible refine bl_set' ?_ ?_; · (first | omega | (simp; done) | (simp; omega))) | (with_reducible refine bl_last (by assumption) ?_) | (with_reducible refine bl_drewN ?_ _)))
  rcases h2 with h2 | ⟨rfl, q, rfl, hg2, p2, hB2⟩
  · clear hB1
    go_wp2
    go_ret
    refine ⟨rfl, ?_⟩
    (repeat (first | (with_reducible exact bl_refl _) | (with_reducible refine bl_drew ?_) | (with_reducible refine bl_alloc ?_ _) | (with_reducible refine bl_set' ?_ ?_; · (first | omega | (simp; done) | (simp; omega))) | (with_reducible refine bl_last (by assumption) ?_) | (with_reducible refine bl_drewN ?_ _)))
  have HO3 := Lib.hid (HO.out.up (w' := w3) (by (repeat (first | (with_reducible exact bl_refl _) | (with_reducible refine bl_drew ?_) | (with_reducible refine bl_alloc ?_ _) | (with_reducible refine bl_set' ?_ ?_; · (first | omega | (simp; done) | (simp; omega))) | (with_reducible refine bl_last (by assumption) ?_) | (with_reducible refine bl_drewN ?_ _)))))
  have HB3 := Lib.hid (HB.out.up (w' := w3) (by (repeat (first | (with_reducible exact bl_refl _) | (with_reducible refine bl_drew ?_) | (with_reducible refine bl_alloc ?_ _) | (with_reducible refine bl_set' ?_ ?_; · (first | omega | (simp; done) | (simp; omega))) | (with_reducible refine bl_last (by assumption) ?_) | (with_reducible refine bl_drewN ?_ _)))))
  have HL3 := Lib.hid (HL.out.up (w' := w3) (by (repeat (first | (with_reducible exact bl_refl _) | (with_reducible refine bl_drew ?_) | (with_reducible refine bl_alloc ?_ _) | (with_reducible refine bl_set' ?_ ?_; · (first | omega | (simp; done) | (simp; omega))) | (with_reducible refine bl_last (by assumption) ?_) | (with_reducible refine bl_drewN ?_ _)))))
  have HQ1 := Lib.hid ((hB1.below hb3).more (B' := w3.heap.size) hb3.size)
  have HQ2 := Lib.hid hB2
  have HW3 : Hid (Below w.heap.size w w3) := Lib.hid (by (repeat (first | (with_reducible exact bl_refl _) | (with_reducible refine bl_drew ?_) | (with_reducible refine bl_alloc ?_ _) | (with_reducible refine bl_set' ?_ ?_; · (first | omega | (simp; done) | (simp; omega))) | (with_reducible refine bl_last (by assumption) ?_) | (with_reducible refine bl_drewN ?_ _))))
  obtain ⟨hv, hs, hML, _⟩ := ply_parts hg1
  obtain ⟨_, _, hML2, _⟩ := ply_parts hg2
  have hlen2 := vld_len hv
  have HLaw := Lib.hid (repairs_law hv p1 p2)
  have hokW : okW l.length (selF (wrS off by_) l.length) = true := by
    unfold okW
    rw [List.all_eq_true]
    intro z hz
    obtain ⟨i, h1, _, rfl⟩ := (sel_mem _ _ _).1 hz
    simp
    omega
  have HOKW := Lib.hid (show (vld n l && okW l.length (selF (wrS off by_) l.length)) = true by rw [hv, hokW]; rfl)
  obtain ⟨n1, n2, n3⟩ := hlen2
  have hL40 : l.length ≤ 40 := by omega
  clear hg1 hg2 hs hB1 hB2 HO HB HL hv p1 p2 hokW hc1 hf1 hc2 hf2 hz1 hz2 hb1 hb2 hb3 n3
  obtain ⟨N, rfl⟩ : ∃ N : Nat, n = N := ⟨n.toNat, by omega⟩
  simp only [Int.toNat_natCast] at *
  subst hML hML2
  have HR := Lib.hid (fun Aw capw w hl hw => Repair_c N l (selF (wrS off by_) l.length) A Aw cap capw w hl hw hlen (Nat.le_trans (sel_len _ _) hlen))
  generalize hLL : l.length = L at *
  have HLL := Lib.hid hLL
  clear hLL
  go_wp2
  go_loopw [16, 85] (fun v i wr => ∃ k : Nat, k ≤ L ∧ i = .int .i64 k ∧ Hid (wr.ownsRow w3.heap.size 3 1 v (selF (wrS off by_) k).length ((selF (wrS off by_) k).map (Value.int .i64))) ∧ Below w3.heap.size w3 wr) (fun _ i _ => L - (intOf i).toNat)
  case atStart => exact ⟨0, Nat.zero_le _, rfl, World.ownsRow_nil _ _ _ _, bl_refl _⟩
  case round =>
    obtain ⟨k, hk, rfl, HOW, hbw⟩ := hrel
    by_cases hlt : k < L
    · obtain ⟨b1, o1, rfl, hb1, hc1⟩ := HO3.out (by omega)
      obtain ⟨b2, o2, rfl, hb2, hc2⟩ := HB3.out (by omega)
      have c1 := (hbw.cell (p := ⟨b1, o1 + k * 2, none⟩) hb1).trans (hc1 k hlt).1
      have c2 := (hbw.cell (p := ⟨b1, o1 + k * 2 + 1, none⟩) hb1).trans (hc1 k hlt).2
      have d1 := (hbw.cell (p := ⟨b2, o2 + k * 2, none⟩) hb2).trans (hc2 k hlt).1
      have d2 := (hbw.cell (p := ⟨b2, o2 + k * 2 + 1, none⟩) hb2).trans (hc2 k hlt).2
      have z1 : b1 < wr.heap.size := by have := hbw.size; omega
      have z2 : b2 < wr.heap.size := by have := hbw.size; omega
      clear hc1 hc2 hb1 hb2
      by_cases hxy : off k = by_ k
      · have hE := sel_no (is := wrS off by_) (k := k) (by unfold wrS; rw [hxy]; simp)
        have HE := Lib.hid hE
        rw [← hxy] at d1 d2
        clear hE hxy
        generalize (off k).1 = p1 at *
        generalize (off k).2 = p2 at *
        go_wp2
        (refine wp_region_bl [0,1,2,3,4,5,6,7,8] [] (by kernel_rfl) (by kernel_rfl) (by rfl) ?_
         simp only [pickI, pick, List.getElem?_cons_succ, List.getElem?_cons_zero]
         iterate 9 (first
           | (refine head_val (by rfl) (by rfl) ?_
              apply Exists.intro
              refine ⟨fun X hX => ?_, ?_⟩
              · (obtain ⟨qz, qc, qf⟩ := bcl hX.out (by first | (simp; rfl) | rfl)
                 go_simp
                 first | done | rfl | exact ⟨rfl, rfl⟩)
              simp only [Act.put, List.setIfInBounds_toArray, List.set_cons_zero, List.set_cons_succ])
           | (refine head_pass (by rfl) ?_
              simp only [Act.put, List.setIfInBounds_toArray, List.set_cons_zero, List.set_cons_succ]))
         refine head_nil ?_
         intro w' hw'
         have hb := hw'.out
         clear hw'
         obtain ⟨hz, hc, hf⟩ := bcl hb (by first | (simp; rfl) | rfl))
        go_wp2
        go_roundw
        case rel => exact ⟨k + 1, by omega, by go_num, by rw [HE.out]; exact own_below HOW.out hb, bl_trans hbw hb⟩
        case measure => simp [intOf]; omega
      · have hE := sel_yes (is := wrS off by_) (k := k) (by unfold wrS; simpa using hxy)
        have HE := Lib.hid hE
        have hsl := sel_len (wrS off by_) k
        have hor : ¬ (off k).1 = (by_ k).1 ∨ ((off k).1 = (by_ k).1 ∧ ¬ (off k).2 = (by_ k).2) := by
          by_cases e : (off k).1 = (by_ k).1
          · exact Or.inr ⟨e, fun e2 => hxy (Prod.ext e e2)⟩
          · exact Or.inl e
        clear hxy hE
        generalize (off k).1 = p1 at *
        generalize (off k).2 = p2 at *
        generalize (by_ k).1 = q1 at *
        generalize (by_ k).2 = q2 at *
        rcases hor with e | ⟨rfl, e⟩
        all_goals
          have hne := beq_eq_false_iff_ne.2 e
          clear e
          go_wp2
          (refine wp_region_bl [0,1,2,3,4,5,6,7,8] [] (by kernel_rfl) (by kernel_rfl) (by rfl) ?_
           simp only [pickI, pick, List.getElem?_cons_succ, List.getElem?_cons_zero]
           iterate 9 (first
             | (refine head_val (by rfl) (by rfl) ?_
                apply Exists.intro
                refine ⟨fun X hX => ?_, ?_⟩
                · (obtain ⟨qz, qc, qf⟩ := bcl hX.out (by first | (simp; rfl) | rfl)
                   go_simp
                   first | done | rfl | exact ⟨rfl, rfl⟩)
                simp only [Act.put, List.setIfInBounds_toArray, List.set_cons_zero, List.set_cons_succ])
             | (refine head_pass (by rfl) ?_
                simp only [Act.put, List.setIfInBounds_toArray, List.set_cons_zero, List.set_cons_succ]))
           refine head_nil ?_
           intro w' hw'
           have hb := hw'.out
           clear hw'
           obtain ⟨hz, hc, hf⟩ := bcl hb (by first | (simp; rfl) | rfl))
          have hzz := (bl_trans hbw hb).size
          go_wp2_with (at_builtin; refine wpList_append_own _ rfl _ _ 26 rfl w3.heap.size 3 i0 (.int .i64 0) 1 8 Try.underlying26 hi hy0 hy1 hy2 rfl (by decide) _ _ _ rfl ((own_below HOW.out hb).alloc _) ⟨w'.heap.size, 0, none⟩ 1 1 [.int .i64 (k : Int)] rfl rfl (cell_one_new _ _ _) (fun u hu => by simp at hu; subst hu; rfl) (by unfold maxLen; omega) (by omega) (by simp; omega) ?_; intro v' w9 hown' hgrow _)
          go_roundw
          case rel =>
            refine ⟨k + 1, by omega, by go_num, ?_, ?_⟩
            · rw [HE.out, List.length_append, List.map_append]
              exact hown'
            · have h1 : Below w3.heap.size w3 w' := bl_trans hbw hb
              refine (bl_alloc h1 _).grown hgrow ?_ ?_
              · have := h1.size; simp; omega
              · intro g hg
                have := ((own_below HOW.out hb).lt g hg).1
                omega
          case measure => simp [intOf]; omega
    · have hkL : k = L := by omega
      subst hkL
      obtain ⟨ws, rfl⟩ : ∃ x : World, x = wr := ⟨_, rfl⟩
      obtain ⟨Aw, capw, rfl, hI⟩ := ints_of_own HOW.out
      have HI := Lib.hid hI
      have HW4 : Hid (Below w.heap.size w ws) := Lib.hid (bl_trans HW3.out hbw)
      have HL4 := Lib.hid ((HL3.out.below hbw).more (B' := ws.heap.size) hbw.size)
      have HP4 := Lib.hid ((HQ1.out.below hbw).more (B' := ws.heap.size) hbw.size)
      have HQ4 := Lib.hid ((HQ2.out.below hbw).more (B' := ws.heap.size) hbw.size)
      clear hI HL3 HQ1 HQ2 HO3 HB3 HW3 hbw
      go_wp2_with fail
      (with_reducible refine (HR.out Aw capw _ HL4.out HI.out).mono ?_)
      rintro e w5 ⟨hb5, ⟨hno, rfl⟩ | ⟨_, Ar, capr, rfl, hIr⟩⟩
      · rw [HLL.out] at hno
        exact absurd (hno.symm.trans HOKW.out) (by decide)
      rw [HLL.out] at hIr ⊢
      have HIr := Lib.hid hIr
      have HB5 := Lib.hid hb5
      have HL5 := Lib.hid (HL4.out.up hb5)
      have HP5 := Lib.hid ((HP4.out.below hb5).more (B' := w5.heap.size) hb5.size)
      have HQ5 := Lib.hid ((HQ4.out.below hb5).more (B' := w5.heap.size) hb5.size)
      have hany : ∀ i : Nat, i < k → (selF (repS l (selF (wrS off by_) k)) k).any (fun z => z == (i : Int)) = repS l (selF (wrS off by_) k) i := fun i hi => by
        cases h : repS l (selF (wrS off by_) k) i
        · rw [List.any_eq_false]
          intro z hz he
          obtain ⟨j, _, h2, rfl⟩ := (sel_mem _ _ _).1 hz
          have he' : (j : Int) = i := by simpa using he
          have : j = i := by omega
          rw [this, h] at h2
          cases h2
        · rw [List.any_eq_true]
          exact ⟨i, (sel_mem _ _ _).2 ⟨i, hi, h, rfl⟩, by simp⟩
      have HANY := Lib.hid hany
      have hrl := sel_len (repS l (selF (wrS off by_) k)) k
      have hwl := sel_len (wrS off by_) k
      clear hIr hb5 HL4 HP4 HQ4 HI HOW HOKW HR hany
      generalize selF (wrS off by_) k = wrong at *
      generalize selF (repS l wrong) k = rs at *
      generalize hWL : wrong.length = WL at *
      generalize hRL : rs.length = RL at *
      have HRL := Lib.hid hRL
      have HWL := Lib.hid hWL
      clear hRL hWL
      go_wp2
      go_loopw [11, 111] (fun u i wr => u = .bool true ∧ ∃ j : Nat, j ≤ k ∧ i = .int .i64 j ∧ Below w5.heap.size w5 wr) (fun _ i _ => k - (intOf i).toNat)
      case atStart => exact ⟨rfl, 0, Nat.zero_le _, rfl, bl_refl _⟩
      case round =>
        obtain ⟨rfl, j, hj, rfl, hbt⟩ := hrel
        by_cases hjk : j < k
        · obtain ⟨y, hy⟩ : ∃ y, l[j]? = some y := ⟨l[j]'(by have := HLL.out; omega), by simp⟩
          obtain ⟨bl, off', rfl, hbl, hcl⟩ := HL5.out (by have := HLL.out; omega)
          obtain ⟨x0, x1, x2, x3, x4, x5, x6⟩ := (hcl j y hy).same (fun j => hbt.cell (p := ⟨bl, j, none⟩) hbl)
          have zz : bl < wr.heap.size := by have := hbt.size; omega
          obtain ⟨y0, yn, hlaw1, hlaw2⟩ := HLaw.out j y hy
          have HA := Lib.hid (HANY.out j hjk)
          have HW5 : Hid (Below w.heap.size w w5) := Lib.hid (bl_trans HW4.out HB5.out)
          have HBT := Lib.hid hbt
          obtain ⟨wq, rfl⟩ : ∃ x : World, x = wr := ⟨_, rfl⟩
          clear hcl hbl hbt
          go_wp2
          go_loop [22, 118] (fun u i => ∃ (m : Nat) (r : Bool), m ≤ RL ∧ i = .int .i64 m ∧ u = .bool r ∧ Hid (r = (rs.take m).any fun z => z == (j : Int))) (fun _ i => RL - (intOf i).toNat)
          case atStart => exact ⟨0, false, Nat.zero_le _, rfl, rfl, rfl⟩
          case round =>
            obtain ⟨m, r0, hm, rfl, rfl, HU⟩ := hrel
            by_cases hmR : m < RL
            · obtain ⟨z, hz⟩ : ∃ z, rs[m]? = some z := ⟨rs[m]'(by have := HRL.out; omega), by simp⟩
              obtain ⟨br, orr, rfl, hbr, hcr⟩ := HIr.out (by have := HRL.out; omega)
              have c1 := (HBT.out.cell (p := ⟨br, orr + m, none⟩) hbr).trans (hcr m z hz)
              have z1 : br < wq.heap.size := by have := HBT.out.size; omega
              have hsn : (rs.take (m + 1)).any (fun z => z == (j : Int)) = ((rs.take m).any (fun z => z == (j : Int)) || z == (j : Int)) := by
                rw [List.take_add_one, hz]
                simp
              have HSN := Lib.hid hsn
              clear hcr hz hbr hsn
              cases r0
              · go_wp2
                go_round
                case rel => exact ⟨m + 1, _, by omega, by go_num, rfl, Lib.hid (by rw [HSN.out, ← HU.out, Bool.false_or])⟩
                case measure => simp [intOf]; omega
              · go_wp2
                go_round
                case rel => exact ⟨m + 1, true, by omega, by go_num, rfl, Lib.hid (by rw [HSN.out, ← HU.out, Bool.true_or])⟩
                case measure => simp [intOf]; omega
            · have hmR' : m = RL := by omega
              have hr : r0 = repS l wrong j := by
                rw [HU.out, hmR', ← HRL.out, List.take_length]
                exact HA.out
              rw [← hr] at hlaw1 hlaw2
              clear hr HA HU HANY HLaw HIr HL5
              subst hmR'
              obtain ⟨yfr, yto, yp, yq, yrn, yrd, yab⟩ := y
              simp only at x0 x1 x2 x3 x4 x5 x6 y0 yn hlaw1 hlaw2
              obtain ⟨t, rfl⟩ : ∃ t : Nat, yto = t := ⟨yto.toNat, by omega⟩
              rw [Int.toNat_natCast] at hlaw1 hlaw2
              have htN : t < N := by omega
              obtain ⟨b1, o1, rfl, hb1, hc1⟩ := HP5.out (by omega)
              obtain ⟨b2, o2, rfl, hb2, hc2⟩ := HQ5.out (by omega)
              have c1 := (HBT.out.cell (p := ⟨b1, o1 + t * 2, none⟩) hb1).trans (hc1 t htN).1
              have c2 := (HBT.out.cell (p := ⟨b1, o1 + t * 2 + 1, none⟩) hb1).trans (hc1 t htN).2
              have d1 := (HBT.out.cell (p := ⟨b2, o2 + t * 2, none⟩) hb2).trans (hc2 t htN).1
              have d2 := (HBT.out.cell (p := ⟨b2, o2 + t * 2 + 1, none⟩) hb2).trans (hc2 t htN).2
              have z1 : b1 < wq.heap.size := by have := HBT.out.size; omega
              have z2 : b2 < wq.heap.size := by have := HBT.out.size; omega
              clear hc1 hc2 hb1 hb2 HP5 HQ5
              have g1 : decide ((t : Int) < 0) = false := by simp
              have g2 : decide ((N : Int) ≤ (t : Int)) = false := by simp; omega
              cases r0
              · have hpq := hlaw1 rfl
                rw [← hpq] at d1 d2
                clear hlaw1 hlaw2 hpq
                generalize (p t).1 = p1 at *
                generalize (p t).2 = p2 at *
                go_wp2
                (refine wp_region_bl [0,1,2,3,4,5,6,7,8,9,10,11,12,13,14,15,16,17,18,19,20,21,22,23,24,25,26,27,28,29,30,31,32,33,34,35,36,37,38] [39] (by kernel_rfl) (by kernel_rfl) (by rfl) ?_
                 simp only [pickI, pick, List.getElem?_cons_succ, List.getElem?_cons_zero]
                 iterate 39 (first
                   | (refine head_val (by rfl) (by rfl) ?_
                      apply Exists.intro
                      refine ⟨fun X hX => ?_, ?_⟩
                      · (obtain ⟨qz, qc, qf⟩ := bcl hX.out (by first | (simp; rfl) | rfl)
                         go_simp
                         first | done | rfl | exact ⟨rfl, rfl⟩)
                      simp only [Act.put, List.setIfInBounds_toArray, List.set_cons_zero, List.set_cons_succ])
                   | (refine head_pass (by rfl) ?_
                      simp only [Act.put, List.setIfInBounds_toArray, List.set_cons_zero, List.set_cons_succ]))
                 refine head_nil ?_
                 intro w' hw'
                 have hb := hw'.out
                 clear hw'
                 obtain ⟨hz, hc, hf⟩ := bcl hb (by first | (simp; rfl) | rfl))
                go_wp2
                go_roundw
                case rel => exact ⟨rfl, j + 1, by omega, by go_num, bl_trans (bl_alloc HBT.out _) hb⟩
                case measure => simp [intOf]; omega
              · by_cases hw1 : WL = 1
                · have hpq := hlaw2 rfl hw1
                  subst hw1
                  have hor : ¬ (p t).1 = (q t).1 ∨ ((p t).1 = (q t).1 ∧ ¬ (p t).2 = (q t).2) := by
                    by_cases e : (p t).1 = (q t).1
                    · exact Or.inr ⟨e, fun e2 => hpq (Prod.ext e e2)⟩
                    · exact Or.inl e
                  clear hlaw1 hlaw2 hpq
                  generalize (p t).1 = p1 at *
                  generalize (p t).2 = p2 at *
                  generalize (q t).1 = q1 at *
                  generalize (q t).2 = q2 at *
                  rcases hor with e | ⟨rfl, e⟩
                  all_goals
                    have hne := beq_eq_false_iff_ne.2 e
                    clear e
                    go_wp2
                    (refine wp_region_bl [0,1,2,3,4,5,6,7,8,9,10,11,12,13,14,15,16,17,18,19,20,21,22,23,24,25,26,27,28,29,30,31,32,33,34,35,36,37,38] [39] (by kernel_rfl) (by kernel_rfl) (by rfl) ?_
                     simp only [pickI, pick, List.getElem?_cons_succ, List.getElem?_cons_zero]
                     iterate 39 (first
                       | (refine head_val (by rfl) (by rfl) ?_
                          apply Exists.intro
                          refine ⟨fun X hX => ?_, ?_⟩
                          · (obtain ⟨qz, qc, qf⟩ := bcl hX.out (by first | (simp; rfl) | rfl)
                             go_simp
                             first | done | rfl | exact ⟨rfl, rfl⟩)
                          simp only [Act.put, List.setIfInBounds_toArray, List.set_cons_zero, List.set_cons_succ])
                       | (refine head_pass (by rfl) ?_
                          simp only [Act.put, List.setIfInBounds_toArray, List.set_cons_zero, List.set_cons_succ]))
                     refine head_nil ?_
                     intro w' hw'
                     have hb := hw'.out
                     clear hw'
                     obtain ⟨hz, hc, hf⟩ := bcl hb (by first | (simp; rfl) | rfl))
                    go_wp2
                    go_roundw
                    case rel => exact ⟨rfl, j + 1, by omega, by go_num, bl_trans (bl_alloc HBT.out _) hb⟩
                    case measure => simp [intOf]; omega
                · have hw2 : ((WL : Int) != 1) = true := by simp; omega
                  have hw3 : ((WL : Int) == 1) = false := by simp; omega
                  clear hlaw1 hlaw2 hw1
                  go_wp2
                  (refine wp_region_bl [0,1,2,3,4,5,6,7,8,9,10,11,12,13,14,15,16,17,18,19,20,21,22,23,24,25,26,27,28,29,30,31,32,33,34,35,36,37,38] [39] (by kernel_rfl) (by kernel_rfl) (by rfl) ?_
                   simp only [pickI, pick, List.getElem?_cons_succ, List.getElem?_cons_zero]
                   iterate 39 (first
                     | (refine head_val (by rfl) (by rfl) ?_
                        apply Exists.intro
                        refine ⟨fun X hX => ?_, ?_⟩
                        · (obtain ⟨qz, qc, qf⟩ := bcl hX.out (by first | (simp; rfl) | rfl)
                           go_simp
                           first | done | rfl | exact ⟨rfl, rfl⟩)
                        simp only [Act.put, List.setIfInBounds_toArray, List.set_cons_zero, List.set_cons_succ])
                     | (refine head_pass (by rfl) ?_
                        simp only [Act.put, List.setIfInBounds_toArray, List.set_cons_zero, List.set_cons_succ]))
                   refine head_nil ?_
                   intro w' hw'
                   have hb := hw'.out
                   clear hw'
                   obtain ⟨hz, hc, hf⟩ := bcl hb (by first | (simp; rfl) | rfl))
                  go_wp2
                  go_roundw
                  case rel => exact ⟨rfl, j + 1, by omega, by go_num, bl_trans (bl_alloc HBT.out _) hb⟩
                  case measure => simp [intOf]; omega
        · have hjk' : j = k := by omega
          have HW5 : Hid (Below w.heap.size w w5) := Lib.hid (bl_trans HW4.out HB5.out)
          have HF := Lib.hid (bl_trans HW5.out hbt)
          subst hjk'
          go_wp2
          go_ret
          exact ⟨rfl, HF.out⟩
end Go.Proofs.Ytkgklmmkkhbimaa
