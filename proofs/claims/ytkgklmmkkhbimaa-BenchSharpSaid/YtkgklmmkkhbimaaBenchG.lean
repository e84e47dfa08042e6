/- Bench: head. -/
import Derived.Test.YtkgklmmkkhbimaaBenchH
namespace Go.Proofs.Ytkgklmmkkhbimaa
open Go Go.RowKit

def PhiSteps (v : Value) (w : World) : Prop := ∃ A, v = .slice A 3 3 ∧ Lst w w.heap.size A stepsL
def PhiRats (v : Value) (w : World) : Prop := ∃ A cap, v = .slice A 3 cap ∧ RatsR w w.heap.size A 3 (fun _ => (0, 1))
theorem steady_steps : Steady PhiSteps := fun _ _ _ ⟨A, he, hl⟩ hb => ⟨A, he, (hl.below hb).more hb.size⟩
theorem steady_rats : Steady PhiRats := fun _ _ _ ⟨A, c, he, hl⟩ hb => ⟨A, c, he, (hl.below hb).more hb.size⟩

theorem BandsR.up {w w' : World} {N : Nat} {A : Option Addr} {g h : Nat → Int × Int} (hh : BandsR w w.heap.size A N g h) (hb : Below w.heap.size w w') : BandsR w' w'.heap.size A N g h := (hh.below hb).more hb.size
theorem RatsR.up {w w' : World} {N : Nat} {A : Option Addr} {g : Nat → Int × Int} (hh : RatsR w w.heap.size A N g) (hb : Below w.heap.size w w') : RatsR w' w'.heap.size A N g := (hh.below hb).more hb.size
theorem IntsR.up {w w' : World} {A : Option Addr} {xs : List Int} (hh : IntsR w w.heap.size A xs) (hb : Below w.heap.size w w') : IntsR w' w'.heap.size A xs := (hh.below hb).more hb.size
theorem Lst.up {w w' : World} {A : Option Addr} {l : List Bt} (hh : Lst w w.heap.size A l) (hb : Below w.heap.size w w') : Lst w' w'.heap.size A l := (hh.below hb).more hb.size
theorem ints2_new (w : World) (x y : Int) (t : TypeId) : IntsR (w.alloc (.cells #[.int .i64 x, .int .i64 y] t)) (w.alloc (.cells #[.int .i64 x, .int .i64 y] t)).heap.size (some ⟨w.heap.size, 0, none⟩) [x, y] := fun _ => by
  refine ⟨_, 0, rfl, by simp, fun i z hz => ?_⟩
  rcases i with _ | _ | i
  · have e : z = x := by simpa using hz.symm
    subst e
    exact (Blk.new _ _ _).cell _
  · have e : z = y := by simpa using hz.symm
    subst e
    exact (Blk.new _ _ _).cell _
  · simp at hz
theorem ints2_same (x y : Int) (A B : Option Addr) (c d : Nat) (w : World) (hx : IntsR w w.heap.size A [x, y]) (hy : IntsR w w.heap.size B [x, y]) :
    Calls Try.prog 22 #[.slice A 2 c, .slice B 2 d] w (Ret (.bool true) w) := by
  have h := Ints_c [x, y] [x, y] A B c d w hx hy (by simp) (by simp)
  rw [decide_eq_true rfl] at h
  exact h
theorem valid18_nil (n : Int) (w : World) : Calls Try.prog 12 #[.int .i64 n, .slice none 0 0] w (Ret (.bool (vld n [])) w) := Valid18_c n [] none 0 w (fun h => absurd h (by simp)) (by decide)
theorem lst_nil (w : World) (B : Nat) : Lst w B none [] := fun h => absurd h (by simp)
theorem vld_1 : vld 1 [] = true := by decide +kernel
theorem vld_2 : vld 2 [] = false := by decide +kernel

set_option maxRecDepth 100000 in
set_option maxHeartbeats 8000000 in
theorem head18_c (w : World) : Calls Try.prog 11 #[] w (Ret (.bool true) w) := by
  go_enter Try.func11, Try.ntmps11
  go_wp2_with (go_at_call 32; ((with_reducible refine (rat_c _ _ _).mono ?_); rintro e w' ⟨rfl, rfl⟩))
  -- Run
  ((with_reducible refine (steps_c _).mono ?_); rintro e w1 ⟨v, rfl, hb1, A1, rfl, hl1⟩)
  have HL1 := Lib.hid hl1
  clear hl1
  have hz1 := hb1.size
  simp only [World.size_alloc] at hz1
  have k10 : w1.cell? ⟨w.heap.size + 1, 0, none⟩ = some (.int .i64 0) := (hb1.cell (p := ⟨w.heap.size + 1, 0, none⟩) (by simp)).trans ((Blk.new' _ _ _ _ (by simp)).cell 0)
  have k11 : w1.cell? ⟨w.heap.size + 1, 1, none⟩ = some (.int .i64 1) := (hb1.cell (p := ⟨w.heap.size + 1, 1, none⟩) (by simp)).trans ((Blk.new' _ _ _ _ (by simp)).cell 1)
  go_wp2_with (go_at_call 32; ((with_reducible refine (rat_c _ _ _).mono ?_); rintro e w' ⟨rfl, rfl⟩))
  ((with_reducible refine (run_steps _ _ ?_).mono ?_))
  · exact (HL1.out.below (by (repeat (first | (with_reducible exact bl_refl _) | (with_reducible refine bl_drew ?_) | (with_reducible refine bl_alloc ?_ _) | (with_reducible refine bl_set' ?_ ?_; · (first | omega | (simp; done) | (simp; omega))) | (with_reducible refine bl_last (by assumption) ?_) | (with_reducible refine bl_drewN ?_ _))))).more (by simp; omega)
  rintro e w2 ⟨Ab, capb, rfl, hb2, hR⟩
  have HR := Lib.hid hR
  clear hR
  have hz2 := hb2.size
  simp only [World.size_alloc] at hz2
  have k20 : w2.cell? ⟨w.heap.size + 1, 0, none⟩ = some (.int .i64 0) := by
    rw [hb2.cell (p := ⟨w.heap.size + 1, 0, none⟩) (by simp; omega), World.cell?_alloc_lt _ _ _ (by simp; omega), World.cell?_alloc_lt _ _ _ (by show w.heap.size + 1 < _; omega)]
    exact k10
  have k21 : w2.cell? ⟨w.heap.size + 1, 1, none⟩ = some (.int .i64 1) := by
    rw [hb2.cell (p := ⟨w.heap.size + 1, 1, none⟩) (by simp; omega), World.cell?_alloc_lt _ _ _ (by simp; omega), World.cell?_alloc_lt _ _ _ (by show w.heap.size + 1 < _; omega)]
    exact k11
  clear k10 k11
  have hz20 : w.heap.size + 1 < w2.heap.size := by omega
  go_wp2
  refine wp_region_gen [2, 3, 4, 1] [] [(0, PhiSteps), (5, PhiRats)] [([6, 7], [9]), ([8, 10, 11], [])] (by kernel_rfl) (by kernel_rfl) (by decide) (by rfl) (by repeat (first | exact panic_body | refine panic_then ?_ | refine panic_block ?_)) ?_
  simp only [pickI, pick, List.getElem?_cons_succ, List.getElem?_cons_zero]
  iterate 3
    (refine headZ_val (by rfl) (by rfl) ?_
     apply Exists.intro
     refine ⟨fun X hX => ?_, ?_⟩
     · obtain ⟨qz, qc, qf⟩ := bcl hX.out (by first | (simp; rfl) | rfl)
       go_simp
       first | done | rfl | exact ⟨rfl, rfl⟩
     simp only [Act.put, List.setIfInBounds_toArray, List.set_cons_zero, List.set_cons_succ])
  refine headZ_val (by rfl) (by rfl) ?_
  apply Exists.intro
  refine ⟨fun X hX => ?_, ?_⟩
  · go_simp
    go_at_call 32
    ((with_reducible refine (rat_c _ _ _).mono ?_); rintro e w3 ⟨rfl, rfl⟩)
    exact ⟨rfl, bl_alloc (bl_refl _) _⟩
  simp only [Act.put, List.setIfInBounds_toArray, List.set_cons_zero, List.set_cons_succ]
  refine headZ_nil ?_
  simp only [MkAll, List.getElem?_cons_succ, List.getElem?_cons_zero]
  refine ⟨⟨rfl, steady_steps, fun X hX => ?_⟩, fun v1 => ?_⟩
  · go_simp
    refine (steps_c X).mono ?_
    rintro e w3 ⟨v, rfl, hb3, hA⟩
    exact ⟨v, rfl, hb3, hA⟩
  simp only [Act.put, List.setIfInBounds_toArray, List.set_cons_zero, List.set_cons_succ]
  refine ⟨⟨rfl, steady_rats, fun X hX => ?_⟩, fun v2 => ?_⟩
  · go_simp
    refine ⟨bl_alloc (bl_refl _) _, _, 3, rfl, fun _ => ⟨_, 0, rfl, by simp, fun x hx => ?_⟩⟩
    have h3 : x = 0 ∨ x = 1 ∨ x = 2 := by omega
    rcases h3 with rfl | rfl | rfl
    · exact ⟨(Blk.new _ _ _).cell _, (Blk.new _ _ _).cell _⟩
    · exact ⟨(Blk.new _ _ _).cell _, (Blk.new _ _ _).cell _⟩
    · exact ⟨(Blk.new _ _ _).cell _, (Blk.new _ _ _).cell _⟩
  try simp only [Act.put, List.setIfInBounds_toArray, List.set_cons_zero, List.set_cons_succ]
  rintro w3 ⟨⟨hX, A2, rfl, hl2⟩, B2, capB, rfl, hr2⟩
  have hbP := hX.out
  have HL2 := Lib.hid hl2
  have HR2 := Lib.hid hr2
  clear hX hl2 hr2 k20 k21
  simp only [wpPlan, pick, List.getElem?_cons_succ, List.getElem?_cons_zero]
  go_wp2_with fail
  ((with_reducible refine (play_steps _ _ _ _ HL2.out HR2.out).mono ?_))
  rintro e w4 ⟨Ap, capp, rfl, hb4, hP⟩
  have HP := Lib.hid hP
  clear hP
  go_wp2
  refine pures_cons rfl rfl ?_
  apply Exists.intro
  refine ⟨fun X => ?_, ?_⟩
  · go_simp
    first | done | rfl
  simp only [Act.put, List.setIfInBounds_toArray, List.set_cons_zero, List.set_cons_succ]
  refine pures_nil ?_
  go_wp2
  refine pures_nil ?_
  have hz4 : w2.heap.size ≤ w4.heap.size := Nat.le_trans hbP.size hb4.size
  -- Repair
  go_wp2_with fail
  ((with_reducible refine (steps_c _).mono ?_); rintro e w5 ⟨v, rfl, hb5, A5, rfl, hl5⟩)
  have HL5 := Lib.hid hl5
  clear hl5
  go_wp2_with fail
  ((with_reducible refine (rep_steps_c _ _ _ _ ?_ ?_).mono ?_))
  · exact (HL5.out.below (by (repeat (first | (with_reducible exact bl_refl _) | (with_reducible refine bl_drew ?_) | (with_reducible refine bl_alloc ?_ _) | (with_reducible refine bl_set' ?_ ?_; · (first | omega | (simp; done) | (simp; omega))) | (with_reducible refine bl_last (by assumption) ?_) | (with_reducible refine bl_drewN ?_ _))))).more (by simp)
  · intro _
    refine ⟨_, 0, rfl, by simp, fun i x hx => ?_⟩
    rcases i with _ | i
    · have e : x = 0 := by simpa using hx.symm
      subst e
      exact (Blk.new _ _ _).cell _
    · simp at hx
  rintro e w6 ⟨Ar, capr, rfl, hb6, hRep⟩
  have HRep := Lib.hid hRep
  clear hRep
  -- Item
  go_wp2_with fail
  ((with_reducible refine (steps_c _).mono ?_); rintro e w7 ⟨v, rfl, hb7, A7, rfl, hl7⟩)
  have HL7 := Lib.hid hl7
  clear hl7
  go_wp2_with fail
  ((with_reducible refine (item_steps_c _ _ HL7.out).mono ?_); rintro e w8 ⟨Ai, capi, rfl, hb8, hIt⟩)
  have HIt := Lib.hid hIt
  clear hIt
  -- Suspects
  go_wp2_with fail
  ((with_reducible refine (steps_c _).mono ?_); rintro e w9 ⟨v, rfl, hb9, A9, rfl, hl9⟩)
  have HL9 := Lib.hid hl9
  clear hl9
  go_wp2_with fail
  ((with_reducible refine (sus_steps_c _ _ _ _ _ _ ?_ ?_ ?_).mono ?_))
  · exact HL9.out.up (by (repeat (first | (with_reducible exact bl_refl _) | (with_reducible refine bl_drew ?_) | (with_reducible refine bl_alloc ?_ _) | (with_reducible refine bl_set' ?_ ?_; · (first | omega | (simp; done) | (simp; omega))) | (with_reducible refine bl_last (by assumption) ?_) | (with_reducible refine bl_drewN ?_ _))))
  · intro _
    refine ⟨_, 0, rfl, by simp; omega, fun i x hx => ?_⟩
    rcases i with _ | _ | i
    · have e : x = (2, 3) := by simpa using hx.symm
      subst e
      exact ⟨((Blk.new _ _ _).alloc _).cell _, ((Blk.new _ _ _).alloc _).cell _⟩
    · have e : x = (1, 2) := by simpa using hx.symm
      subst e
      exact ⟨((Blk.new _ _ _).alloc _).cell _, ((Blk.new _ _ _).alloc _).cell _⟩
    · simp at hx
  · intro _
    refine ⟨_, 0, rfl, by simp, fun i x hx => ?_⟩
    rcases i with _ | _ | i
    · have e : x = true := by simpa using hx.symm
      subst e
      exact (Blk.new' _ _ _ _ (by simp)).cell _
    · have e : x = false := by simpa using hx.symm
      subst e
      exact (Blk.new' _ _ _ _ (by simp)).cell _
    · simp at hx
  rintro e w10 ⟨As, caps, rfl, hb10, hSus⟩
  have HSus := Lib.hid hSus
  clear hSus
  go_wp2_with (go_at_call 32; ((with_reducible refine (rat_c _ _ _).mono ?_); rintro e w' ⟨rfl, rfl⟩))
  -- SameBands
  ((with_reducible refine (SameBands_c 4 4 gLo gHi litLo litHi _ _ _ _ _ ?_ ?_ (by decide) (by decide)).mono ?_))
  · exact HR.out.up (by (repeat (first | (with_reducible exact bl_refl _) | (with_reducible refine bl_drew ?_) | (with_reducible refine bl_alloc ?_ _) | (with_reducible refine bl_set' ?_ ?_; · (first | omega | (simp; done) | (simp; omega))) | (with_reducible refine bl_last (by assumption) ?_) | (with_reducible refine bl_drewN ?_ _))))
  · intro _
    refine ⟨_, 0, rfl, by simp, fun x hx => ?_⟩
    have h4 : x = 0 ∨ x = 1 ∨ x = 2 ∨ x = 3 := by omega
    rcases h4 with rfl | rfl | rfl | rfl
    all_goals exact ⟨(Blk.new' _ _ _ _ (by simp)).cell _, (Blk.new' _ _ _ _ (by simp)).cell _, (Blk.new' _ _ _ _ (by simp)).cell _, (Blk.new' _ _ _ _ (by simp)).cell _⟩
  rw [same_bands]
  rintro e w11 ⟨rfl, hb11⟩
  go_wp2_with (go_at_call 32; ((with_reducible refine (rat_c _ _ _).mono ?_); rintro e w' ⟨rfl, rfl⟩))
  -- SameRats
  ((with_reducible refine (SameRats_c 4 4 gMid litMid _ _ _ _ _ ?_ ?_ (by decide) (by decide)).mono ?_))
  · exact HP.out.up (by (repeat (first | (with_reducible exact bl_refl _) | (with_reducible refine bl_drew ?_) | (with_reducible refine bl_alloc ?_ _) | (with_reducible refine bl_set' ?_ ?_; · (first | omega | (simp; done) | (simp; omega))) | (with_reducible refine bl_last (by assumption) ?_) | (with_reducible refine bl_drewN ?_ _))))
  · intro _
    refine ⟨_, 0, rfl, by simp, fun x hx => ?_⟩
    have h4 : x = 0 ∨ x = 1 ∨ x = 2 ∨ x = 3 := by omega
    rcases h4 with rfl | rfl | rfl | rfl
    all_goals exact ⟨(Blk.new' _ _ _ _ (by simp)).cell _, (Blk.new' _ _ _ _ (by simp)).cell _⟩
  rw [same_rats]
  rintro e w12 ⟨rfl, hb12⟩
  go_wp2_with fail
  ((with_reducible refine (ints2_same 0 1 _ _ _ _ _ ?_ ?_).mono ?_))
  · exact HRep.out.up (by (repeat (first | (with_reducible exact bl_refl _) | (with_reducible refine bl_drew ?_) | (with_reducible refine bl_alloc ?_ _) | (with_reducible refine bl_set' ?_ ?_; · (first | omega | (simp; done) | (simp; omega))) | (with_reducible refine bl_last (by assumption) ?_) | (with_reducible refine bl_drewN ?_ _))))
  · exact ints2_new _ _ _ _
  rintro e w13 ⟨rfl, hb13⟩
  go_wp2_with fail
  ((with_reducible refine (ints2_same 0 1 _ _ _ _ _ ?_ ?_).mono ?_))
  · exact HIt.out.up (by (repeat (first | (with_reducible exact bl_refl _) | (with_reducible refine bl_drew ?_) | (with_reducible refine bl_alloc ?_ _) | (with_reducible refine bl_set' ?_ ?_; · (first | omega | (simp; done) | (simp; omega))) | (with_reducible refine bl_last (by assumption) ?_) | (with_reducible refine bl_drewN ?_ _))))
  · exact ints2_new _ _ _ _
  rintro e w14 ⟨rfl, hb14⟩
  go_wp2_with fail
  ((with_reducible refine (ints2_same 0 2 _ _ _ _ _ ?_ ?_).mono ?_))
  · exact HSus.out.up (by (repeat (first | (with_reducible exact bl_refl _) | (with_reducible refine bl_drew ?_) | (with_reducible refine bl_alloc ?_ _) | (with_reducible refine bl_set' ?_ ?_; · (first | omega | (simp; done) | (simp; omega))) | (with_reducible refine bl_last (by assumption) ?_) | (with_reducible refine bl_drewN ?_ _))))
  · exact ints2_new _ _ _ _
  rintro e w15 ⟨rfl, hb15⟩
  go_wp2_with fail
  ((with_reducible refine (valid18_nil 1 _).mono ?_))
  rw [vld_1]
  rintro e w16 ⟨rfl, hb16⟩
  go_wp2_with fail
  ((with_reducible refine (valid18_nil 2 _).mono ?_))
  rw [vld_2]
  rintro e w17 ⟨rfl, hb17⟩
  go_wp2
  go_ret
  refine ⟨rfl, ?_⟩
  (repeat (first | (with_reducible exact bl_refl _) | (with_reducible refine bl_drew ?_) | (with_reducible refine bl_alloc ?_ _) | (with_reducible refine bl_set' ?_ ?_; · (first | omega | (simp; done) | (simp; omega))) | (with_reducible refine bl_last (by assumption) ?_) | (with_reducible refine bl_drewN ?_ _)))
end Go.Proofs.Ytkgklmmkkhbimaa
