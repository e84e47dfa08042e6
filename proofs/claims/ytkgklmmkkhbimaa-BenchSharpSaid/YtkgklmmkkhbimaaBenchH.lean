/- Bench: the examples of the chapter. -/
import Derived.Test.YtkgklmmkkhbimaaBenchU
import Derived.Test.YtkgklmmkkhbimaaBenchS
import Derived.Test.YtkgklmmkkhbimaaRegion5
namespace Go.Proofs.Ytkgklmmkkhbimaa
open Go.RowKit

theorem rat_c (n d : Int) (w : World) : Calls Try.prog 32 #[.int .i64 n, .int .i64 d] w fun e w' => e = .returned (.agg #[.int .i64 n, .int .i64 d]) ∧ w.alloc (.cells #[.int .i64 n, .int .i64 d] 24) = w' := by
  go_enter Try.func32, Try.ntmps32
  go_wp2
  refine bodyPost_ret (v := .agg #[.int .i64 n, .int .i64 d]) (by simp only [results, Try.results32]; go_simp) rfl ⟨rfl, rfl⟩

def stepsL : List Bt := [⟨0, 1, 3, 2, 1, 1, false⟩, ⟨1, 2, 3, 4, 0, 1, true⟩, ⟨0, 3, 5, 4, 2, 1, true⟩]
def StepsP (w : World) (v : Value) (w' : World) : Prop := Below w.heap.size w w' ∧ ∃ A, v = .slice A 3 3 ∧ Lst w' w'.heap.size A stepsL
set_option maxHeartbeats 1000000 in
theorem steps_c (w : World) : Calls Try.prog 33 #[] w fun e w' => ∃ v, e = .returned v ∧ StepsP w v w' := by
  go_enter Try.func33, Try.ntmps33
  go_wp2_with (go_at_call 32; ((with_reducible refine (rat_c _ _ _).mono ?_); rintro e w' ⟨rfl, rfl⟩))
  go_ret
  refine ⟨_, rfl, ?_, _, rfl, ?_⟩
  · (repeat (first | (with_reducible exact bl_refl _) | (with_reducible refine bl_drew ?_) | (with_reducible refine bl_alloc ?_ _) | (with_reducible refine bl_set' ?_ ?_; · (first | omega | (simp; done) | (simp; omega))) | (with_reducible refine bl_last (by assumption) ?_) | (with_reducible refine bl_drewN ?_ _)))
  · intro _
    refine ⟨_, 0, rfl, by simp, fun i x hx => ?_⟩
    rcases i with _ | _ | _ | i
    · have e : x = ⟨0, 1, 3, 2, 1, 1, false⟩ := by simpa [stepsL] using hx.symm
      subst e
      exact ⟨(Blk.new' _ _ _ _ (by simp)).cell _, (Blk.new' _ _ _ _ (by simp)).cell _, (Blk.new' _ _ _ _ (by simp)).cell _, (Blk.new' _ _ _ _ (by simp)).cell _, (Blk.new' _ _ _ _ (by simp)).cell _, (Blk.new' _ _ _ _ (by simp)).cell _, (Blk.new' _ _ _ _ (by simp)).cell _⟩
    · have e : x = ⟨1, 2, 3, 4, 0, 1, true⟩ := by simpa [stepsL] using hx.symm
      subst e
      exact ⟨(Blk.new' _ _ _ _ (by simp)).cell _, (Blk.new' _ _ _ _ (by simp)).cell _, (Blk.new' _ _ _ _ (by simp)).cell _, (Blk.new' _ _ _ _ (by simp)).cell _, (Blk.new' _ _ _ _ (by simp)).cell _, (Blk.new' _ _ _ _ (by simp)).cell _, (Blk.new' _ _ _ _ (by simp)).cell _⟩
    · have e : x = ⟨0, 3, 5, 4, 2, 1, true⟩ := by simpa [stepsL] using hx.symm
      subst e
      exact ⟨(Blk.new' _ _ _ _ (by simp)).cell _, (Blk.new' _ _ _ _ (by simp)).cell _, (Blk.new' _ _ _ _ (by simp)).cell _, (Blk.new' _ _ _ _ (by simp)).cell _, (Blk.new' _ _ _ _ (by simp)).cell _, (Blk.new' _ _ _ _ (by simp)).cell _, (Blk.new' _ _ _ _ (by simp)).cell _⟩
    · simp [stepsL] at hx

theorem vld_steps : vld 4 stepsL = true := by decide +kernel
theorem sd_220 : sdV 220 1 = true := by decide +kernel
theorem rt_1 : rtV 1 1 = true := by decide +kernel
/-- The frequencies, or nothing. -/
def getG (o : Option (Nat → Int × Int)) : Nat → Int × Int := match o with | some g => g | none => fun _ => (0, 0)
def gLo : Nat → Int × Int := getG (plO stepsL (220, 1) (fun _ => (-1, 1)) 3)
def gHi : Nat → Int × Int := getG (plO stepsL (220, 1) (fun _ => (1, 1)) 3)
def gMid : Nat → Int × Int := getG (plO stepsL (220, 1) (fun _ => (0, 1)) 3)
theorem lo_some : (plO stepsL (220, 1) (fun _ => (-1, 1)) 3).isSome = true := by decide +kernel
theorem hi_some : (plO stepsL (220, 1) (fun _ => (1, 1)) 3).isSome = true := by decide +kernel
theorem mid_some : (plO stepsL (220, 1) (fun _ => (0, 1)) 3).isSome = true := by decide +kernel
theorem get_eq {o : Option (Nat → Int × Int)} {g : Nat → Int × Int} (h : o = some g) : getG o = g := by rw [h]; rfl
def litLo (x : Nat) : Int × Int := if x = 0 then (220, 1) else if x = 1 then (329, 1) else if x = 2 then (493, 2) else (1101, 4)
def litHi (x : Nat) : Int × Int := if x = 0 then (220, 1) else if x = 1 then (330, 1) else if x = 2 then (991, 4) else (1103, 4)
def litMid (x : Nat) : Int × Int := if x = 0 then (220, 1) else if x = 1 then (659, 2) else if x = 2 then (1977, 8) else (551, 2)
theorem same_bands : sameB 4 4 gLo gHi litLo litHi = true := by decide +kernel
theorem same_rats : sameR 4 4 gMid litMid = true := by decide +kernel
theorem rep_steps : selF (repS stepsL [0]) 3 = [0, 1] := by decide +kernel
theorem item_steps : selF (onW stepsL 2) 3 = [0, 1] := by decide +kernel
theorem sus_steps : selF (susS stepsL [(2, 3), (1, 2)] [true, false]) 3 = [0, 2] := by decide +kernel
theorem run_steps (A : Option Addr) (w : World) (hl : Lst w w.heap.size A stepsL) :
    Calls Try.prog 14 #[.int .i64 4, .slice A 3 3, .agg #[.int .i64 220, .int .i64 1], .agg #[.int .i64 1, .int .i64 1]] w fun e w' => ∃ A' cap', e = .returned (.tuple #[.slice A' 4 cap', .int .i64 0]) ∧ Below w.heap.size w w' ∧ BandsR w' w'.heap.size A' 4 gLo gHi := by
  refine (Run_c 4 stepsL 220 1 1 1 A 3 w hl (by decide)).mono fun e w' ⟨hb, h⟩ => ?_
  have hG : runG 4 stepsL 220 1 1 1 = true := by unfold runG; rw [vld_steps, sd_220, rt_1]; rfl
  rcases h with ⟨h, _⟩ | ⟨_, h, _⟩ | ⟨_, g, g2, A', cap', h1, h2, rfl, hR⟩
  · rw [hG] at h; cases h
  · rcases h with h | h
    · have := lo_some
      rw [show (3 : Nat) = stepsL.length from rfl, h] at this
      cases this
    · have := hi_some
      rw [show (3 : Nat) = stepsL.length from rfl, h] at this
      cases this
  · have e1 : gLo = g := get_eq h1
    have e2 : gHi = g2 := get_eq h2
    subst e1 e2
    exact ⟨A', cap', rfl, hb, hR⟩
theorem play_steps (A B : Option Addr) (cap : Nat) (w : World) (hl : Lst w w.heap.size A stepsL) (ho : RatsR w w.heap.size B 3 (fun _ => (0, 1))) :
    Calls Try.prog 17 #[.int .i64 4, .slice A 3 3, .agg #[.int .i64 220, .int .i64 1], .slice B 3 cap] w fun e w' => ∃ A' cap', e = .returned (.tuple #[.slice A' 4 cap', .int .i64 0]) ∧ Below w.heap.size w w' ∧ RatsR w' w'.heap.size A' 4 gMid := by
  refine (Play_c 4 stepsL 220 1 3 (fun _ => (0, 1)) A B 3 cap w hl ho (by decide) (by decide)).mono fun e w' ⟨hb, h⟩ => ?_
  have hG : plyG 4 stepsL 220 1 3 (fun _ => (0, 1)) = true := by
    unfold plyG
    rw [vld_steps, sd_220]
    decide +kernel
  rcases h with ⟨h, _⟩ | ⟨_, h, _⟩ | ⟨_, g, A', h1, rfl, hR⟩
  · rw [hG] at h; cases h
  · have := mid_some
    rw [show (3 : Nat) = stepsL.length from rfl, h] at this
    cases this
  · have e1 : gMid = g := get_eq h1
    subst e1
    exact ⟨A', 4, rfl, hb, hR⟩
theorem rep_steps_c (A B : Option Addr) (cap : Nat) (w : World) (hl : Lst w w.heap.size A stepsL) (ho : IntsR w w.heap.size B [0]) :
    Calls Try.prog 20 #[.int .i64 4, .slice A 3 3, .slice B 1 cap] w fun e w' => ∃ A' cap', e = .returned (.tuple #[.slice A' 2 cap', .int .i64 0]) ∧ Below w.heap.size w w' ∧ IntsR w' w'.heap.size A' [0, 1] := by
  refine (Repair_c 4 stepsL [0] A B 3 cap w hl ho (by decide) (by decide)).mono fun e w' ⟨hb, h⟩ => ?_
  rcases h with ⟨h, _⟩ | ⟨_, A', cap', rfl, hR⟩
  · rw [vld_steps] at h; cases h
  · rw [show stepsL.length = 3 from rfl, rep_steps] at hR
    rw [show stepsL.length = 3 from rfl, rep_steps]
    exact ⟨A', cap', rfl, hb, hR⟩
theorem item_steps_c (A : Option Addr) (w : World) (hl : Lst w w.heap.size A stepsL) :
    Calls Try.prog 23 #[.int .i64 4, .slice A 3 3, .int .i64 2] w fun e w' => ∃ A' cap', e = .returned (.tuple #[.slice A' 2 cap', .int .i64 0]) ∧ Below w.heap.size w w' ∧ IntsR w' w'.heap.size A' [0, 1] := by
  refine (Item_c 4 stepsL 2 A 3 w hl (by decide)).mono fun e w' ⟨hb, h⟩ => ?_
  rcases h with ⟨h, _⟩ | ⟨_, A', cap', rfl, hR⟩
  · unfold itB at h; rw [vld_steps] at h; cases h
  · rw [show stepsL.length = 3 from rfl, item_steps] at hR
    rw [show stepsL.length = 3 from rfl, item_steps]
    exact ⟨A', cap', rfl, hb, hR⟩
theorem sus_steps_c (A B C : Option Addr) (cap cap2 : Nat) (w : World) (hl : Lst w w.heap.size A stepsL) (hc : ChkR w w.heap.size B [(2, 3), (1, 2)]) (hf : BoolsR w w.heap.size C [true, false]) :
    Calls Try.prog 25 #[.int .i64 4, .slice A 3 3, .slice B 2 cap, .slice C 2 cap2] w fun e w' => ∃ A' cap', e = .returned (.tuple #[.slice A' 2 cap', .int .i64 0]) ∧ Below w.heap.size w w' ∧ IntsR w' w'.heap.size A' [0, 2] := by
  refine (Susp_c 4 stepsL [(2, 3), (1, 2)] [true, false] A B C 3 cap cap2 w hl hc hf (by decide) (by decide) (by decide)).mono fun e w' ⟨hb, h⟩ => ?_
  rcases h with ⟨h, _⟩ | ⟨_, A', cap', rfl, hR⟩
  · unfold susG at h; rw [vld_steps] at h; cases h
  · rw [show stepsL.length = 3 from rfl, sus_steps] at hR
    rw [show stepsL.length = 3 from rfl, sus_steps]
    exact ⟨A', cap', rfl, hb, hR⟩
end Go.Proofs.Ytkgklmmkkhbimaa
