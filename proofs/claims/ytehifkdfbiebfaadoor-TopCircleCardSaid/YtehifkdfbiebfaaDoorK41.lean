/- Readings: Valid; Solve where the readings contradict each other. -/
import Derived.Test.YtehifkdfbiebfaaDoorK32
import Derived.Test.YtehifkdfbiebfaaDoorK03
namespace Go.Proofs.YtehifkdfbiebfaaDoor
open Go Go.RowKit Go.Shelf

set_option maxRecDepth 100000 in
set_option maxHeartbeats 8000000 in
theorem RdVal_c {n : Nat} {l : List Rd} (hl : RdOk n l) (A : Option Addr) (cap : Nat) (w : World) (hr : Rds w w.heap.size A l) :
    Calls Tryd.prog 55 #[.int .i64 (n : Int), .slice A l.length cap] w (Ret (.bool true) w) := by
  have HL := Lib.hid hl
  have HR := Lib.hid hr
  have hn40 := hl.1.2
  have hn1 := hl.1.1
  have h200 := hl.2.1
  clear hl hr
  generalize hLL : l.length = L at *
  have d1 : decide ((n : Int) < 1) = false := decide_eq_false (by omega)
  have d2 : decide ((40 : Int) < (n : Int)) = false := decide_eq_false (by omega)
  have d3 : decide ((200 : Int) < (L : Int)) = false := decide_eq_false (by omega)
  go_enter Tryd.func55, Tryd.ntmps55
  go_wp2
  go_loopw [20] (fun i wr => ∃ k : Nat, k ≤ L ∧ i = .int .i64 (k : Int) ∧ Hid (Below w.heap.size w wr)) (fun i _ => L - (intOf i).toNat)
  case atStart => exact ⟨0, by omega, rfl, Below.refl _ _⟩
  case round =>
    obtain ⟨k, hk, rfl, HB⟩ := hrel
    by_cases hlt : k < L
    · obtain ⟨b, o, rfl, hb, hc⟩ := HR.out (by omega)
      obtain ⟨c1, c2, c3, c4⟩ := hc k (by omega)
      obtain ⟨a1, a2, a3, a4, a5, a6⟩ := HL.out.2.2 k (by omega)
      have hbw := HB.out
      have e1 := (hbw.cell (p := ⟨b, o + k * 4, none⟩) hb).trans c1
      have e2 := (hbw.cell (p := ⟨b, o + k * 4 + 1, none⟩) hb).trans c2
      have e3 := (hbw.cell (p := ⟨b, o + k * 4 + 2, none⟩) hb).trans c3
      have e4 := (hbw.cell (p := ⟨b, o + k * 4 + 3, none⟩) hb).trans c4
      have zb : b < wr.heap.size := by have := hbw.size; omega
      have hv : szV (rdAt l k).lo (rdAt l k).hi = true := by unfold szV; simp [a4, a5, a6]
      have HV := Lib.hid (fun w => SzVal_c (rdAt l k).lo (rdAt l k).hi w)
      rw [hv] at HV
      clear c1 c2 c3 c4 hc hv hbw
      generalize rdAt l k = r at *
      obtain ⟨rf, rt, rl, rh⟩ := r
      simp only at *
      have q0 : ((rf : Int) == (rt : Int)) = false := by rw [beq_eq_false_iff_ne]; omega
      have p1 : decide ((rf : Int) < 0) = false := decide_eq_false (by omega)
      have p2 : decide ((rt : Int) < 0) = false := decide_eq_false (by omega)
      have p3 : decide ((n : Int) ≤ (rf : Int)) = false := decide_eq_false (by omega)
      have p4 : decide ((n : Int) ≤ (rt : Int)) = false := decide_eq_false (by omega)
      rcases Nat.lt_or_gt_of_ne a3 with h | h
      · have h1 : (rf : Int) < (rt : Int) := by omega
        have h2 : ¬ (rt : Int) < (rf : Int) := by omega
        go_wp2_with (go_at_call 58; ((with_reducible refine (HV.out _).mono ?_); rintro e w' ⟨rfl, hb⟩; obtain ⟨hz, hc, hf⟩ := bcl hb (by first | (simp; rfl) | rfl)))
        go_roundw
        case rel => exact ⟨k + 1, by omega, by go_num, bl_trans (bl_alloc HB.out _) hb⟩
        case measure => simp [intOf]; omega
      · have h1 : (rt : Int) < (rf : Int) := by omega
        have h2 : ¬ (rf : Int) < (rt : Int) := by omega
        go_wp2_with (go_at_call 58; ((with_reducible refine (HV.out _).mono ?_); rintro e w' ⟨rfl, hb⟩; obtain ⟨hz, hc, hf⟩ := bcl hb (by first | (simp; rfl) | rfl)))
        go_roundw
        case rel => exact ⟨k + 1, by omega, by go_num, bl_trans (bl_alloc HB.out _) hb⟩
        case measure => simp [intOf]; omega
    · obtain rfl : k = L := by omega
      have hb9 := HB.out
      go_wp2
      go_ret
      exact ⟨rfl, hb9⟩
def LieP (n : Nat) (l : List Rd) (w : World) (e : Ending) (w' : World) : Prop :=
  Below w.heap.size w w' ∧ ∃ c A cap, ChainOk n l c ∧ e = .returned (.tuple #[.slice none 0 0, .slice A c.length cap, .int .i64 23]) ∧ IntsR w' w'.heap.size A c
set_option maxRecDepth 100000 in
set_option maxHeartbeats 8000000 in
theorem Solve_lie {n : Nat} {l : List Rd} (hl : RdOk n l) (hno : ∀ p, ¬ Feas l p) (A : Option Addr) (cap : Nat) (w : World) (hr : Rds w w.heap.size A l) :
    Calls Tryd.prog 11 #[.int .i64 (n : Int), .slice A l.length cap] w (LieP n l w) := by
  have HV := Lib.hid (RdVal_c hl A cap w hr)
  have HC := Lib.hid (fun W (hb : Below w.heap.size w W) => contradiction_c hl A cap W (hr.up hb))
  have HNo := Lib.hid hno
  clear hl hr hno
  go_enter Tryd.func11, Tryd.ntmps11
  go_wp2_with (go_at_call 55; ((with_reducible refine (HV.out).mono ?_); rintro e w' ⟨rfl, hb⟩; obtain ⟨hz, hc, hf⟩ := bcl hb (by first | (simp; rfl) | rfl)))
  (with_reducible refine (HC.out _ hb).mono ?_)
  rintro e w2 ⟨hb2, ⟨⟨p, hp⟩, _⟩ | ⟨c, A', cap', hok, rfl, hI, hs⟩⟩
  · exact (HNo.out p hp).elim
  obtain ⟨a, rfl⟩ := Option.isSome_iff_exists.1 hs
  have HOk := Lib.hid hok
  have HI := Lib.hid hI
  clear hI hok hs
  simp only
  go_wp2
  refine bodyPost_ret (v := .tuple #[.slice none 0 0, .slice (some a) c.length cap', .int .i64 23]) (by simp only [results, Tryd.results11]; go_simp) rfl ⟨bl_trans hb hb2, c, some a, cap', HOk.out, rfl, HI.out⟩
end Go.Proofs.YtehifkdfbiebfaaDoor
