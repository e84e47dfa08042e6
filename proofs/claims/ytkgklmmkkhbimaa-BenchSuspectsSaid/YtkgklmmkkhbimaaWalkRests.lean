/- BenchRests: the steps on which an item rests. -/
import Derived.Test.YtkgklmmkkhbimaaPlainB
import Derived.Test.YtkgklmmkkhbimaaRefB
import Derived.Test.YtkgklmmkkhbimaaBenchV
namespace Go.Proofs.Ytkgklmmkkhbimaa
open Go.RowKit

set_option maxRecDepth 100000 in
set_option maxHeartbeats 4000000 in
theorem walk_BenchRests (n : Int) (A : Option Addr) (l : List Bt) (cap : Nat) (x : Int) (w : World) (hlen : l.length ≤ 9223372036854775807) (hl : Lst w w.heap.size A l) (hcap : l.length ≤ cap) :
    Calls Try.prog 6 #[.int .i64 n, .slice A l.length cap, .int .i64 x] w (Ret (.bool true) w) := by
  have HL := Lib.hid hl
  clear hl
  go_enter Try.func6, Try.ntmps6
  go_wp2_with fail
  ((with_reducible refine (head18_c _).mono ?_); rintro e w1 ⟨rfl, hb1⟩; obtain ⟨hz1, hc1, hf1⟩ := bcl hb1 (by first | (simp; rfl) | rfl))
  go_wp2_with fail
  (with_reducible refine (Item_c n l x A cap _ ?_ hlen).mono ?_)
  · exact HL.out.up (by (repeat (first | (with_reducible exact bl_refl _) | (with_reducible refine bl_drew ?_) | (with_reducible refine bl_alloc ?_ _) | (with_reducible refine bl_set' ?_ ?_; · (first | omega | (simp; done) | (simp; omega))) | (with_reducible refine bl_last (by assumption) ?_) | (with_reducible refine bl_drewN ?_ _))))
  rintro e w2 ⟨hb2, ⟨hit, rfl⟩ | ⟨hit, Ai, capi, rfl, hI⟩⟩
  · have HV := Lib.hid (fun w hl => RefValid_c n l A cap w hl hlen hcap)
    have HL2 := Lib.hid (HL.out.up (w' := w2) (by (repeat (first | (with_reducible exact bl_refl _) | (with_reducible refine bl_drew ?_) | (with_reducible refine bl_alloc ?_ _) | (with_reducible refine bl_set' ?_ ?_; · (first | omega | (simp; done) | (simp; omega))) | (with_reducible refine bl_last (by assumption) ?_) | (with_reducible refine bl_drewN ?_ _)))))
    have HH := Lib.hid hb2
    by_cases hv : vld n l = true
    · rw [hv] at HV
      have hx : x < 0 ∨ (0 ≤ x ∧ n ≤ x) := by
        unfold itB at hit
        rw [hv] at hit
        simp at hit
        omega
      clear hit hv
      rcases hx with hx | ⟨hx, hx'⟩
      · have hxd : decide (x < 0) = true := by simpa using hx
        go_wp2_with (go_at_call 13; ((with_reducible refine (HV.out _ HL2.out).mono ?_); rintro e w' ⟨rfl, hb⟩; obtain ⟨hz, hc, hf⟩ := bcl hb (by first | (simp; rfl) | rfl)))
        go_ret
        refine ⟨rfl, ?_⟩
        (repeat (first | (with_reducible exact bl_refl _) | (with_reducible refine bl_drew ?_) | (with_reducible refine bl_alloc ?_ _) | (with_reducible refine bl_set' ?_ ?_; · (first | omega | (simp; done) | (simp; omega))) | (with_reducible refine bl_last (by assumption) ?_) | (with_reducible refine bl_drewN ?_ _)))
      · have hxd : decide (x < 0) = false := by simp; omega
        have hxe : decide (n ≤ x) = true := by simpa using hx'
        go_wp2_with (go_at_call 13; ((with_reducible refine (HV.out _ HL2.out).mono ?_); rintro e w' ⟨rfl, hb⟩; obtain ⟨hz, hc, hf⟩ := bcl hb (by first | (simp; rfl) | rfl)))
        go_ret
        refine ⟨rfl, ?_⟩
        (repeat (first | (with_reducible exact bl_refl _) | (with_reducible refine bl_drew ?_) | (with_reducible refine bl_alloc ?_ _) | (with_reducible refine bl_set' ?_ ?_; · (first | omega | (simp; done) | (simp; omega))) | (with_reducible refine bl_last (by assumption) ?_) | (with_reducible refine bl_drewN ?_ _)))
    · have hv : vld n l = false := by simpa using hv
      rw [hv] at HV
      clear hit hv
      go_wp2_with (go_at_call 13; ((with_reducible refine (HV.out _ HL2.out).mono ?_); rintro e w' ⟨rfl, hb⟩; obtain ⟨hz, hc, hf⟩ := bcl hb (by first | (simp; rfl) | rfl)))
      go_ret
      refine ⟨rfl, ?_⟩
      (repeat (first | (with_reducible exact bl_refl _) | (with_reducible refine bl_drew ?_) | (with_reducible refine bl_alloc ?_ _) | (with_reducible refine bl_set' ?_ ?_; · (first | omega | (simp; done) | (simp; omega))) | (with_reducible refine bl_last (by assumption) ?_) | (with_reducible refine bl_drewN ?_ _)))
  have hit' : vld n l = true ∧ 0 ≤ x ∧ x < n := by
    unfold itB at hit
    simp at hit
    omega
  obtain ⟨hv, hx0, hxn⟩ := hit'
  obtain ⟨r1, r2, r3⟩ := rests_law hv hx0 hxn
  have hasc := sel_asc (onW l x) l.length
  clear hit hv hx0 hxn
  have hsl : (selF (onW l x) l.length).length ≤ 9223372036854775807 := Nat.le_trans (sel_len _ _) hlen
  generalize selF (onW l x) l.length = xs at *
  have hbef : ∀ j i, xs[j]? = some i → befF xs j < i := fun j i h => bef_lt hasc (fun z hz => by
    obtain ⟨k, hk⟩ := List.getElem?_of_mem hz
    exact (r3 k z hk).1) h
  have HB := Lib.hid hbef
  have HI := Lib.hid hI
  have R3 := Lib.hid r3
  have HL2 := Lib.hid (HL.out.up (w' := w2) (by (repeat (first | (with_reducible exact bl_refl _) | (with_reducible refine bl_drew ?_) | (with_reducible refine bl_alloc ?_ _) | (with_reducible refine bl_set' ?_ ?_; · (first | omega | (simp; done) | (simp; omega))) | (with_reducible refine bl_last (by assumption) ?_) | (with_reducible refine bl_drewN ?_ _)))))
  have HX := Lib.hid r2
  clear hI r3 hbef hasc r2
  generalize hat : atF l x = at' at *
  clear hat
  have hb0 : befF xs 0 = -1 := rfl
  generalize hXX : xs.length = X at *
  have HXX := Lib.hid hXX
  clear hXX
  generalize hLL : l.length = L at *
  have HLL := Lib.hid hLL
  clear hLL
  go_wp2
  go_loopw [7, 10, 11, 46] (fun u p q i wr => u = .bool true ∧ ∃ j : Nat, j ≤ X ∧ i = .int .i64 j ∧ p = .int .i64 (at' j) ∧ q = .int .i64 (befF xs j) ∧ Below w2.heap.size w2 wr) (fun _ _ _ i _ => X - (intOf i).toNat)
  case atStart => exact ⟨rfl, 0, Nat.zero_le _, rfl, by rw [r1], by rw [hb0], bl_refl _⟩
  case round =>
    clear hb0 r1
    obtain ⟨rfl, j, hj, rfl, rfl, rfl, hbw⟩ := hrel
    by_cases hlt : j < X
    · obtain ⟨z, hz⟩ : ∃ z, xs[j]? = some z := ⟨xs[j]'(by have := HXX.out; omega), by simp⟩
      obtain ⟨b1, o1, rfl, hb1, hc1⟩ := HI.out (by have := HXX.out; omega)
      have c1 := (hbw.cell (p := ⟨b1, o1 + j, none⟩) hb1).trans (hc1 j z hz)
      obtain ⟨z0, y, hy, hfr, hto⟩ := R3.out j z hz
      have hlow := HB.out j z hz
      have hnx : befF xs (j + 1) = z := by
        show xs.getD j 0 = z
        simp [List.getD, hz]
      obtain ⟨m, rfl⟩ : ∃ m : Nat, z = m := ⟨z.toNat, by omega⟩
      rw [Int.toNat_natCast] at hy
      have hmL : m < L := by
        have := (List.getElem?_eq_some_iff.1 hy).1
        have := HLL.out
        omega
      obtain ⟨bl, off, rfl, hbl, hcl⟩ := HL2.out (by have := HLL.out; omega)
      obtain ⟨x0, x1, _⟩ := (hcl m y hy).same (fun j => hbw.cell (p := ⟨bl, j, none⟩) hbl)
      rw [hfr] at x0
      rw [hto] at x1
      have HNX := Lib.hid hnx
      have z1 : b1 < wr.heap.size := by have := hbw.size; omega
      have z2 : bl < wr.heap.size := by have := hbw.size; omega
      clear hcl hc1 hz hy hfr hto hnx hb1 hbl
      have hd1 : decide ((m : Int) ≤ befF xs j) = false := by simp; omega
      generalize befF xs j = q at *
      generalize at' j = p at *
      have hne : ¬ (m : Int) ≤ q := by omega
      go_wp2
      go_roundw
      case rel => exact ⟨rfl, j + 1, by omega, by go_num, rfl, by rw [HNX.out], hbw⟩
      case measure => simp [intOf]; omega
    · have hjX : j = X := by omega
      subst hjX
      have hat : at' j = x := HX.out
      rw [hat]
      go_wp2
      go_ret
      refine ⟨rfl, ?_⟩
      (repeat (first | (with_reducible exact bl_refl _) | (with_reducible refine bl_drew ?_) | (with_reducible refine bl_alloc ?_ _) | (with_reducible refine bl_set' ?_ ?_; · (first | omega | (simp; done) | (simp; omega))) | (with_reducible refine bl_last (by assumption) ?_) | (with_reducible refine bl_drewN ?_ _)))
end Go.Proofs.Ytkgklmmkkhbimaa
