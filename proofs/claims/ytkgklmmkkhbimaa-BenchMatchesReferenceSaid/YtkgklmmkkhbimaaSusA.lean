/- Suspects: the closure of the law, pairs as arguments, the plain law. -/
import Derived.Test.YtkgklmmkkhbimaaPlainB
import Derived.Test.YtkgklmmkkhbimaaOpensC
import Derived.Test.YtkgklmmkkhbimaaBenchS
namespace Go.Proofs.Ytkgklmmkkhbimaa
open Go.RowKit Go.ChangeShapes Go.WideShapes

/-- Toggled for each element that is i. -/
def tog (i : Int) (s : Bool) (xs : List Int) : Bool := xs.foldl (fun s x => s != (x == i)) s
theorem tog_snoc (i : Int) (s : Bool) (xs : List Int) (x : Int) : tog i s (xs ++ [x]) = (tog i s xs != (x == i)) := by simp [tog]
theorem tog_none {i : Int} {s : Bool} : ∀ {xs : List Int}, i ∉ xs → tog i s xs = s
  | [], _ => rfl
  | x :: xs, h => by
    have h1 : (x == i) = false := by rw [beq_eq_false_iff_ne]; intro e; exact h (by simp [e])
    show tog i (s != (x == i)) xs = s
    rw [h1, tog_none (fun hm => h (by simp [hm]))]
    cases s <;> rfl
theorem tog_asc {i : Int} : ∀ {xs : List Int} {s : Bool}, xs.Pairwise (· < ·) → i ∈ xs → tog i s xs = !s
  | x :: xs, s, hp, hm => by
    rw [List.pairwise_cons] at hp
    show tog i (s != (x == i)) xs = !s
    by_cases e : x = i
    · subst e
      rw [tog_none (fun h => by have := hp.1 x h; omega)]
      cases s <;> simp
    · have h1 : (x == i) = false := by rw [beq_eq_false_iff_ne]; exact e
      rw [h1, tog_asc hp.2 (by
        rw [List.mem_cons] at hm
        rcases hm with rfl | hm
        · exact absurd rfl e
        · exact hm)]
      cases s <;> rfl
theorem tog_sel (is : Nat → Bool) (L : Nat) (i : Nat) (hi : i < L) (s : Bool) : tog i s (selF is L) = (s != is i) := by
  cases h : is i
  · rw [tog_none]
    · cases s <;> rfl
    · intro hm
      obtain ⟨j, _, h2, e⟩ := (sel_mem _ _ _).1 hm
      have : i = j := by omega
      rw [← this, h] at h2
      cases h2
  · rw [tog_asc (sel_asc _ _) ((sel_mem _ _ _).2 ⟨i, hi, h, rfl⟩)]
    cases s <;> rfl

set_option maxHeartbeats 2000000 in
theorem on_c (xs ys : List Int) (i : Int) (A B : Option Addr) (c d : Nat) (w : World) (hx : IntsR w w.heap.size A xs) (hy : IntsR w w.heap.size B ys) (h1 : xs.length ≤ 1000000) (h2 : ys.length ≤ 1000000) :
    Calls Try.prog 27 #[.slice A xs.length c, .slice B ys.length d, .int .i64 i] w (Ret (.bool (tog i (tog i false xs) ys)) w) := by
  have HX := Lib.hid hx
  have HY := Lib.hid hy
  clear hx hy
  generalize hLX : xs.length = LX at *
  generalize hLY : ys.length = LY at *
  have HLX := Lib.hid hLX
  have HLY := Lib.hid hLY
  clear hLX hLY
  go_enter Try.func27, Try.ntmps27
  go_wp2
  go_loopw [7, 14] (fun u j wr => ∃ (k : Nat) (r : Bool), k ≤ LX ∧ j = .int .i64 k ∧ u = .bool r ∧ Hid (r = tog i false (xs.take k)) ∧ Below w.heap.size w wr) (fun _ j _ => LX - (intOf j).toNat)
  case atStart => exact ⟨0, false, Nat.zero_le _, rfl, rfl, rfl, bl_refl _⟩
  case round =>
    obtain ⟨k, r, hk, rfl, rfl, HU, hbw⟩ := hrel
    by_cases hlt : k < LX
    · obtain ⟨z, hz⟩ : ∃ z, xs[k]? = some z := ⟨xs[k]'(by have := HLX.out; omega), by simp⟩
      obtain ⟨b1, o1, rfl, hb1, hc1⟩ := HX.out (by have := HLX.out; omega)
      have c1 := (hbw.cell (p := ⟨b1, o1 + k, none⟩) hb1).trans (hc1 k z hz)
      have z1 : b1 < wr.heap.size := by have := hbw.size; omega
      have HSN : Hid (tog i false (xs.take (k + 1)) = (r != (z == i))) := Lib.hid (by rw [List.take_add_one, hz, HU.out]; exact tog_snoc _ _ _ _)
      clear hc1 hz hb1
      go_wp2
      go_roundw
      case rel => exact ⟨k + 1, _, by omega, by go_num, rfl, Lib.hid HSN.out.symm, hbw⟩
      case measure => simp [intOf]; omega
    · have hkL : k = LX := by omega
      have HU' : Hid (r = tog i false xs) := Lib.hid (by rw [HU.out, hkL, ← HLX.out, List.take_length])
      subst hkL
      have HBW := Lib.hid hbw
      obtain ⟨ws, rfl⟩ : ∃ x : World, x = wr := ⟨_, rfl⟩
      clear hbw HU
      go_wp2
      go_loopw [7, 26] (fun u j wr => ∃ (m : Nat) (r' : Bool), m ≤ LY ∧ j = .int .i64 m ∧ u = .bool r' ∧ Hid (r' = tog i r (ys.take m)) ∧ Below w.heap.size w wr) (fun _ j _ => LY - (intOf j).toNat)
      case atStart => exact ⟨0, r, Nat.zero_le _, rfl, rfl, rfl, HBW.out⟩
      case round =>
        obtain ⟨m, r', hm, rfl, rfl, HV, hbw⟩ := hrel
        by_cases hlt : m < LY
        · obtain ⟨z, hz⟩ : ∃ z, ys[m]? = some z := ⟨ys[m]'(by have := HLY.out; omega), by simp⟩
          obtain ⟨b1, o1, rfl, hb1, hc1⟩ := HY.out (by have := HLY.out; omega)
          have c1 := (hbw.cell (p := ⟨b1, o1 + m, none⟩) hb1).trans (hc1 m z hz)
          have z1 : b1 < wr.heap.size := by have := hbw.size; omega
          have HSN : Hid (tog i r (ys.take (m + 1)) = (r' != (z == i))) := Lib.hid (by rw [List.take_add_one, hz, HV.out]; exact tog_snoc _ _ _ _)
          clear hc1 hz hb1
          go_wp2
          go_roundw
          case rel => exact ⟨m + 1, _, by omega, by go_num, rfl, Lib.hid HSN.out.symm, hbw⟩
          case measure => simp [intOf]; omega
        · have hmL : m = LY := by omega
          have HF : Hid (r' = tog i (tog i false xs) ys) := Lib.hid (by rw [HV.out, hmL, ← HLY.out, List.take_length, ← HU'.out])
          subst hmL
          go_wp2
          go_ret
          exact ⟨by rw [← HF.out]; rfl, hbw⟩
end Go.Proofs.Ytkgklmmkkhbimaa
