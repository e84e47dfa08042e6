/- The reference's setter and Valid. -/
import Derived.Test.YtkgklmmkkhbimaaBenchU
namespace Go.Proofs.Ytkgklmmkkhbimaa
open Go.RowKit

theorem Lst.take {w : World} {B : Nat} {A : Option Addr} {l : List Bt} (h : Lst w B A l) (k : Nat) : Lst w B A (l.take k) := fun h0 => by
  obtain ⟨b, off, hA, hb, hc⟩ := h (by simp at h0; omega)
  refine ⟨b, off, hA, hb, fun i x hx => hc i x ?_⟩
  rw [List.getElem?_take] at hx
  split at hx
  · exact hx
  · cases hx
theorem stF_first {l : List Bt} {x : Int} {k : Nat} (h : ∀ b ∈ l.take k, b.to ≠ x) {y : Bt} (hy : l[k]? = some y) (ht : y.to = x) : stF l x = k := by
  have hlt := (List.getElem?_eq_some_iff.1 hy).1
  have e : l[k] = y := by rw [List.getElem?_eq_getElem hlt] at hy; exact Option.some.inj hy
  have hf : l.findIdx? (fun b => b.to == x) = some k := by
    rw [List.findIdx?_eq_some_iff_getElem]
    refine ⟨hlt, by rw [e]; simpa using ht, fun j hj => ?_⟩
    have := h l[j] (by rw [List.mem_take_iff_getElem]; exact ⟨j, by omega, rfl⟩)
    simpa using this
  unfold stF
  rw [hf]
set_option maxHeartbeats 1000000 in
theorem setter_c (l : List Bt) (x : Int) (A : Option Addr) (cap : Nat) (w : World) (hl : Lst w w.heap.size A l) (hlen : l.length ≤ 9223372036854775807) :
    Calls Try.prog 36 #[.slice A l.length cap, .int .i64 x] w (Ret (.int .i64 (stF l x)) w) := by
  have HL := Lib.hid hl
  clear hl
  generalize hLL : l.length = L at *
  have HLL := Lib.hid hLL
  clear hLL
  go_enter Try.func36, Try.ntmps36
  go_wp2
  go_loopw [5] (fun i wr => ∃ k : Nat, k ≤ L ∧ i = .int .i64 k ∧ Hid (∀ b ∈ l.take k, b.to ≠ x) ∧ Below w.heap.size w wr) (fun i _ => L - (intOf i).toNat)
  case atStart => exact ⟨0, Nat.zero_le _, rfl, Lib.hid (by simp), bl_refl _⟩
  case round =>
    obtain ⟨k, hk, rfl, HT, hbw⟩ := hrel
    by_cases hlt : k < L
    · obtain ⟨y, hy⟩ : ∃ y, l[k]? = some y := ⟨l[k]'(by have := HLL.out; omega), by simp⟩
      obtain ⟨bl, off, rfl, hbl, hcl⟩ := HL.out (by have := HLL.out; omega)
      obtain ⟨x0, x1, _⟩ := (hcl k y hy).same (fun j => hbw.cell (p := ⟨bl, j, none⟩) hbl)
      have hbl' : bl < wr.heap.size := by have := hbw.size; omega
      clear hcl x0
      have HY := Lib.hid hy
      clear hy
      by_cases he : y.to = x
      · have HE := Lib.hid (stF_first HT.out HY.out he)
        rw [he] at x1
        go_wp2
        go_ret
        exact ⟨by rw [HE.out]; rfl, by (repeat (first | (with_reducible exact bl_refl _) | (with_reducible refine bl_drew ?_) | (with_reducible refine bl_alloc ?_ _) | (with_reducible refine bl_set' ?_ ?_; · (first | omega | (simp; done) | (simp; omega))) | (with_reducible refine bl_last (by assumption) ?_) | (with_reducible refine bl_drewN ?_ _)))⟩
      · have HN : Hid (∀ b ∈ l.take (k + 1), b.to ≠ x) := Lib.hid (by
          intro b hb
          rw [List.take_add_one, HY.out] at hb
          simp only [Option.toList_some, List.mem_append, List.mem_singleton] at hb
          rcases hb with hb | rfl
          · exact HT.out b hb
          · exact he)
        generalize y.to = yt at *
        go_wp2
        go_roundw
        case rel => exact ⟨k + 1, by omega, by go_num, HN, hbw⟩
        case measure => simp [intOf]; omega
    · have hkL : k = L := by omega
      subst hkL
      have HE : Hid (stF l x = -1) := Lib.hid (by
        have h1 := HT.out
        rw [← HLL.out, List.take_length] at h1
        have h2 := stF_none.2 h1
        have := stF_lo l x
        omega)
      go_wp2
      go_ret
      exact ⟨by rw [HE.out]; rfl, by (repeat (first | (with_reducible exact bl_refl _) | (with_reducible refine bl_drew ?_) | (with_reducible refine bl_alloc ?_ _) | (with_reducible refine bl_set' ?_ ?_; · (first | omega | (simp; done) | (simp; omega))) | (with_reducible refine bl_last (by assumption) ?_) | (with_reducible refine bl_drewN ?_ _)))⟩

theorem Lst.same {w w' : World} {B : Nat} {A : Option Addr} {l : List Bt} (h : Lst w B A l) (hs : ∀ b j, b < B → w'.cell? ⟨b, j, none⟩ = w.cell? ⟨b, j, none⟩) : Lst w' B A l := fun h0 => by
  obtain ⟨b, off, hA, hb, hc⟩ := h h0
  exact ⟨b, off, hA, hb, fun i x hx => (hc i x hx).same fun j => hs b j hb⟩
theorem rv_ways {n : Int} {pre : List Bt} {b : Bt} (hp : ∀ y ∈ pre, 0 < y.to ∧ y.to < n) : (ptV b.p = false ∧ okB n pre b = false) ∨ (ptV b.p = true ∧ ptV b.q = false ∧ okB n pre b = false) ∨ (ptV b.p = true ∧ ptV b.q = true ∧ rtV b.rn b.rd = false ∧ okB n pre b = false) ∨
    (ptV b.p = true ∧ ptV b.q = true ∧ rtV b.rn b.rd = true ∧ b.to < 1 ∧ okB n pre b = false) ∨ (ptV b.p = true ∧ ptV b.q = true ∧ rtV b.rn b.rd = true ∧ 1 ≤ b.to ∧ n ≤ b.to ∧ okB n pre b = false) ∨
    (ptV b.p = true ∧ ptV b.q = true ∧ rtV b.rn b.rd = true ∧ 1 ≤ b.to ∧ b.to < n ∧ b.fr ≠ 0 ∧ stF pre b.fr < 0 ∧ okB n pre b = false) ∨
    (ptV b.p = true ∧ ptV b.q = true ∧ rtV b.rn b.rd = true ∧ 1 ≤ b.to ∧ b.to < n ∧ b.fr ≠ 0 ∧ 0 ≤ stF pre b.fr ∧ 0 ≤ stF pre b.to ∧ okB n pre b = false) ∨
    (ptV b.p = true ∧ ptV b.q = true ∧ rtV b.rn b.rd = true ∧ 1 ≤ b.to ∧ b.to < n ∧ b.fr ≠ 0 ∧ 0 ≤ stF pre b.fr ∧ stF pre b.to < 0 ∧ okB n pre b = true) ∨
    (ptV b.p = true ∧ ptV b.q = true ∧ rtV b.rn b.rd = true ∧ 1 ≤ b.to ∧ b.to < n ∧ b.fr = 0 ∧ 0 ≤ stF pre b.to ∧ okB n pre b = false) ∨
    (ptV b.p = true ∧ ptV b.q = true ∧ rtV b.rn b.rd = true ∧ 1 ≤ b.to ∧ b.to < n ∧ b.fr = 0 ∧ stF pre b.to < 0 ∧ okB n pre b = true) := by
  have hfr : 0 ≤ stF pre b.fr → 0 < b.fr ∧ b.fr < n := fun h => by
    obtain ⟨y, hy, ht⟩ := stF_get h
    have := hp y (List.mem_of_getElem? hy)
    omega
  unfold okB setB
  cases h1 : ptV b.p
  · simp
  cases h2 : ptV b.q
  · simp
  cases h3 : rtV b.rn b.rd
  · simp
  rcases Int.lt_or_le b.to 1 with h4 | h4
  · have : ¬ 0 < b.to := by omega
    by_cases h0 : b.to = 0
    · simp [h0]
    · have : ¬ 0 ≤ b.to := by omega
      simp [h4, this]
  rcases Int.lt_or_le b.to n with h5 | h5
  case inr =>
    have : ¬ b.to < n := by omega
    simp [this, h5, h4]
  have g1 : 0 ≤ b.to := by omega
  have g2 : ¬ b.to = 0 := by omega
  have g3 : 0 < b.to := by omega
  have g4 : ¬ b.to < 1 := by omega
  have g5 : ¬ n ≤ b.to := by omega
  by_cases h6 : b.fr = 0
  · rcases Int.lt_or_le (stF pre b.to) 0 with h7 | h7
    · have : ¬ 0 ≤ stF pre b.to := by omega
      simp [h4, h5, h6, h7, g1, g2, g3, g4, g5, this]
    · have : ¬ stF pre b.to < 0 := by omega
      simp [h4, h5, h6, h7, g1, g2, g3, g4, g5, this]
  rcases Int.lt_or_le (stF pre b.fr) 0 with h8 | h8
  · have : ¬ 0 ≤ stF pre b.fr := by omega
    simp [h4, h5, h6, h8, g1, g2, g3, g4, g5, this]
  · obtain ⟨f1, f2⟩ := hfr h8
    have g8 : ¬ stF pre b.fr < 0 := by omega
    rcases Int.lt_or_le (stF pre b.to) 0 with h7 | h7
    · have : ¬ 0 ≤ stF pre b.to := by omega
      simp [h4, h5, h6, h7, h8, g1, g2, g3, g4, g5, g8, f1, f2, this]
    · have : ¬ stF pre b.to < 0 := by omega
      simp [h4, h5, h6, h7, h8, g1, g2, g3, g4, g5, g8, f1, f2, this]
theorem pre_to {n : Int} {l : List Bt} : ∀ {k : Nat}, okUp n l k = true → ∀ y ∈ l.take k, 0 < y.to ∧ y.to < n := by
  intro k h y hy
  obtain ⟨j, hj, rfl⟩ := List.mem_take_iff_getElem.1 hy
  have h1 := okUp_mono (j := j + 1) (by omega) h
  simp only [okUp, Bool.and_eq_true] at h1
  have h2 := (ok_parts h1.2).2.2.2
  have e : l.getD j default = l[j] := by simp [List.getD, List.getElem?_eq_getElem (show j < l.length by omega)]
  rw [e] at h2
  exact ⟨h2.1, h2.2.1⟩
end Go.Proofs.Ytkgklmmkkhbimaa
