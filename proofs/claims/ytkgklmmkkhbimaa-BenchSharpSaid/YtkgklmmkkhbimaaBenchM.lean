/- Bench: marked: the steps for which a closure answers yes; the closures of Item and Suspects. -/
import Derived.Test.YtkgklmmkkhbimaaBenchX
import Derived.Maps.AppendAt
namespace Go.Proofs.Ytkgklmmkkhbimaa
open Go.RowKit

/-- The address A of a slice of the integers xs, which lie below block B. -/
def IntsR (w : World) (B : Nat) (A : Option Addr) (xs : List Int) : Prop :=
  0 < xs.length → ∃ b off, A = some ⟨b, off, none⟩ ∧ b < B ∧ ∀ i x, xs[i]? = some x → w.cell? ⟨b, off + i, none⟩ = some (.int .i64 x)
theorem IntsR.below {w w' : World} {B : Nat} {A : Option Addr} {xs : List Int} (h : IntsR w B A xs) (hb : Below B w w') : IntsR w' B A xs := fun h0 => by
  obtain ⟨b, off, hA, hB, hc⟩ := h h0
  exact ⟨b, off, hA, hB, fun i x hx => (hb.cell (p := ⟨b, off + i, none⟩) hB).trans (hc i x hx)⟩
theorem IntsR.more {w : World} {B B' : Nat} {A : Option Addr} {xs : List Int} (h : IntsR w B A xs) (hB : B ≤ B') : IntsR w B' A xs := fun h0 => by
  obtain ⟨b, off, hA, hb, hc⟩ := h h0
  exact ⟨b, off, hA, by omega, hc⟩
theorem grown_of_below {w w' : World} (h : Below w.heap.size w w') : w.grownBy w' none := ⟨h.os, h.tape, h.output, h.size, fun k hk _ => h.block k hk⟩
theorem own_below {w w' : World} {base n : Nat} {e : TypeId} {v : Value} {xs : List Value} {size : Nat} (h : w.ownsRow base e size v n xs) (hb : Below w.heap.size w w') : w'.ownsRow base e size v n xs := by
  refine h.kept (grown_of_below hb) ?_
  cases v.ownBlock with
  | none => exact .inl rfl
  | some b => exact .inr (by simp)
theorem ints_of_own {w : World} {base n : Nat} {e : TypeId} {v : Value} {xs : List Int} (h : w.ownsRow base e 1 v n (xs.map (Value.int .i64))) : ∃ A cap, v = .slice A xs.length cap ∧ IntsR w w.heap.size A xs := by
  have hlen : xs.length = n := by have := h.1; simpa using this
  rcases h.2 with ⟨rfl, h0⟩ | ⟨g, cap, cur, rfl, hb, hh, hc⟩
  · have : xs = [] := by
      cases xs with
      | nil => rfl
      | cons a ys => simp at hlen; omega
    subst this
    exact ⟨none, 0, rfl, fun h1 => absurd h1 (by simp)⟩
  · refine ⟨_, cap, by rw [hlen], fun _ => ⟨g, 0, rfl, ?_, fun i x hx => ?_⟩⟩
    · exact (Array.getElem?_eq_some_iff.1 hh).1
    · have hl : i < xs.length := (List.getElem?_eq_some_iff.1 hx).1
      have := World.ownsRow.cellAt h i (by omega)
      rw [Nat.zero_add, this, List.getElem?_map, hx]
      rfl
/-- The indices below L for which 'is' holds. -/
def selF (is : Nat → Bool) (L : Nat) : List Int := ((List.range L).filter is).map fun (i : Nat) => (i : Int)
theorem sel_yes {is : Nat → Bool} {k : Nat} (h : is k = true) : selF is (k + 1) = selF is k ++ [(k : Int)] := by
  simp [selF, List.range_succ, List.filter_append, h]
theorem sel_no {is : Nat → Bool} {k : Nat} (h : is k = false) : selF is (k + 1) = selF is k := by
  simp [selF, List.range_succ, List.filter_append, h]
theorem sel_len (is : Nat → Bool) (k : Nat) : (selF is k).length ≤ k := by
  have := List.length_filter_le is (List.range k)
  simpa [selF] using this
/-- What marked leaves. -/
def MarkP (L : Nat) (is : Nat → Bool) (w : World) (e : Ending) (w' : World) : Prop :=
  Below w.heap.size w w' ∧ ∃ A cap, e = .returned (.slice A (selF is L).length cap) ∧ IntsR w' w'.heap.size A (selF is L)


set_option maxRecDepth 100000 in
set_option maxHeartbeats 2000000 in
theorem marked_item (L : Nat) (hL : L ≤ 1000) (A : Option Addr) (cap : Nat) (v2 : Value) (is : Nat → Bool) (a : Addr) (w : World)
    (hG : ∀ (i : Nat) (W : World), i < L → Below w.heap.size w W → Calls Try.prog 51 #[.int .i64 i, .pointer (some a)] W (Ret (.bool (is i)) W)) :
    Calls Try.prog 46 #[.agg #[.slice A L cap, v2], .func (.func 51) #[] #[.pointer (some a)]] w (MarkP L is w) := by
  obtain ⟨i0, hi, hz0, hz1, hz2⟩ := info_parts Try.infoInt
  have HG := Lib.hid hG
  clear hG
  go_enter Try.func46, Try.ntmps46
  go_wp2
  go_loopw [5, 10] (fun v i wr => ∃ k : Nat, k ≤ L ∧ i = .int .i64 k ∧ Hid (wr.ownsRow w.heap.size 3 1 v (selF is k).length ((selF is k).map (Value.int .i64))) ∧ Below w.heap.size w wr ∧ w.heap.size < wr.heap.size) (fun _ i _ => L - (intOf i).toNat)
  case atStart =>
    refine ⟨0, Nat.zero_le _, rfl, World.ownsRow_nil _ _ _ _, ?_, by simp⟩
    (repeat (first | (with_reducible exact bl_refl _) | (with_reducible refine bl_drew ?_) | (with_reducible refine bl_alloc ?_ _) | (with_reducible refine bl_set' ?_ ?_; · (first | omega | (simp; done) | (simp; omega))) | (with_reducible refine bl_last (by assumption) ?_) | (with_reducible refine bl_drewN ?_ _)))
  case round =>
    obtain ⟨k, hk, rfl, HO, hbw, hzw⟩ := hrel
    by_cases hlt : k < L
    · have hC := HG.out k wr hlt hbw
      cases hs : is k
      · rw [hs] at hC
        have e := sel_no hs
        have HC := Lib.hid hC
        have HE := Lib.hid e
        clear hC e hs
        go_wp2_with (go_at_call 51; ((with_reducible refine (HC.out).mono ?_); rintro e w' ⟨rfl, hb⟩; obtain ⟨hz, hc, hf⟩ := bcl hb (by first | (simp; rfl) | rfl)))
        go_roundw
        case rel => exact ⟨k + 1, hlt, by go_num, by rw [HE.out]; exact own_below HO.out hb, bl_trans hbw hb, by omega⟩
        case measure => simp [intOf]; omega
      · rw [hs] at hC
        have e := sel_yes hs
        have hlen := sel_len is k
        have HC := Lib.hid hC
        have HE := Lib.hid e
        clear hC e hs
        go_wp2_with (first | (go_at_call 51; ((with_reducible refine (HC.out).mono ?_); rintro e w' ⟨rfl, hb⟩; obtain ⟨hz, hc, hf⟩ := bcl hb (by first | (simp; rfl) | rfl))) | (at_builtin; refine wpList_append_own _ rfl _ _ 26 rfl w.heap.size 3 i0 (.int .i64 0) 1 8 Try.underlying26 hi hz0 hz1 hz2 rfl (by decide) _ _ _ rfl ((own_below HO.out hb).alloc _) ⟨w'.heap.size, 0, none⟩ 1 1 [.int .i64 (k : Int)] rfl rfl (cell_one_new _ _ _) (fun u hu => by simp at hu; subst hu; rfl) (by unfold maxLen; omega) (by omega) (by simp; omega) ?_; intro v' w1 hown' hgrow _))
        go_roundw
        case rel =>
          refine ⟨k + 1, hlt, by go_num, ?_, ?_, ?_⟩
          · rw [HE.out, List.length_append, List.map_append]
            exact hown'
          · have h1 : Below w.heap.size w w' := bl_trans hbw hb
            refine (bl_alloc h1 _).grown hgrow ?_ ?_
            · simp; omega
            · intro g hg
              have := (HO.out.lt g hg).1
              omega
          · have h1 := hgrow.size
            simp at h1
            omega
        case measure => simp [intOf]; omega
    · have hkL : k = L := by omega
      subst hkL
      obtain ⟨A', cap', rfl, hR⟩ := ints_of_own HO.out
      have HR := Lib.hid hR
      clear hR
      go_wp2
      go_ret
      exact ⟨hbw, A', cap', rfl, HR.out⟩

set_option maxRecDepth 100000 in
set_option maxHeartbeats 2000000 in
theorem marked_susp (L : Nat) (hL : L ≤ 1000) (A : Option Addr) (cap : Nat) (v2 : Value) (is : Nat → Bool) (a : Addr) (w : World)
    (hG : ∀ (i : Nat) (W : World), i < L → Below w.heap.size w W → Calls Try.prog 52 #[.int .i64 i, .pointer (some a)] W (Ret (.bool (is i)) W)) :
    Calls Try.prog 46 #[.agg #[.slice A L cap, v2], .func (.func 52) #[] #[.pointer (some a)]] w (MarkP L is w) := by
  obtain ⟨i0, hi, hz0, hz1, hz2⟩ := info_parts Try.infoInt
  have HG := Lib.hid hG
  clear hG
  go_enter Try.func46, Try.ntmps46
  go_wp2
  go_loopw [5, 10] (fun v i wr => ∃ k : Nat, k ≤ L ∧ i = .int .i64 k ∧ Hid (wr.ownsRow w.heap.size 3 1 v (selF is k).length ((selF is k).map (Value.int .i64))) ∧ Below w.heap.size w wr ∧ w.heap.size < wr.heap.size) (fun _ i _ => L - (intOf i).toNat)
  case atStart =>
    refine ⟨0, Nat.zero_le _, rfl, World.ownsRow_nil _ _ _ _, ?_, by simp⟩
    (repeat (first | (with_reducible exact bl_refl _) | (with_reducible refine bl_drew ?_) | (with_reducible refine bl_alloc ?_ _) | (with_reducible refine bl_set' ?_ ?_; · (first | omega | (simp; done) | (simp; omega))) | (with_reducible refine bl_last (by assumption) ?_) | (with_reducible refine bl_drewN ?_ _)))
  case round =>
    obtain ⟨k, hk, rfl, HO, hbw, hzw⟩ := hrel
    by_cases hlt : k < L
    · have hC := HG.out k wr hlt hbw
      cases hs : is k
      · rw [hs] at hC
        have e := sel_no hs
        have HC := Lib.hid hC
        have HE := Lib.hid e
        clear hC e hs
        go_wp2_with (go_at_call 52; ((with_reducible refine (HC.out).mono ?_); rintro e w' ⟨rfl, hb⟩; obtain ⟨hz, hc, hf⟩ := bcl hb (by first | (simp; rfl) | rfl)))
        go_roundw
        case rel => exact ⟨k + 1, hlt, by go_num, by rw [HE.out]; exact own_below HO.out hb, bl_trans hbw hb, by omega⟩
        case measure => simp [intOf]; omega
      · rw [hs] at hC
        have e := sel_yes hs
        have hlen := sel_len is k
        have HC := Lib.hid hC
        have HE := Lib.hid e
        clear hC e hs
        go_wp2_with (first | (go_at_call 52; ((with_reducible refine (HC.out).mono ?_); rintro e w' ⟨rfl, hb⟩; obtain ⟨hz, hc, hf⟩ := bcl hb (by first | (simp; rfl) | rfl))) | (at_builtin; refine wpList_append_own _ rfl _ _ 26 rfl w.heap.size 3 i0 (.int .i64 0) 1 8 Try.underlying26 hi hz0 hz1 hz2 rfl (by decide) _ _ _ rfl ((own_below HO.out hb).alloc _) ⟨w'.heap.size, 0, none⟩ 1 1 [.int .i64 (k : Int)] rfl rfl (cell_one_new _ _ _) (fun u hu => by simp at hu; subst hu; rfl) (by unfold maxLen; omega) (by omega) (by simp; omega) ?_; intro v' w1 hown' hgrow _))
        go_roundw
        case rel =>
          refine ⟨k + 1, hlt, by go_num, ?_, ?_, ?_⟩
          · rw [HE.out, List.length_append, List.map_append]
            exact hown'
          · have h1 : Below w.heap.size w w' := bl_trans hbw hb
            refine (bl_alloc h1 _).grown hgrow ?_ ?_
            · simp; omega
            · intro g hg
              have := (HO.out.lt g hg).1
              omega
          · have h1 := hgrow.size
            simp at h1
            omega
        case measure => simp [intOf]; omega
    · have hkL : k = L := by omega
      subst hkL
      obtain ⟨A', cap', rfl, hR⟩ := ints_of_own HO.out
      have HR := Lib.hid hR
      clear hR
      go_wp2
      go_ret
      exact ⟨hbw, A', cap', rfl, HR.out⟩

set_option maxRecDepth 100000 in
set_option maxHeartbeats 2000000 in
theorem marked_rep (L : Nat) (hL : L ≤ 1000) (A : Option Addr) (cap : Nat) (v2 : Value) (is : Nat → Bool) (a b c : Addr) (w : World)
    (hG : ∀ (i : Nat) (W : World), i < L → Below w.heap.size w W → Calls Try.prog 47 #[.int .i64 i, .pointer (some a), .pointer (some b), .pointer (some c)] W (Ret (.bool (is i)) W)) :
    Calls Try.prog 46 #[.agg #[.slice A L cap, v2], .func (.func 47) #[] #[.pointer (some a), .pointer (some b), .pointer (some c)]] w (MarkP L is w) := by
  obtain ⟨i0, hi, hz0, hz1, hz2⟩ := info_parts Try.infoInt
  have HG := Lib.hid hG
  clear hG
  go_enter Try.func46, Try.ntmps46
  go_wp2
  go_loopw [5, 10] (fun v i wr => ∃ k : Nat, k ≤ L ∧ i = .int .i64 k ∧ Hid (wr.ownsRow w.heap.size 3 1 v (selF is k).length ((selF is k).map (Value.int .i64))) ∧ Below w.heap.size w wr ∧ w.heap.size < wr.heap.size) (fun _ i _ => L - (intOf i).toNat)
  case atStart =>
    refine ⟨0, Nat.zero_le _, rfl, World.ownsRow_nil _ _ _ _, ?_, by simp⟩
    (repeat (first | (with_reducible exact bl_refl _) | (with_reducible refine bl_drew ?_) | (with_reducible refine bl_alloc ?_ _) | (with_reducible refine bl_set' ?_ ?_; · (first | omega | (simp; done) | (simp; omega))) | (with_reducible refine bl_last (by assumption) ?_) | (with_reducible refine bl_drewN ?_ _)))
  case round =>
    obtain ⟨k, hk, rfl, HO, hbw, hzw⟩ := hrel
    by_cases hlt : k < L
    · have hC := HG.out k wr hlt hbw
      cases hs : is k
      · rw [hs] at hC
        have e := sel_no hs
        have HC := Lib.hid hC
        have HE := Lib.hid e
        clear hC e hs
        go_wp2_with (go_at_call 47; ((with_reducible refine (HC.out).mono ?_); rintro e w' ⟨rfl, hb⟩; obtain ⟨hz, hc, hf⟩ := bcl hb (by first | (simp; rfl) | rfl)))
        go_roundw
        case rel => exact ⟨k + 1, hlt, by go_num, by rw [HE.out]; exact own_below HO.out hb, bl_trans hbw hb, by omega⟩
        case measure => simp [intOf]; omega
      · rw [hs] at hC
        have e := sel_yes hs
        have hlen := sel_len is k
        have HC := Lib.hid hC
        have HE := Lib.hid e
        clear hC e hs
        go_wp2_with (first | (go_at_call 47; ((with_reducible refine (HC.out).mono ?_); rintro e w' ⟨rfl, hb⟩; obtain ⟨hz, hc, hf⟩ := bcl hb (by first | (simp; rfl) | rfl))) | (at_builtin; refine wpList_append_own _ rfl _ _ 26 rfl w.heap.size 3 i0 (.int .i64 0) 1 8 Try.underlying26 hi hz0 hz1 hz2 rfl (by decide) _ _ _ rfl ((own_below HO.out hb).alloc _) ⟨w'.heap.size, 0, none⟩ 1 1 [.int .i64 (k : Int)] rfl rfl (cell_one_new _ _ _) (fun u hu => by simp at hu; subst hu; rfl) (by unfold maxLen; omega) (by omega) (by simp; omega) ?_; intro v' w1 hown' hgrow _))
        go_roundw
        case rel =>
          refine ⟨k + 1, hlt, by go_num, ?_, ?_, ?_⟩
          · rw [HE.out, List.length_append, List.map_append]
            exact hown'
          · have h1 : Below w.heap.size w w' := bl_trans hbw hb
            refine (bl_alloc h1 _).grown hgrow ?_ ?_
            · simp; omega
            · intro g hg
              have := (HO.out.lt g hg).1
              omega
          · have h1 := hgrow.size
            simp at h1
            omega
        case measure => simp [intOf]; omega
    · have hkL : k = L := by omega
      subst hkL
      obtain ⟨A', cap', rfl, hR⟩ := ints_of_own HO.out
      have HR := Lib.hid hR
      clear hR
      go_wp2
      go_ret
      exact ⟨hbw, A', cap', rfl, HR.out⟩

end Go.Proofs.Ytkgklmmkkhbimaa
