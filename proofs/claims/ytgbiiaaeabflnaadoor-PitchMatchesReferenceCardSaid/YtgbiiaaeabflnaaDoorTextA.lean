/- Pitch: exponent. -/
import Derived.Test.YtgbiiaaeabflnaaDoorSameN
import Derived.Test.YtgbiiaaeabflnaaDoorItoa
import Derived.Lib.LaidTab
import Derived.Sort.Grow
import Derived.Lib.ItoaLen
namespace Go.Proofs.YtgbiiaaeabflnaaDoor
open Go Go.RowKit

theorem bs_append (a b : List UInt8) : (⟨a.toArray⟩ : ByteArray) ++ (⟨b.toArray⟩ : ByteArray) = ⟨(a ++ b).toArray⟩ := by
  apply ByteArray.ext
  rw [ByteArray.data_append]
  simp
/-- The table of the powers of ten lies as the program's text lays it. -/
def PW (w : World) : Prop := Lib.TabIs Tryd.prog w "internal/strconv.uint64pow10" .u64 Lib.pow10Tab
theorem tab_lt {w : World} (h : PW w) : 2 < w.heap.size := by
  have hgn : Tryd.prog.globalNamed "internal/strconv.uint64pow10" = some 2 := by kernel_rfl
  unfold PW Lib.TabIs World.var? at h
  rw [hgn] at h
  simp only [Option.bind_some] at h
  rcases Nat.lt_or_ge 2 w.heap.size with h' | h'
  · exact h'
  · rw [Array.getElem?_eq_none h'] at h; cases h
theorem tab_under {w w' : World} {B : Nat} (h : PW w) (hb : Below B w w') (hB : 2 < B) : PW w' := by
  have hgn : Tryd.prog.globalNamed "internal/strconv.uint64pow10" = some 2 := by kernel_rfl
  unfold PW Lib.TabIs World.var? at h ⊢
  rw [hgn] at h ⊢
  simp only [Option.bind_some] at h ⊢
  rw [hb.block 2 hB]
  exact h
theorem tab_up {w w' : World} (h : PW w) (hb : Below w.heap.size w w') : PW w' := tab_under h hb (tab_lt h)
theorem below_grow (w : World) (q : Nat) (os : Array Obj) : Below w.heap.size w (Sort.grow (w.drewN q) os) :=
  ⟨rfl, rfl, rfl, by first | (simp [Sort.grow]; done) | (simp [Sort.grow]; omega), fun i hi => by
    show ((w.drewN q).heap ++ os)[i]? = _
    rw [Array.getElem?_append_left (by show i < w.heap.size; omega)]
    rfl⟩
theorem itoa_c (n : Int) (w : World) (h : PW w) (h0 : -9223372036854775808 ≤ n) (h1 : n ≤ 9223372036854775807) : Calls Tryd.prog 42 #[.int .i64 n] w (Ret (.string ⟨(Lib.itoa n).toArray⟩) w) := by
  refine (Tryd.strconv_Itoa n h0 h1 w h).mono ?_
  rintro e w' ⟨rfl, k, os, rfl⟩
  exact ⟨rfl, below_grow _ _ _⟩
/-- The parts that an exponent has in common with 12. -/
def exG (e : Int) : Nat := Nat.gcd 12 e.natAbs
/-- An exponent as a string. -/
def expB (e : Int) : List UInt8 := if exG e = 12 then Lib.itoa (e.tdiv (exG e : Int)) else Lib.itoa (e.tdiv (exG e : Int)) ++ (47 :: Lib.itoa ((12 / exG e : Nat) : Int))
set_option maxRecDepth 100000 in
set_option maxHeartbeats 4000000 in
theorem exponent_c (e : Int) (w : World) (h : PW w) (h0 : -576 ≤ e) (h1 : e ≤ 576) (he : e ≠ 0) : Calls Tryd.prog 43 #[.int .i64 e] w (Ret (.string ⟨(expB e).toArray⟩) w) := by
  have HT := Lib.hid (fun W (hb : Below w.heap.size w W) n h0 h1 => itoa_c n W (tab_up h hb) h0 h1)
  obtain ⟨N, hN⟩ : ∃ N : Nat, N = e.natAbs := ⟨_, rfl⟩
  have hmax : max e (-e) = (N : Int) := by omega
  have hneg : IntKind.i64.wrap (-e) = -e := by rw [IntKind.wrap_i64]; omega
  have hN1 : 1 ≤ N := by omega
  have hN2 : N ≤ 576 := by omega
  generalize hV : (⟨(expB e).toArray⟩ : ByteArray) = V
  have HV := Lib.hid hV
  have HN := Lib.hid hN
  clear hV hN h
  go_enter Tryd.func43, Tryd.ntmps43
  go_wp2
  go_loopw [3, 4] (fun a b wr => ∃ x y : Nat, a = .int .i64 (x : Int) ∧ b = .int .i64 (y : Int) ∧ Hid (Nat.gcd x y = Nat.gcd 12 N) ∧ 1 ≤ x ∧ x ≤ 576 ∧ y ≤ 576 ∧ Below w.heap.size w wr) (fun _ b _ => (intOf b).toNat)
  case atStart => exact ⟨12, N, rfl, by simp [hmax], Lib.hid rfl, by omega, by omega, hN2, by (repeat (first | (with_reducible exact bl_refl _) | (with_reducible refine bl_drew ?_) | (with_reducible refine bl_alloc ?_ _) | (with_reducible refine bl_set' ?_ ?_; · (first | omega | (simp; done) | (simp; omega))) | (with_reducible refine bl_last (by assumption) ?_) | (with_reducible refine bl_drewN ?_ _)))⟩
  case round =>
    obtain ⟨x, y, rfl, rfl, HG, hx1, hx2, hy, hbw⟩ := hrel
    by_cases hy0 : y = 0
    · subst hy0
      have hG : x = exG e := by
        have := HG.out
        rw [Nat.gcd_zero_right, HN.out] at this
        exact this
      clear HG
      have hy1 : (((0 : Nat) : Int) != 0) = false := rfl
      have hd12 : exG e ∣ 12 := Nat.gcd_dvd_left _ _
      have hle : exG e ≤ 12 := Nat.le_of_dvd (by omega) hd12
      have hx0 : (x : Int) ≠ 0 := by omega
      have ht1 : -576 ≤ e.tdiv (x : Int) ∧ e.tdiv (x : Int) ≤ 576 := by
        have h1 : (e.tdiv (x : Int)).natAbs ≤ e.natAbs := by rw [Int.natAbs_tdiv]; exact Nat.div_le_self _ _
        omega
      have wt : IntKind.i64.wrap (e.tdiv (x : Int)) = e.tdiv (x : Int) := by rw [IntKind.wrap_i64]; omega
      obtain ⟨q, hq⟩ : ∃ q : Nat, q = 12 / x := ⟨_, rfl⟩
      have ht2 : (12 : Int).tdiv (x : Int) = (q : Int) := by rw [Int.tdiv_eq_ediv_of_nonneg (by omega), hq]; rfl
      have ht4 : (12 : Int) / (x : Int) = (q : Int) := by rw [hq]; rfl
      have ht3 : q ≤ 12 := by rw [hq]; exact Nat.div_le_self _ _
      have wt2 : IntKind.i64.wrap (q : Int) = (q : Int) := by rw [IntKind.wrap_i64]; omega
      have HI := Lib.hid (fun W (hb : Below w.heap.size w W) => HT.out W hb (e.tdiv (x : Int)) (by omega) (by omega))
      have HJ := Lib.hid (fun W (hb : Below w.heap.size w W) => HT.out W hb (q : Int) (by omega) (by omega))
      have hv := HV.out
      unfold expB at hv
      rw [← hG, ← hq] at hv
      have l1 := Lib.itoa_length_le (e.tdiv (x : Int)) (by omega) (by omega)
      have l2 := Lib.itoa_length_le (q : Int) (by omega) (by omega)
      by_cases h12 : x = 12
      · rw [if_pos h12] at hv
        have HE := Lib.hid hv
        have hx12 : ((x : Int) != 12) = false := by rw [h12]; rfl
        clear hv HV hG hd12 hle hq h12
        generalize (Lib.itoa (e.tdiv (x : Int))) = s at *
        go_wp2_with (go_at_call 42; ((with_reducible refine (HI.out _ (by (repeat (first | (with_reducible exact bl_refl _) | (with_reducible refine bl_drew ?_) | (with_reducible refine bl_alloc ?_ _) | (with_reducible refine bl_set' ?_ ?_; · (first | omega | (simp; done) | (simp; omega))) | (with_reducible refine bl_last (by assumption) ?_) | (with_reducible refine bl_drewN ?_ _))))).mono ?_); rintro en w2 ⟨rfl, hb2⟩; obtain ⟨hz2, hc2, hf2⟩ := bcl hb2 (by first | (simp; rfl) | rfl)))
        go_ret
        exact ⟨by rw [← HE.out]; rfl, bl_trans hbw hb2⟩
      · rw [if_neg h12] at hv
        have hx12 : ((x : Int) != 12) = true := by simp; omega
        have hv2 : (⟨(Lib.itoa (e.tdiv (x : Int))).toArray⟩ : ByteArray) ++ ((⟨#[47]⟩ : ByteArray) ++ (⟨(Lib.itoa (q : Int)).toArray⟩ : ByteArray)) = V := by
          rw [show (⟨#[47]⟩ : ByteArray) = ⟨[47].toArray⟩ from rfl, bs_append, bs_append]
          exact hv
        have HE := Lib.hid hv2
        clear hv HV hG hd12 hle hq hv2
        generalize (Lib.itoa (e.tdiv (x : Int))) = s at *
        generalize (Lib.itoa (q : Int)) = s2 at *
        go_wp2_with (first | (go_at_call 42; ((with_reducible refine (HI.out _ (by (repeat (first | (with_reducible exact bl_refl _) | (with_reducible refine bl_drew ?_) | (with_reducible refine bl_alloc ?_ _) | (with_reducible refine bl_set' ?_ ?_; · (first | omega | (simp; done) | (simp; omega))) | (with_reducible refine bl_last (by assumption) ?_) | (with_reducible refine bl_drewN ?_ _))))).mono ?_); rintro en w2 ⟨rfl, hb2⟩; obtain ⟨hz2, hc2, hf2⟩ := bcl hb2 (by first | (simp; rfl) | rfl))) | (go_at_call 42; ((with_reducible refine (HJ.out _ (by (repeat (first | (with_reducible exact bl_refl _) | (with_reducible refine bl_drew ?_) | (with_reducible refine bl_alloc ?_ _) | (with_reducible refine bl_set' ?_ ?_; · (first | omega | (simp; done) | (simp; omega))) | (with_reducible refine bl_last (by assumption) ?_) | (with_reducible refine bl_drewN ?_ _))))).mono ?_); rintro en w3 ⟨rfl, hb3⟩; obtain ⟨hz3, hc3, hf3⟩ := bcl hb3 (by first | (simp; rfl) | rfl))))
        go_ret
        exact ⟨by rw [← HE.out]; rfl, by (repeat (first | (with_reducible exact bl_refl _) | (with_reducible refine bl_drew ?_) | (with_reducible refine bl_alloc ?_ _) | (with_reducible refine bl_set' ?_ ?_; · (first | omega | (simp; done) | (simp; omega))) | (with_reducible refine bl_last (by assumption) ?_) | (with_reducible refine bl_drewN ?_ _)))⟩
    · have hy1 : ((y : Int) != 0) = true := by simp; omega
      have hy2 : ¬ (y : Int) = 0 := by omega
      have hm : (x : Int).tmod (y : Int) = ((x % y : Nat) : Int) := by rw [Int.tmod_eq_emod_of_nonneg (by omega)]; rfl
      have hm2 : x % y < y := Nat.mod_lt _ (by omega)
      have HGN : Hid (Nat.gcd y (x % y) = Nat.gcd 12 N) := Lib.hid (by
        rw [Nat.gcd_comm, ← Nat.gcd_rec, Nat.gcd_comm]
        exact HG.out)
      generalize x % y = z at *
      clear HG HV HT
      go_wp2
      (refine wp_region_bl [0,1,2,3,4,5] [] (by kernel_rfl) (by kernel_rfl) (by rfl) ?_
       simp only [pickI, pick, List.getElem?_cons_succ, List.getElem?_cons_zero]
       iterate 6 (first
         | (refine head_val (by rfl) (by rfl) ?_
            apply Exists.intro
            refine ⟨fun X hX => ?_, ?_⟩
            · (obtain ⟨qz, qc, qf⟩ := bcl hX.out (by first | (simp; rfl) | rfl)
               go_simp
               first | done | rfl | exact ⟨rfl, rfl⟩)
            simp only [Act.put, List.setIfInBounds_toArray, List.set_cons_zero, List.set_cons_succ])
         | (refine head_pass (by rfl) ?_
            simp only [Act.put, List.setIfInBounds_toArray, List.set_cons_zero, List.set_cons_succ]))
       refine head_nil ?_
       intro w' hw'
       have hb := hw'.out
       clear hw'
       obtain ⟨hz, hc, hf⟩ := bcl hb (by first | (simp; rfl) | rfl))
      go_wp2
      go_roundw
      case rel => exact ⟨y, z, rfl, rfl, HGN, by omega, by omega, by omega, bl_trans hbw hb⟩
      case measure => simp [intOf]; omega
end Go.Proofs.YtgbiiaaeabflnaaDoor
