/- Rational: Text in general, and the reference's Digits and Text. -/
import Derived.Test.YtmjbcoapceoakaaDoorTxtA
import Derived.Test.YtmjbcoapceoakaaDoorRatU
import Derived.Lib.ItoaLen
namespace Go.Proofs.YtmjbcoapceoakaaDoor
open Go Go.RowKit

theorem bs_append (a b : List UInt8) : (⟨a.toArray⟩ : ByteArray) ++ (⟨b.toArray⟩ : ByteArray) = ⟨(a ++ b).toArray⟩ := by
  apply ByteArray.ext
  rw [ByteArray.data_append]
  simp
def txL (n d : Int) : List UInt8 := if vR n d then ratText n d else []
def txV (n d : Int) : Value := .tuple #[.string ⟨(txL n d).toArray⟩, .int .i64 (if vR n d then 0 else 1)]
theorem itoa_c (n : Int) (w : World) (h : PW w) (h0 : I64 n) : Calls Tryd.prog 54 #[.int .i64 n] w (Ret (.string ⟨(Lib.itoa n).toArray⟩) w) := by
  refine (Tryd.strconv_Itoa n h0.1 h0.2 w h).mono ?_
  rintro e w' ⟨rfl, k, os, rfl⟩
  exact ⟨rfl, below_grow _ _ _⟩

set_option maxRecDepth 100000 in
set_option maxHeartbeats 1000000 in
theorem Text_c (n d : Int) (w : World) (ht : PW w) : Calls Tryd.prog 24 #[.agg #[.int .i64 n, .int .i64 d]] w (Ret (txV n d) w) := by
  have hV := fun w => Valid_c n d w
  cases hv : vR n d
  · rw [hv] at hV
    have hT : txV n d = .tuple #[.string ⟨#[]⟩, .int .i64 1] := by unfold txV txL; rw [hv]; rfl
    rw [hT]
    have HV := Lib.hid hV
    clear hV hv hT
    go_enter Tryd.func24, Tryd.ntmps24
    go_wp2_with (first | (go_at_call 13; ((with_reducible refine (HV.out _).mono ?_); rintro e w' ⟨rfl, hb⟩; obtain ⟨hz, hc, hf⟩ := bcl hb (by first | (simp; rfl) | rfl))))
    (refine bodyPost_ret (v := .tuple #[.string ⟨#[]⟩, .int .i64 1]) (by simp only [results, Tryd.results24]; go_simp) rfl ⟨rfl, ?_⟩)
    (repeat (first | (with_reducible exact bl_refl _) | (with_reducible refine bl_drew ?_) | (with_reducible refine bl_alloc ?_ _) | (with_reducible refine bl_set' ?_ ?_; · (first | omega | (simp; done) | (simp; omega))) | (with_reducible refine bl_last (by assumption) ?_) | (with_reducible refine bl_drewN ?_ _)))
  · rw [hv] at hV
    obtain ⟨v1, v2, v3, v4, _⟩ := v_of hv
    have HT := Lib.hid ht
    have HV := Lib.hid hV
    have HI := Lib.hid (fun W (hb : Below w.heap.size w W) => itoa_c n W (tab_up ht hb) ⟨by omega, by omega⟩)
    have HJ := Lib.hid (fun W (hb : Below w.heap.size w W) => itoa_c d W (tab_up ht hb) ⟨by omega, by omega⟩)
    clear hV ht
    by_cases hd : d = 1
    · subst hd
      have hT : txV n 1 = .tuple #[.string ⟨(Lib.itoa n).toArray⟩, .int .i64 0] := by
        unfold txV txL ratText
        rw [hv]
        simp
      rw [hT]
      clear hT hv
      generalize (Lib.itoa n) = s at *
      go_enter Tryd.func24, Tryd.ntmps24
      go_wp2_with (first | (go_at_call 13; ((with_reducible refine (HV.out _).mono ?_); rintro e w' ⟨rfl, hb⟩; obtain ⟨hz, hc, hf⟩ := bcl hb (by first | (simp; rfl) | rfl))) | (go_at_call 54; ((with_reducible refine (HI.out _ (by (repeat (first | (with_reducible exact bl_refl _) | (with_reducible refine bl_drew ?_) | (with_reducible refine bl_alloc ?_ _) | (with_reducible refine bl_set' ?_ ?_; · (first | omega | (simp; done) | (simp; omega))) | (with_reducible refine bl_last (by assumption) ?_) | (with_reducible refine bl_drewN ?_ _))))).mono ?_); rintro e w' ⟨rfl, hb⟩; obtain ⟨hz, hc, hf⟩ := bcl hb (by first | (simp; rfl) | rfl))))
      (refine bodyPost_ret (v := .tuple #[.string ⟨s.toArray⟩, .int .i64 0]) (by simp only [results, Tryd.results24]; go_simp) rfl ⟨rfl, ?_⟩)
      (repeat (first | (with_reducible exact bl_refl _) | (with_reducible refine bl_drew ?_) | (with_reducible refine bl_alloc ?_ _) | (with_reducible refine bl_set' ?_ ?_; · (first | omega | (simp; done) | (simp; omega))) | (with_reducible refine bl_last (by assumption) ?_) | (with_reducible refine bl_drewN ?_ _)))
    · have hd1 : (d != 1) = true := by simpa using hd
      have hT : txV n d = .tuple #[.string (⟨(Lib.itoa n).toArray⟩ ++ (⟨#[47]⟩ ++ ⟨(Lib.itoa d).toArray⟩)), .int .i64 0] := by
        unfold txV txL ratText
        rw [hv, if_neg hd]
        rw [show (⟨#[47]⟩ : ByteArray) = ⟨[47].toArray⟩ from rfl, bs_append, bs_append]
        rfl
      rw [hT]
      clear hT hv
      have l1 := Lib.itoa_length_le n (by omega) (by omega)
      have l2 := Lib.itoa_length_le d (by omega) (by omega)
      generalize (Lib.itoa n) = s at *
      generalize (Lib.itoa d) = t at *
      go_enter Tryd.func24, Tryd.ntmps24
      go_wp2_with (first | (go_at_call 13; ((with_reducible refine (HV.out _).mono ?_); rintro e w' ⟨rfl, hb⟩; obtain ⟨hz, hc, hf⟩ := bcl hb (by first | (simp; rfl) | rfl))) | (go_at_call 54; ((with_reducible refine (HI.out _ (by (repeat (first | (with_reducible exact bl_refl _) | (with_reducible refine bl_drew ?_) | (with_reducible refine bl_alloc ?_ _) | (with_reducible refine bl_set' ?_ ?_; · (first | omega | (simp; done) | (simp; omega))) | (with_reducible refine bl_last (by assumption) ?_) | (with_reducible refine bl_drewN ?_ _))))).mono ?_); rintro e w' ⟨rfl, hb⟩; obtain ⟨hz, hc, hf⟩ := bcl hb (by first | (simp; rfl) | rfl))) | (go_at_call 54; ((with_reducible refine (HJ.out _ (by (repeat (first | (with_reducible exact bl_refl _) | (with_reducible refine bl_drew ?_) | (with_reducible refine bl_alloc ?_ _) | (with_reducible refine bl_set' ?_ ?_; · (first | omega | (simp; done) | (simp; omega))) | (with_reducible refine bl_last (by assumption) ?_) | (with_reducible refine bl_drewN ?_ _))))).mono ?_); rintro e w' ⟨rfl, hb⟩; obtain ⟨hz, hc, hf⟩ := bcl hb (by first | (simp; rfl) | rfl))))
      (refine bodyPost_ret (v := .tuple #[.string (⟨s.toArray⟩ ++ (⟨#[47]⟩ ++ ⟨t.toArray⟩)), .int .i64 0]) (by simp only [results, Tryd.results24]; go_simp) rfl ⟨rfl, ?_⟩)
      (repeat (first | (with_reducible exact bl_refl _) | (with_reducible refine bl_drew ?_) | (with_reducible refine bl_alloc ?_ _) | (with_reducible refine bl_set' ?_ ?_; · (first | omega | (simp; done) | (simp; omega))) | (with_reducible refine bl_last (by assumption) ?_) | (with_reducible refine bl_drewN ?_ _)))
end Go.Proofs.YtmjbcoapceoakaaDoor
