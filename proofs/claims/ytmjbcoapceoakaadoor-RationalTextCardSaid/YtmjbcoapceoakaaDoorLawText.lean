/- RationalText: the walk of the law. -/
import Derived.Test.YtmjbcoapceoakaaDoorTxtE
namespace Go.Proofs.YtmjbcoapceoakaaDoor
open Go Go.RowKit Go.Lib

theorem parse_yes {n d : Int} {s : ByteArray} (hv : vR n d = true) (ht : ratText n d = s.data.toList) (w : World) (hs : s.size ≤ 140737488351232) (hw : TW w) :
    Calls Tryd.prog 25 #[.string s] w (Ret (.tuple #[.agg #[.int .i64 n, .int .i64 d], .int .i64 0]) w) := by
  refine (Parse_c s w hs hw).mono ?_
  rintro e w' ⟨hb, v, rfl, hp⟩
  exact ⟨by rw [hp.same (PaP.good hv ht)], hb⟩
theorem parse_no {s : ByteArray} (h : ∀ n d, vR n d = true → ratText n d ≠ s.data.toList) (w : World) (hs : s.size ≤ 140737488351232) (hw : TW w) :
    Calls Tryd.prog 25 #[.string s] w (Ret (.tuple #[.agg #[.int .i64 0, .int .i64 0], .int .i64 8]) w) := by
  refine (Parse_c s w hs hw).mono ?_
  rintro e w' ⟨hb, v, rfl, hp⟩
  exact ⟨by rw [hp.same (Or.inr ⟨h, rfl⟩)], hb⟩
theorem text_len {n d : Int} (hv : vR n d = true) : (ratText n d).length ≤ 43 := by
  obtain ⟨v1, v2, v3, v4, _⟩ := v_of hv
  have l1 := Lib.itoa_length_le n (by omega) (by omega)
  have l2 := Lib.itoa_length_le d (by omega) (by omega)
  unfold ratText
  rw [List.length_append]
  split
  · simp; omega
  · simp; omega
theorem text_v {n d : Int} (hv : vR n d = true) (w : World) (ht : PW w) : Calls Tryd.prog 24 #[.agg #[.int .i64 n, .int .i64 d]] w (Ret (.tuple #[.string ⟨(ratText n d).toArray⟩, .int .i64 0]) w) := by
  have h := Text_c n d w ht
  unfold txV txL at h
  rw [hv] at h
  exact h
theorem text_bad {n d : Int} (hv : vR n d = false) (w : World) (ht : PW w) : Calls Tryd.prog 24 #[.agg #[.int .i64 n, .int .i64 d]] w (Ret (.tuple #[.string ⟨#[]⟩, .int .i64 1]) w) := by
  have h := Text_c n d w ht
  unfold txV txL at h
  rw [hv] at h
  exact h
set_option maxRecDepth 100000 in
set_option maxHeartbeats 4000000 in
theorem walk_RationalText (an ad : Int) (s : ByteArray) (w : World) (_ : (Lit.int .i64 an).wf = true) (_ : (Lit.int .i64 ad).wf = true) (hs : s.size ≤ 140737488351232) (ht : TW w) :
    Calls Tryd.prog 9 #[.agg #[.int .i64 an, .int .i64 ad], .string s] w (Ret (.bool true) w) := by
  have HH := Lib.hid (fun w h => head02_c w h)
  have HT := Lib.hid ht
  clear ht
  have hways : (∃ n d, vR n d = true ∧ ratText n d = s.data.toList) ∨ (∀ n d, vR n d = true → ratText n d ≠ s.data.toList) := by
    by_cases h : ∃ n d, vR n d = true ∧ ratText n d = s.data.toList
    · exact Or.inl h
    · exact Or.inr (fun n d hv ht => h ⟨n, d, hv, ht⟩)
  rcases hways with ⟨n, d, hv, ht⟩ | hno <;> cases ha : vR an ad
  · have HT1 := Lib.hid (fun w (h : TW w) => text_bad ha w h.pw)
    have HP2 := Lib.hid (fun w (h : TW w) => parse_yes hv ht w hs h)
    have HT2 := Lib.hid (fun w (h : TW w) => text_v hv w h.pw)
    rw [ht, Lib.mk_data] at HT2
    clear ht hv ha hs
    go_enter Tryd.func9, Tryd.ntmps9
    go_wp2_with (first | (go_at_call 11; ((with_reducible refine (HH.out _ (HT.out.up (by (repeat (first | (with_reducible exact bl_refl _) | (with_reducible refine bl_drew ?_) | (with_reducible refine bl_alloc ?_ _) | (with_reducible refine bl_set' ?_ ?_; · (first | omega | (simp; done) | (simp; omega))) | (with_reducible refine bl_last (by assumption) ?_) | (with_reducible refine bl_drewN ?_ _))))).pw).mono ?_); rintro e w' ⟨rfl, hb⟩; obtain ⟨hz, hc, hf⟩ := bcl hb (by first | (simp; rfl) | rfl))) | (go_at_call 24; ((with_reducible refine (HT1.out _ (HT.out.up (by (repeat (first | (with_reducible exact bl_refl _) | (with_reducible refine bl_drew ?_) | (with_reducible refine bl_alloc ?_ _) | (with_reducible refine bl_set' ?_ ?_; · (first | omega | (simp; done) | (simp; omega))) | (with_reducible refine bl_last (by assumption) ?_) | (with_reducible refine bl_drewN ?_ _)))))).mono ?_); rintro e w' ⟨rfl, hb⟩; obtain ⟨hz, hc, hf⟩ := bcl hb (by first | (simp; rfl) | rfl))) | (go_at_call 25; ((with_reducible refine (HP2.out _ (HT.out.up (by (repeat (first | (with_reducible exact bl_refl _) | (with_reducible refine bl_drew ?_) | (with_reducible refine bl_alloc ?_ _) | (with_reducible refine bl_set' ?_ ?_; · (first | omega | (simp; done) | (simp; omega))) | (with_reducible refine bl_last (by assumption) ?_) | (with_reducible refine bl_drewN ?_ _)))))).mono ?_); rintro e w' ⟨rfl, hb⟩; obtain ⟨hz, hc, hf⟩ := bcl hb (by first | (simp; rfl) | rfl))) | (go_at_call 24; ((with_reducible refine (HT2.out _ (HT.out.up (by (repeat (first | (with_reducible exact bl_refl _) | (with_reducible refine bl_drew ?_) | (with_reducible refine bl_alloc ?_ _) | (with_reducible refine bl_set' ?_ ?_; · (first | omega | (simp; done) | (simp; omega))) | (with_reducible refine bl_last (by assumption) ?_) | (with_reducible refine bl_drewN ?_ _)))))).mono ?_); rintro e w' ⟨rfl, hb⟩; obtain ⟨hz, hc, hf⟩ := bcl hb (by first | (simp; rfl) | rfl))))
    go_ret
    refine ⟨rfl, ?_⟩
    (repeat (first | (with_reducible exact bl_refl _) | (with_reducible refine bl_drew ?_) | (with_reducible refine bl_alloc ?_ _) | (with_reducible refine bl_set' ?_ ?_; · (first | omega | (simp; done) | (simp; omega))) | (with_reducible refine bl_last (by assumption) ?_) | (with_reducible refine bl_drewN ?_ _)))
  · have HT1 := Lib.hid (fun w (h : TW w) => text_v ha w h.pw)
    have HP1 := Lib.hid (fun w (h : TW w) => parse_yes (s := ⟨(ratText an ad).toArray⟩) ha rfl w (by have := text_len ha; show (ratText an ad).length ≤ _; omega) h)
    have HP2 := Lib.hid (fun w (h : TW w) => parse_yes hv ht w hs h)
    have HT2 := Lib.hid (fun w (h : TW w) => text_v hv w h.pw)
    rw [ht, Lib.mk_data] at HT2
    generalize (⟨(ratText an ad).toArray⟩ : ByteArray) = t at *
    clear ht hv ha hs
    go_enter Tryd.func9, Tryd.ntmps9
    go_wp2_with (first | (go_at_call 11; ((with_reducible refine (HH.out _ (HT.out.up (by (repeat (first | (with_reducible exact bl_refl _) | (with_reducible refine bl_drew ?_) | (with_reducible refine bl_alloc ?_ _) | (with_reducible refine bl_set' ?_ ?_; · (first | omega | (simp; done) | (simp; omega))) | (with_reducible refine bl_last (by assumption) ?_) | (with_reducible refine bl_drewN ?_ _))))).pw).mono ?_); rintro e w' ⟨rfl, hb⟩; obtain ⟨hz, hc, hf⟩ := bcl hb (by first | (simp; rfl) | rfl))) | (go_at_call 24; ((with_reducible refine (HT1.out _ (HT.out.up (by (repeat (first | (with_reducible exact bl_refl _) | (with_reducible refine bl_drew ?_) | (with_reducible refine bl_alloc ?_ _) | (with_reducible refine bl_set' ?_ ?_; · (first | omega | (simp; done) | (simp; omega))) | (with_reducible refine bl_last (by assumption) ?_) | (with_reducible refine bl_drewN ?_ _)))))).mono ?_); rintro e w' ⟨rfl, hb⟩; obtain ⟨hz, hc, hf⟩ := bcl hb (by first | (simp; rfl) | rfl))) | (go_at_call 25; ((with_reducible refine (HP1.out _ (HT.out.up (by (repeat (first | (with_reducible exact bl_refl _) | (with_reducible refine bl_drew ?_) | (with_reducible refine bl_alloc ?_ _) | (with_reducible refine bl_set' ?_ ?_; · (first | omega | (simp; done) | (simp; omega))) | (with_reducible refine bl_last (by assumption) ?_) | (with_reducible refine bl_drewN ?_ _)))))).mono ?_); rintro e w' ⟨rfl, hb⟩; obtain ⟨hz, hc, hf⟩ := bcl hb (by first | (simp; rfl) | rfl))) | (go_at_call 25; ((with_reducible refine (HP2.out _ (HT.out.up (by (repeat (first | (with_reducible exact bl_refl _) | (with_reducible refine bl_drew ?_) | (with_reducible refine bl_alloc ?_ _) | (with_reducible refine bl_set' ?_ ?_; · (first | omega | (simp; done) | (simp; omega))) | (with_reducible refine bl_last (by assumption) ?_) | (with_reducible refine bl_drewN ?_ _)))))).mono ?_); rintro e w' ⟨rfl, hb⟩; obtain ⟨hz, hc, hf⟩ := bcl hb (by first | (simp; rfl) | rfl))) | (go_at_call 24; ((with_reducible refine (HT2.out _ (HT.out.up (by (repeat (first | (with_reducible exact bl_refl _) | (with_reducible refine bl_drew ?_) | (with_reducible refine bl_alloc ?_ _) | (with_reducible refine bl_set' ?_ ?_; · (first | omega | (simp; done) | (simp; omega))) | (with_reducible refine bl_last (by assumption) ?_) | (with_reducible refine bl_drewN ?_ _)))))).mono ?_); rintro e w' ⟨rfl, hb⟩; obtain ⟨hz, hc, hf⟩ := bcl hb (by first | (simp; rfl) | rfl))))
    go_ret
    refine ⟨rfl, ?_⟩
    (repeat (first | (with_reducible exact bl_refl _) | (with_reducible refine bl_drew ?_) | (with_reducible refine bl_alloc ?_ _) | (with_reducible refine bl_set' ?_ ?_; · (first | omega | (simp; done) | (simp; omega))) | (with_reducible refine bl_last (by assumption) ?_) | (with_reducible refine bl_drewN ?_ _)))
  · have HT1 := Lib.hid (fun w (h : TW w) => text_bad ha w h.pw)
    have HP2 := Lib.hid (fun w (h : TW w) => parse_no hno w hs h)
    clear hno ha hs
    go_enter Tryd.func9, Tryd.ntmps9
    go_wp2_with (first | (go_at_call 11; ((with_reducible refine (HH.out _ (HT.out.up (by (repeat (first | (with_reducible exact bl_refl _) | (with_reducible refine bl_drew ?_) | (with_reducible refine bl_alloc ?_ _) | (with_reducible refine bl_set' ?_ ?_; · (first | omega | (simp; done) | (simp; omega))) | (with_reducible refine bl_last (by assumption) ?_) | (with_reducible refine bl_drewN ?_ _))))).pw).mono ?_); rintro e w' ⟨rfl, hb⟩; obtain ⟨hz, hc, hf⟩ := bcl hb (by first | (simp; rfl) | rfl))) | (go_at_call 24; ((with_reducible refine (HT1.out _ (HT.out.up (by (repeat (first | (with_reducible exact bl_refl _) | (with_reducible refine bl_drew ?_) | (with_reducible refine bl_alloc ?_ _) | (with_reducible refine bl_set' ?_ ?_; · (first | omega | (simp; done) | (simp; omega))) | (with_reducible refine bl_last (by assumption) ?_) | (with_reducible refine bl_drewN ?_ _)))))).mono ?_); rintro e w' ⟨rfl, hb⟩; obtain ⟨hz, hc, hf⟩ := bcl hb (by first | (simp; rfl) | rfl))) | (go_at_call 25; ((with_reducible refine (HP2.out _ (HT.out.up (by (repeat (first | (with_reducible exact bl_refl _) | (with_reducible refine bl_drew ?_) | (with_reducible refine bl_alloc ?_ _) | (with_reducible refine bl_set' ?_ ?_; · (first | omega | (simp; done) | (simp; omega))) | (with_reducible refine bl_last (by assumption) ?_) | (with_reducible refine bl_drewN ?_ _)))))).mono ?_); rintro e w' ⟨rfl, hb⟩; obtain ⟨hz, hc, hf⟩ := bcl hb (by first | (simp; rfl) | rfl))))
    go_ret
    refine ⟨rfl, ?_⟩
    (repeat (first | (with_reducible exact bl_refl _) | (with_reducible refine bl_drew ?_) | (with_reducible refine bl_alloc ?_ _) | (with_reducible refine bl_set' ?_ ?_; · (first | omega | (simp; done) | (simp; omega))) | (with_reducible refine bl_last (by assumption) ?_) | (with_reducible refine bl_drewN ?_ _)))
  · have HT1 := Lib.hid (fun w (h : TW w) => text_v ha w h.pw)
    have HP1 := Lib.hid (fun w (h : TW w) => parse_yes (s := ⟨(ratText an ad).toArray⟩) ha rfl w (by have := text_len ha; show (ratText an ad).length ≤ _; omega) h)
    have HP2 := Lib.hid (fun w (h : TW w) => parse_no hno w hs h)
    generalize (⟨(ratText an ad).toArray⟩ : ByteArray) = t at *
    clear hno ha hs
    go_enter Tryd.func9, Tryd.ntmps9
    go_wp2_with (first | (go_at_call 11; ((with_reducible refine (HH.out _ (HT.out.up (by (repeat (first | (with_reducible exact bl_refl _) | (with_reducible refine bl_drew ?_) | (with_reducible refine bl_alloc ?_ _) | (with_reducible refine bl_set' ?_ ?_; · (first | omega | (simp; done) | (simp; omega))) | (with_reducible refine bl_last (by assumption) ?_) | (with_reducible refine bl_drewN ?_ _))))).pw).mono ?_); rintro e w' ⟨rfl, hb⟩; obtain ⟨hz, hc, hf⟩ := bcl hb (by first | (simp; rfl) | rfl))) | (go_at_call 24; ((with_reducible refine (HT1.out _ (HT.out.up (by (repeat (first | (with_reducible exact bl_refl _) | (with_reducible refine bl_drew ?_) | (with_reducible refine bl_alloc ?_ _) | (with_reducible refine bl_set' ?_ ?_; · (first | omega | (simp; done) | (simp; omega))) | (with_reducible refine bl_last (by assumption) ?_) | (with_reducible refine bl_drewN ?_ _)))))).mono ?_); rintro e w' ⟨rfl, hb⟩; obtain ⟨hz, hc, hf⟩ := bcl hb (by first | (simp; rfl) | rfl))) | (go_at_call 25; ((with_reducible refine (HP1.out _ (HT.out.up (by (repeat (first | (with_reducible exact bl_refl _) | (with_reducible refine bl_drew ?_) | (with_reducible refine bl_alloc ?_ _) | (with_reducible refine bl_set' ?_ ?_; · (first | omega | (simp; done) | (simp; omega))) | (with_reducible refine bl_last (by assumption) ?_) | (with_reducible refine bl_drewN ?_ _)))))).mono ?_); rintro e w' ⟨rfl, hb⟩; obtain ⟨hz, hc, hf⟩ := bcl hb (by first | (simp; rfl) | rfl))) | (go_at_call 25; ((with_reducible refine (HP2.out _ (HT.out.up (by (repeat (first | (with_reducible exact bl_refl _) | (with_reducible refine bl_drew ?_) | (with_reducible refine bl_alloc ?_ _) | (with_reducible refine bl_set' ?_ ?_; · (first | omega | (simp; done) | (simp; omega))) | (with_reducible refine bl_last (by assumption) ?_) | (with_reducible refine bl_drewN ?_ _)))))).mono ?_); rintro e w' ⟨rfl, hb⟩; obtain ⟨hz, hc, hf⟩ := bcl hb (by first | (simp; rfl) | rfl))))
    go_ret
    refine ⟨rfl, ?_⟩
    (repeat (first | (with_reducible exact bl_refl _) | (with_reducible refine bl_drew ?_) | (with_reducible refine bl_alloc ?_ _) | (with_reducible refine bl_set' ?_ ?_; · (first | omega | (simp; done) | (simp; omega))) | (with_reducible refine bl_last (by assumption) ?_) | (with_reducible refine bl_drewN ?_ _)))
end Go.Proofs.YtmjbcoapceoakaaDoor
