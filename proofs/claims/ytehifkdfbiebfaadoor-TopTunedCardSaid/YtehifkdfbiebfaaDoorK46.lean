/- Sizes of pitches and of intervals. -/
import Derived.Test.YtehifkdfbiebfaaDoorK04
import Derived.Test.YtehifkdfbiebfaaDoorK45
namespace Go.Proofs.YtehifkdfbiebfaaDoor
open Go Go.RowKit

theorem B6_of {a b c d e f B : Int} (h : pV a b c d e f B = true) (hB : B ≤ 100000000) : B6 (ex6 a b c d e f) := fun k hk => by
  obtain ⟨h1, h2, h3, h4, h5, h6⟩ := pV_of h
  have h1 := wi_of h1; have h2 := wi_of h2; have h3 := wi_of h3; have h4 := wi_of h4; have h5 := wi_of h5; have h6 := wi_of h6
  rcases lt6' hk with rfl | rfl | rfl | rfl | rfl | rfl
  · show _ ≤ a ∧ a ≤ _; omega
  · show _ ≤ b ∧ b ≤ _; omega
  · show _ ≤ c ∧ c ≤ _; omega
  · show _ ≤ d ∧ d ≤ _; omega
  · show _ ≤ e ∧ e ≤ _; omega
  · show _ ≤ f ∧ f ≤ _; omega
set_option maxRecDepth 100000 in
set_option maxHeartbeats 4000000 in
theorem SzOf_c (a b c d e f : Int) (w : World) (hg : LG w) (hp : pV a b c d e f 576 = true) : Calls Tryd.prog 49 #[.agg #[.int .i64 a, .int .i64 b, .int .i64 c, .int .i64 d, .int .i64 e, .int .i64 f]] w
    (Ret (.tuple #[.agg #[.int .i64 (szL (ex6 a b c d e f) 6), .int .i64 (szH (ex6 a b c d e f) 6)], .int .i64 0]) w) := by
  have HV := Lib.hid (fun w => PVld_c a b c d e f w)
  rw [hp] at HV
  have HE := Lib.hid (fun W (hb : Below w.heap.size w W) => exponents_c a b c d e f W (hg.up hb) (B6_of hp (by omega)))
  clear hp hg
  generalize szL (ex6 a b c d e f) 6 = sl at *
  generalize szH (ex6 a b c d e f) 6 = sh at *
  go_enter Tryd.func49, Tryd.ntmps49
  go_wp2_with (first | (go_at_call 80; ((with_reducible refine (HV.out _).mono ?_); rintro e w' ⟨rfl, hb⟩; obtain ⟨hz, hc, hf⟩ := bcl hb (by first | (simp; rfl) | rfl))) | (go_at_call 93; ((with_reducible refine (HE.out _ (by (repeat (first | (with_reducible exact bl_refl _) | (with_reducible refine bl_drew ?_) | (with_reducible refine bl_alloc ?_ _) | (with_reducible refine bl_set' ?_ ?_; · (first | omega | (simp; done) | (simp; omega))) | (with_reducible refine bl_last (by assumption) ?_) | (with_reducible refine bl_drewN ?_ _))))).mono ?_); rintro e w2 ⟨rfl, hb2⟩; obtain ⟨hz2, hc2, hf2⟩ := bcl hb2 (by first | (simp; rfl) | rfl))))
  (refine bodyPost_ret (v := .tuple #[.agg #[.int .i64 sl, .int .i64 sh], .int .i64 0]) (by simp only [results, Tryd.results49]; go_simp) rfl ⟨rfl, ?_⟩)
  (repeat (first | (with_reducible exact bl_refl _) | (with_reducible refine bl_drew ?_) | (with_reducible refine bl_alloc ?_ _) | (with_reducible refine bl_set' ?_ ?_; · (first | omega | (simp; done) | (simp; omega))) | (with_reducible refine bl_last (by assumption) ?_) | (with_reducible refine bl_drewN ?_ _)))
def ex12 (a b c d e f : Int) : Nat → Int := ex6 (a * 12) (b * 12) (c * 12) (d * 12) (e * 12) (f * 12)
set_option maxRecDepth 100000 in
set_option maxHeartbeats 4000000 in
theorem size18_c (a b c d e f : Int) (w : World) (hg : LG w) (hp : pV a b c d e f 48 = true) : Calls Tryd.prog 9 #[.agg #[.int .i64 a, .int .i64 b, .int .i64 c, .int .i64 d, .int .i64 e, .int .i64 f]] w
    (Ret (.tuple #[.agg #[.int .i64 (szL (ex12 a b c d e f) 6), .int .i64 (szH (ex12 a b c d e f) 6)], .bool true]) w) := by
  have hO := fun w => POf_c a b c d e f w
  unfold ofV at hO
  rw [hp] at hO
  simp only [if_true] at hO
  have HO := Lib.hid hO
  have hp2 : pV (a * 12) (b * 12) (c * 12) (d * 12) (e * 12) (f * 12) 576 = true := by
    obtain ⟨h1, h2, h3, h4, h5, h6⟩ := pV_of hp
    have h1 := wi_of h1; have h2 := wi_of h2; have h3 := wi_of h3; have h4 := wi_of h4; have h5 := wi_of h5; have h6 := wi_of h6
    unfold pV wi
    simp only [Bool.and_eq_true, decide_eq_true_eq]
    omega
  have HS := Lib.hid (fun W (hb : Below w.heap.size w W) => SzOf_c (a * 12) (b * 12) (c * 12) (d * 12) (e * 12) (f * 12) W (hg.up hb) hp2)
  unfold ex12
  clear hp hp2 hg hO
  generalize szL (ex6 (a * 12) (b * 12) (c * 12) (d * 12) (e * 12) (f * 12)) 6 = sl at *
  generalize szH (ex6 (a * 12) (b * 12) (c * 12) (d * 12) (e * 12) (f * 12)) 6 = sh at *
  go_enter Tryd.func9, Tryd.ntmps9
  go_wp2_with (first | (go_at_call 34; ((with_reducible refine (HO.out _).mono ?_); rintro e w' ⟨rfl, hb⟩; obtain ⟨hz, hc, hf⟩ := bcl hb (by first | (simp; rfl) | rfl))) | (go_at_call 49; ((with_reducible refine (HS.out _ (by (repeat (first | (with_reducible exact bl_refl _) | (with_reducible refine bl_drew ?_) | (with_reducible refine bl_alloc ?_ _) | (with_reducible refine bl_set' ?_ ?_; · (first | omega | (simp; done) | (simp; omega))) | (with_reducible refine bl_last (by assumption) ?_) | (with_reducible refine bl_drewN ?_ _))))).mono ?_); rintro e w2 ⟨rfl, hb2⟩; obtain ⟨hz2, hc2, hf2⟩ := bcl hb2 (by first | (simp; rfl) | rfl))))
  (refine bodyPost_ret (v := .tuple #[.agg #[.int .i64 sl, .int .i64 sh], .bool true]) (by simp only [results, Tryd.results9]; go_simp) rfl ⟨rfl, ?_⟩)
  (repeat (first | (with_reducible exact bl_refl _) | (with_reducible refine bl_drew ?_) | (with_reducible refine bl_alloc ?_ _) | (with_reducible refine bl_set' ?_ ?_; · (first | omega | (simp; done) | (simp; omega))) | (with_reducible refine bl_last (by assumption) ?_) | (with_reducible refine bl_drewN ?_ _)))
end Go.Proofs.YtehifkdfbiebfaaDoor
