/- Pitch: Of. Sizes of pitches and of intervals. -/
import Derived.Test.YtehifkdfbiebfaaDoorK09
import Derived.Test.YtehifkdfbiebfaaDoorK01
import Derived.LoopN
import Derived.Test.YtehifkdfbiebfaaDoorK03
namespace Go.Proofs.YtehifkdfbiebfaaDoor
open Go Go.RowKit

/-- An interval as a pitch. -/
def ofV (a b c d e f : Int) : Value := if pV a b c d e f 48 then .tuple #[.agg #[.int .i64 (a * 12), .int .i64 (b * 12), .int .i64 (c * 12), .int .i64 (d * 12), .int .i64 (e * 12), .int .i64 (f * 12)], .int .i64 0] else .tuple #[.agg #[.int .i64 0, .int .i64 0, .int .i64 0, .int .i64 0, .int .i64 0, .int .i64 0], .int .i64 1]
set_option maxRecDepth 100000 in
set_option maxHeartbeats 4000000 in
theorem POf_c (a b c d e f : Int) (w : World) : Calls Tryd.prog 34 #[.agg #[.int .i64 a, .int .i64 b, .int .i64 c, .int .i64 d, .int .i64 e, .int .i64 f]] w (Ret (ofV a b c d e f) w) := by
  have hI := fun w => PInt_c a b c d e f w
  unfold ofV
  cases hp : pV a b c d e f 48
  · rw [hp] at hI
    have HI := Lib.hid hI
    clear hp hI
    rw [if_neg (by decide)]
    go_enter Tryd.func34, Tryd.ntmps34
    go_wp2_with (go_at_call 15; ((with_reducible refine (HI.out _).mono ?_); rintro e w' ⟨rfl, hb⟩; obtain ⟨hz, hc, hf⟩ := bcl hb (by first | (simp; rfl) | rfl)))
    (refine bodyPost_ret (v := .tuple #[.agg #[.int .i64 0, .int .i64 0, .int .i64 0, .int .i64 0, .int .i64 0, .int .i64 0], .int .i64 1]) (by simp only [results, Tryd.results34]; go_simp) rfl ⟨rfl, ?_⟩)
    (repeat (first | (with_reducible exact bl_refl _) | (with_reducible refine bl_drew ?_) | (with_reducible refine bl_alloc ?_ _) | (with_reducible refine bl_set' ?_ ?_; · (first | omega | (simp; done) | (simp; omega))) | (with_reducible refine bl_last (by assumption) ?_) | (with_reducible refine bl_drewN ?_ _)))
  · rw [hp] at hI
    have HI := Lib.hid hI
    rw [if_pos rfl]
    obtain ⟨h1, h2, h3, h4, h5, h6⟩ := pV_of hp
    have h1 := wi_of h1; have h2 := wi_of h2; have h3 := wi_of h3; have h4 := wi_of h4; have h5 := wi_of h5; have h6 := wi_of h6
    clear hp hI
    have q1 : IntKind.i64.wrap (a * 12) = a * 12 := by rw [IntKind.wrap_i64]; omega
    have q2 : IntKind.i64.wrap (b * 12) = b * 12 := by rw [IntKind.wrap_i64]; omega
    have q3 : IntKind.i64.wrap (c * 12) = c * 12 := by rw [IntKind.wrap_i64]; omega
    have q4 : IntKind.i64.wrap (d * 12) = d * 12 := by rw [IntKind.wrap_i64]; omega
    have q5 : IntKind.i64.wrap (e * 12) = e * 12 := by rw [IntKind.wrap_i64]; omega
    have q6 : IntKind.i64.wrap (f * 12) = f * 12 := by rw [IntKind.wrap_i64]; omega
    clear h1 h2 h3 h4 h5 h6
    go_enter Tryd.func34, Tryd.ntmps34
    go_wp2_with (go_at_call 15; ((with_reducible refine (HI.out _).mono ?_); rintro e w' ⟨rfl, hb⟩; obtain ⟨hz, hc, hf⟩ := bcl hb (by first | (simp; rfl) | rfl)))
    refine wp_loop_rounds 7 ?_
    iterate 6 (rw [rounds_succ]; go_wp2)
    rw [rounds_succ]
    refine wp_named ?_
    intro W3 hW3
    have k3 : Below w.heap.size w W3 := by
      rw [hW3]
      repeat (first | (with_reducible exact bl_refl _) | (with_reducible refine bl_alloc ?_ _) | (with_reducible refine bl_set' ?_ ?_; · (dsimp only; omega)) | (with_reducible refine bl_last (by assumption) ?_))
    have hD : Blk W3 w.heap.size 27 #[.int .i64 (a * 12), .int .i64 (b * 12), .int .i64 (c * 12), .int .i64 (d * 12), .int .i64 (e * 12), .int .i64 (f * 12)] := by
      rw [hW3]
      repeat (first | (with_reducible apply Blk.new) | (with_reducible apply blk_s) | (with_reducible apply blk_up (hb := by assumption)) | (with_reducible apply Blk.alloc))
      all_goals rfl
    have hR : Blk W3 (w.heap.size + 1) 72 #[.int .i64 0, .int .i64 0, .int .i64 0, .int .i64 0, .int .i64 0, .int .i64 0] := by
      rw [hW3]
      repeat (first | (with_reducible apply Blk.new) | (with_reducible exact blkAt _ _ _ _ (by simp; done)) | (with_reducible apply blk_far (hne := by omega)) | (with_reducible apply blk_up (hb := by assumption)) | (with_reducible apply Blk.alloc))
    clear hW3
    have zD := hD.lt
    have zR := hR.lt
    have e0 := hD.cell 0
    have e1 := hD.cell 1
    have e2 := hD.cell 2
    have e3 := hD.cell 3
    have e4 := hD.cell 4
    have e5 := hD.cell 5
    have f0 := hR.cell 0
    have f1 := hR.cell 1
    have f2 := hR.cell 2
    have f3 := hR.cell 3
    have f4 := hR.cell 4
    have f5 := hR.cell 5
    have g0 := hR.frozen 0
    have g1 := hR.frozen 1
    have g2 := hR.frozen 2
    have g3 := hR.frozen 3
    have g4 := hR.frozen 4
    have g5 := hR.frozen 5
    simp only [List.getElem?_toArray, List.getElem?_cons_zero, List.getElem?_cons_succ] at e0 e1 e2 e3 e4 e5 f0 f1 f2 f3 f4 f5
    go_wp2
    (refine bodyPost_ret (v := .tuple #[.agg #[.int .i64 (a * 12), .int .i64 (b * 12), .int .i64 (c * 12), .int .i64 (d * 12), .int .i64 (e * 12), .int .i64 (f * 12)], .int .i64 0]) (by simp only [results, Tryd.results34]; go_simp) rfl ⟨rfl, ?_⟩)
    repeat (first | (with_reducible exact k3) | (with_reducible refine bl_set' ?_ ?_; · (dsimp only; omega)) | (with_reducible refine bl_last (by assumption) ?_))
end Go.Proofs.YtehifkdfbiebfaaDoor
namespace Go.Proofs.YtehifkdfbiebfaaDoor
open Go Go.RowKit

theorem B6_of {a b c d e f B : Int} (h : pV a b c d e f B = true) (hB : B ≤ 100000000) : B6 (ex6 a b c d e f) := fun k hk => by
  obtain ⟨h1, h2, h3, h4, h5, h6⟩ := pV_of h
  have h1 := wi_of h1; have h2 := wi_of h2; have h3 := wi_of h3; have h4 := wi_of h4; have h5 := wi_of h5; have h6 := wi_of h6
  rcases lt6' hk with rfl | rfl | rfl | rfl | rfl | rfl
  · show _ ≤ a ∧ a ≤ _; omega
  · show _ ≤ b ∧ b ≤ _; omega
  · show _ ≤ c ∧ c ≤ _; omega
  · show _ ≤ d ∧ d ≤ _; omega
  · show _ ≤ e ∧ e ≤ _; omega
  · show _ ≤ f ∧ f ≤ _; omega
set_option maxRecDepth 100000 in
set_option maxHeartbeats 4000000 in
theorem SzOf_c (a b c d e f : Int) (w : World) (hg : LG w) (hp : pV a b c d e f 576 = true) : Calls Tryd.prog 49 #[.agg #[.int .i64 a, .int .i64 b, .int .i64 c, .int .i64 d, .int .i64 e, .int .i64 f]] w
    (Ret (.tuple #[.agg #[.int .i64 (szL (ex6 a b c d e f) 6), .int .i64 (szH (ex6 a b c d e f) 6)], .int .i64 0]) w) := by
  have HV := Lib.hid (fun w => PVld_c a b c d e f w)
  rw [hp] at HV
  have HE := Lib.hid (fun W (hb : Below w.heap.size w W) => exponents_c a b c d e f W (hg.up hb) (B6_of hp (by omega)))
  clear hp hg
  generalize szL (ex6 a b c d e f) 6 = sl at *
  generalize szH (ex6 a b c d e f) 6 = sh at *
  go_enter Tryd.func49, Tryd.ntmps49
  go_wp2_with (first | (go_at_call 80; ((with_reducible refine (HV.out _).mono ?_); rintro e w' ⟨rfl, hb⟩; obtain ⟨hz, hc, hf⟩ := bcl hb (by first | (simp; rfl) | rfl))) | (go_at_call 93; ((with_reducible refine (HE.out _ (by (repeat (first | (with_reducible exact bl_refl _) | (with_reducible refine bl_drew ?_) | (with_reducible refine bl_alloc ?_ _) | (with_reducible refine bl_set' ?_ ?_; · (first | omega | (simp; done) | (simp; omega))) | (with_reducible refine bl_last (by assumption) ?_) | (with_reducible refine bl_drewN ?_ _))))).mono ?_); rintro e w2 ⟨rfl, hb2⟩; obtain ⟨hz2, hc2, hf2⟩ := bcl hb2 (by first | (simp; rfl) | rfl))))
  (refine bodyPost_ret (v := .tuple #[.agg #[.int .i64 sl, .int .i64 sh], .int .i64 0]) (by simp only [results, Tryd.results49]; go_simp) rfl ⟨rfl, ?_⟩)
  (repeat (first | (with_reducible exact bl_refl _) | (with_reducible refine bl_drew ?_) | (with_reducible refine bl_alloc ?_ _) | (with_reducible refine bl_set' ?_ ?_; · (first | omega | (simp; done) | (simp; omega))) | (with_reducible refine bl_last (by assumption) ?_) | (with_reducible refine bl_drewN ?_ _)))
def ex12 (a b c d e f : Int) : Nat → Int := ex6 (a * 12) (b * 12) (c * 12) (d * 12) (e * 12) (f * 12)
set_option maxRecDepth 100000 in
set_option maxHeartbeats 4000000 in
theorem size18_c (a b c d e f : Int) (w : World) (hg : LG w) (hp : pV a b c d e f 48 = true) : Calls Tryd.prog 9 #[.agg #[.int .i64 a, .int .i64 b, .int .i64 c, .int .i64 d, .int .i64 e, .int .i64 f]] w
    (Ret (.tuple #[.agg #[.int .i64 (szL (ex12 a b c d e f) 6), .int .i64 (szH (ex12 a b c d e f) 6)], .bool true]) w) := by
  have hO := fun w => POf_c a b c d e f w
  unfold ofV at hO
  rw [hp] at hO
  simp only [if_true] at hO
  have HO := Lib.hid hO
  have hp2 : pV (a * 12) (b * 12) (c * 12) (d * 12) (e * 12) (f * 12) 576 = true := by
    obtain ⟨h1, h2, h3, h4, h5, h6⟩ := pV_of hp
    have h1 := wi_of h1; have h2 := wi_of h2; have h3 := wi_of h3; have h4 := wi_of h4; have h5 := wi_of h5; have h6 := wi_of h6
    unfold pV wi
    simp only [Bool.and_eq_true, decide_eq_true_eq]
    omega
  have HS := Lib.hid (fun W (hb : Below w.heap.size w W) => SzOf_c (a * 12) (b * 12) (c * 12) (d * 12) (e * 12) (f * 12) W (hg.up hb) hp2)
  unfold ex12
  clear hp hp2 hg hO
  generalize szL (ex6 (a * 12) (b * 12) (c * 12) (d * 12) (e * 12) (f * 12)) 6 = sl at *
  generalize szH (ex6 (a * 12) (b * 12) (c * 12) (d * 12) (e * 12) (f * 12)) 6 = sh at *
  go_enter Tryd.func9, Tryd.ntmps9
  go_wp2_with (first | (go_at_call 34; ((with_reducible refine (HO.out _).mono ?_); rintro e w' ⟨rfl, hb⟩; obtain ⟨hz, hc, hf⟩ := bcl hb (by first | (simp; rfl) | rfl))) | (go_at_call 49; ((with_reducible refine (HS.out _ (by (repeat (first | (with_reducible exact bl_refl _) | (with_reducible refine bl_drew ?_) | (with_reducible refine bl_alloc ?_ _) | (with_reducible refine bl_set' ?_ ?_; · (first | omega | (simp; done) | (simp; omega))) | (with_reducible refine bl_last (by assumption) ?_) | (with_reducible refine bl_drewN ?_ _))))).mono ?_); rintro e w2 ⟨rfl, hb2⟩; obtain ⟨hz2, hc2, hf2⟩ := bcl hb2 (by first | (simp; rfl) | rfl))))
  (refine bodyPost_ret (v := .tuple #[.agg #[.int .i64 sl, .int .i64 sh], .bool true]) (by simp only [results, Tryd.results9]; go_simp) rfl ⟨rfl, ?_⟩)
  (repeat (first | (with_reducible exact bl_refl _) | (with_reducible refine bl_drew ?_) | (with_reducible refine bl_alloc ?_ _) | (with_reducible refine bl_set' ?_ ?_; · (first | omega | (simp; done) | (simp; omega))) | (with_reducible refine bl_last (by assumption) ?_) | (with_reducible refine bl_drewN ?_ _)))
end Go.Proofs.YtehifkdfbiebfaaDoor
