/- PitchTexts: the walk (genlaw03.py prints it). -/
import Derived.Test.YtgbiiaaeabflnaaDoorHead03
import Derived.Test.YtgbiiaaeabflnaaDoorParD
namespace Go.Proofs.YtgbiiaaeabflnaaDoor
open Go Go.RowKit

theorem tm_len : ((List.range 6).all fun k => (List.range 1153).all fun n => decide ((termB (prm k) ((n : Int) - 576)).length ≤ 20)) = true := by decide +kernel
theorem tm_len1 {k : Nat} {e : Int} (hk : k < 6) (h0 : -576 ≤ e) (h1 : e ≤ 576) : (termB (prm k) e).length ≤ 20 := by
  obtain ⟨n, hn⟩ : ∃ n : Nat, n = (e + 576).toNat := ⟨_, rfl⟩
  have h := List.all_eq_true.1 (List.all_eq_true.1 tm_len k (List.mem_range.2 hk)) n (List.mem_range.2 (by omega))
  have e1 : ((n : Int) - 576) = e := by omega
  rw [e1] at h
  simpa using h
theorem textB_len {p0 p1 p2 p3 p4 p5 : Int} (hp : pV p0 p1 p2 p3 p4 p5 576 = true) : (textB (pex p0 p1 p2 p3 p4 p5)).length ≤ 200 := by
  have hE : ∀ k, k < 6 → -576 ≤ pex p0 p1 p2 p3 p4 p5 k ∧ pex p0 p1 p2 p3 p4 p5 k ≤ 576 := fun k hk => by
    obtain ⟨h1, h2, h3, h4, h5, h6⟩ := pV_of hp
    rcases lt6 hk with rfl | rfl | rfl | rfl | rfl | rfl
    · exact wi_of h1
    · exact wi_of h2
    · exact wi_of h3
    · exact wi_of h4
    · exact wi_of h5
    · exact wi_of h6
  unfold textB
  split
  · decide
  · rw [ixs_map]
    have hm : ∀ x ∈ (ixs (pex p0 p1 p2 p3 p4 p5) 6).map (fun k => termB (prm k) (pex p0 p1 p2 p3 p4 p5 k)), x.length ≤ 20 := by
      intro x hx
      rw [List.mem_map] at hx
      obtain ⟨k, hk, rfl⟩ := hx
      have := (ixs_mem _ k 6).1 hk
      exact tm_len1 this.1 (hE k this.1).1 (hE k this.1).2
    have hl : ((ixs (pex p0 p1 p2 p3 p4 p5) 6).map (fun k => termB (prm k) (pex p0 p1 p2 p3 p4 p5 k))).length ≤ 6 := by
      rw [← ixs_map, List.length_map]
      exact txtL_len _ 6
    generalize ((ixs (pex p0 p1 p2 p3 p4 p5) 6).map (fun k => termB (prm k) (pex p0 p1 p2 p3 p4 p5 k))) = L at hm hl
    cases L with
    | nil => simp [Lib.join_nil]
    | cons x r =>
      rw [Lib.join_length]
      have h1 := lens_le (x :: r) 20 hm
      have : ([42] : List UInt8).length = 1 := rfl
      rw [this]
      simp only [List.length_cons] at h1 hl
      omega
set_option maxRecDepth 100000 in
set_option maxHeartbeats 16000000 in
theorem walk_PitchTexts (p0 p1 p2 p3 p4 p5 : Int) (s : ByteArray) (w : World)
    (w_p0 : (Lit.int .i64 p0).wf = true) (w_p1 : (Lit.int .i64 p1).wf = true) (w_p2 : (Lit.int .i64 p2).wf = true) (w_p3 : (Lit.int .i64 p3).wf = true) (w_p4 : (Lit.int .i64 p4).wf = true) (w_p5 : (Lit.int .i64 p5).wf = true) (hs : s.size ≤ 140737488351232) (hL : PR w ∧ PW w) :
    Calls Tryd.prog 4 #[.agg #[.int .i64 p0, .int .i64 p1, .int .i64 p2, .int .i64 p3, .int .i64 p4, .int .i64 p5], .string s] w (Ret (.bool true) w) := by
  clear w_p0 w_p1 w_p2 w_p3 w_p4 w_p5
  have HP := Lib.hid hL.1
  have HQ := Lib.hid hL.2
  have HH := Lib.hid (fun W (h : PR W) (h' : PW W) => head03_c W h h')
  clear hL
  have h1 := fun W (h : PR W) (h' : PW W) => PText_c p0 p1 p2 p3 p4 p5 W h h'
  have h3 := fun W => RPVld_c p0 p1 p2 p3 p4 p5 W
  obtain ⟨l, hl⟩ : ∃ l : List UInt8, l = s.data.toList := ⟨_, rfl⟩
  have hsl : s = ⟨l.toArray⟩ := by rw [hl]
  have hsz : s.size = l.length := by rw [hl, Array.length_toList]; rfl
  unfold textV at h1
  cases hp : pV p0 p1 p2 p3 p4 p5 576
  · rw [hp] at h1 h3
    rw [if_neg (by decide)] at h1
    have H3 := Lib.hid h3
    clear h3
    have H1 := Lib.hid h1
    clear h1 hp
    rcases Nat.lt_or_ge 200 s.size with hz | hz
    · have hz2 : (200 : Int) < (s.size : Int) := by omega
      clear hsl hl hsz
      go_enter Tryd.func4, Tryd.ntmps4
      go_wp2_with fail
      ((with_reducible refine (HH.out _ (HP.out.up (by (repeat (first | (with_reducible exact bl_refl _) | (with_reducible refine bl_drew ?_) | (with_reducible refine bl_alloc ?_ _) | (with_reducible refine bl_set' ?_ ?_; · (first | omega | (simp; done) | (simp; omega))) | (with_reducible refine bl_last (by assumption) ?_) | (with_reducible refine bl_drewN ?_ _))))) (tab_up HQ.out (by (repeat (first | (with_reducible exact bl_refl _) | (with_reducible refine bl_drew ?_) | (with_reducible refine bl_alloc ?_ _) | (with_reducible refine bl_set' ?_ ?_; · (first | omega | (simp; done) | (simp; omega))) | (with_reducible refine bl_last (by assumption) ?_) | (with_reducible refine bl_drewN ?_ _)))))).mono ?_); rintro e u0 ⟨rfl, d0⟩)
      obtain ⟨hz0, hc0, hf0⟩ := bcl d0 (by first | (simp; rfl) | rfl)
      have z0_0 : w.heap.size < u0.heap.size := by omega
      go_wp2_with fail
      refine calls_letter ?_
      intro W1 hW1
      have k1 : Below w.heap.size w W1 := by
        rw [hW1]
        (repeat (first | (with_reducible assumption) | (with_reducible exact bl_refl _) | (with_reducible refine bl_alloc ?_ _) | (with_reducible refine bl_set' ?_ ?_; · (dsimp only; first | assumption | exact Nat.le_refl _ | omega)) | (with_reducible refine bl_last (by assumption) ?_)))
      have P1 : Blk W1 (w.heap.size) 23 #[.int .i64 p0, .int .i64 p1, .int .i64 p2, .int .i64 p3, .int .i64 p4, .int .i64 p5] := by
        rw [hW1]
        (repeat (first | (with_reducible assumption) | (with_reducible apply Blk.new) | (with_reducible exact blkAt _ _ _ _ (by simp; done)) | (with_reducible apply blk_st2) | (with_reducible apply blk_st4) | (with_reducible apply blk_st6) | (with_reducible apply blk_far (hne := by first | (with_reducible assumption) | omega)) | (with_reducible apply blk_up (hb := by assumption)) | (with_reducible apply Blk.alloc)))
      clear hW1
      try clear hz0
      try clear hc0
      try clear hf0
      try clear d0
      try clear z0_0
      have y1 := k1.size
      have gP1 := P1.lt
      have lP1 := Nat.le_of_lt gP1
      have cP1_0 := P1.cell 0
      have cP1_1 := P1.cell 1
      have cP1_2 := P1.cell 2
      have cP1_3 := P1.cell 3
      have cP1_4 := P1.cell 4
      have cP1_5 := P1.cell 5
      simp only [List.getElem?_toArray, List.getElem?_cons_zero, List.getElem?_cons_succ] at cP1_0 cP1_1 cP1_2 cP1_3 cP1_4 cP1_5
      ((with_reducible refine (H1.out _ (HP.out.up k1) (tab_up HQ.out k1)).mono ?_); rintro e u1 ⟨rfl, d1⟩)
      obtain ⟨hz1, hc1, hf1⟩ := bcl d1 (by first | (simp; rfl) | rfl)
      have qP1 : w.heap.size < u1.heap.size := by omega
      have pP1 : w.heap.size ≤ u1.heap.size := by omega
      go_wp2_with fail
      refine calls_letter ?_
      intro W2 hW2
      have k2 : Below w.heap.size w W2 := by
        rw [hW2]
        (repeat (first | (with_reducible assumption) | (with_reducible exact bl_refl _) | (with_reducible refine bl_alloc ?_ _) | (with_reducible refine bl_set' ?_ ?_; · (dsimp only; first | assumption | exact Nat.le_refl _ | omega)) | (with_reducible refine bl_last (by assumption) ?_)))
      have P2 : Blk W2 (w.heap.size) 23 #[.int .i64 p0, .int .i64 p1, .int .i64 p2, .int .i64 p3, .int .i64 p4, .int .i64 p5] := by
        rw [hW2]
        (repeat (first | (with_reducible assumption) | (with_reducible apply Blk.new) | (with_reducible exact blkAt _ _ _ _ (by simp; done)) | (with_reducible apply blk_st2) | (with_reducible apply blk_st4) | (with_reducible apply blk_st6) | (with_reducible apply blk_far (hne := by first | (with_reducible assumption) | omega)) | (with_reducible apply blk_up (hb := by assumption)) | (with_reducible apply Blk.alloc)))
      clear hW2
      try clear qP1
      try clear pP1
      try clear hz1
      try clear hc1
      try clear hf1
      try clear d1
      try clear cP1_0
      try clear cP1_1
      try clear cP1_2
      try clear cP1_3
      try clear cP1_4
      try clear cP1_5
      try clear y1
      try clear k1
      try clear P1
      try clear gP1
      try clear lP1
      have y2 := k2.size
      have gP2 := P2.lt
      have lP2 := Nat.le_of_lt gP2
      ((with_reducible refine (H3.out _).mono ?_); rintro e u2 ⟨rfl, d2⟩)
      obtain ⟨hz2, hc2, hf2⟩ := bcl d2 (by first | (simp; rfl) | rfl)
      have qP2 : w.heap.size < u2.heap.size := by omega
      have pP2 : w.heap.size ≤ u2.heap.size := by omega
      go_wp2_with fail
      go_ret
      refine ⟨rfl, ?_⟩
      (repeat (first | (with_reducible exact bl_refl _) | (with_reducible refine bl_drew ?_) | (with_reducible refine bl_alloc ?_ _) | (with_reducible refine bl_set' ?_ ?_; · (first | omega | (simp; done) | (simp; omega))) | (with_reducible refine bl_last (by assumption) ?_) | (with_reducible refine bl_drewN ?_ _)))
    · have hz2 : ¬ (200 : Int) < (s.size : Int) := by omega
      have h4 := fun W (h : PR W) (h' : PW W) => PParse_c l W (by omega) h h'
      rw [← hsl] at h4
      rcases parV_ways l with ⟨q0, q1, q2, q3, q4, q5, hq, ht, hv⟩ | hv
      · rw [hv] at h4
        have h5 := fun W (h : PR W) (h' : PW W) => PText_c q0 q1 q2 q3 q4 q5 W h h'
        unfold textV at h5
        rw [hq, if_pos rfl, ht, ← hsl] at h5
        have H4 := Lib.hid h4
        have H5 := Lib.hid h5
        clear h4 h5 hv ht hq hsl hl hsz hz
        go_enter Tryd.func4, Tryd.ntmps4
        go_wp2_with fail
        ((with_reducible refine (HH.out _ (HP.out.up (by (repeat (first | (with_reducible exact bl_refl _) | (with_reducible refine bl_drew ?_) | (with_reducible refine bl_alloc ?_ _) | (with_reducible refine bl_set' ?_ ?_; · (first | omega | (simp; done) | (simp; omega))) | (with_reducible refine bl_last (by assumption) ?_) | (with_reducible refine bl_drewN ?_ _))))) (tab_up HQ.out (by (repeat (first | (with_reducible exact bl_refl _) | (with_reducible refine bl_drew ?_) | (with_reducible refine bl_alloc ?_ _) | (with_reducible refine bl_set' ?_ ?_; · (first | omega | (simp; done) | (simp; omega))) | (with_reducible refine bl_last (by assumption) ?_) | (with_reducible refine bl_drewN ?_ _)))))).mono ?_); rintro e u0 ⟨rfl, d0⟩)
        obtain ⟨hz0, hc0, hf0⟩ := bcl d0 (by first | (simp; rfl) | rfl)
        have z0_0 : w.heap.size < u0.heap.size := by omega
        go_wp2_with fail
        refine calls_letter ?_
        intro W1 hW1
        have k1 : Below w.heap.size w W1 := by
          rw [hW1]
          (repeat (first | (with_reducible assumption) | (with_reducible exact bl_refl _) | (with_reducible refine bl_alloc ?_ _) | (with_reducible refine bl_set' ?_ ?_; · (dsimp only; first | assumption | exact Nat.le_refl _ | omega)) | (with_reducible refine bl_last (by assumption) ?_)))
        have P1 : Blk W1 (w.heap.size) 23 #[.int .i64 p0, .int .i64 p1, .int .i64 p2, .int .i64 p3, .int .i64 p4, .int .i64 p5] := by
          rw [hW1]
          (repeat (first | (with_reducible assumption) | (with_reducible apply Blk.new) | (with_reducible exact blkAt _ _ _ _ (by simp; done)) | (with_reducible apply blk_st2) | (with_reducible apply blk_st4) | (with_reducible apply blk_st6) | (with_reducible apply blk_far (hne := by first | (with_reducible assumption) | omega)) | (with_reducible apply blk_up (hb := by assumption)) | (with_reducible apply Blk.alloc)))
        clear hW1
        try clear hz0
        try clear hc0
        try clear hf0
        try clear d0
        try clear z0_0
        have y1 := k1.size
        have gP1 := P1.lt
        have lP1 := Nat.le_of_lt gP1
        have cP1_0 := P1.cell 0
        have cP1_1 := P1.cell 1
        have cP1_2 := P1.cell 2
        have cP1_3 := P1.cell 3
        have cP1_4 := P1.cell 4
        have cP1_5 := P1.cell 5
        simp only [List.getElem?_toArray, List.getElem?_cons_zero, List.getElem?_cons_succ] at cP1_0 cP1_1 cP1_2 cP1_3 cP1_4 cP1_5
        ((with_reducible refine (H1.out _ (HP.out.up k1) (tab_up HQ.out k1)).mono ?_); rintro e u1 ⟨rfl, d1⟩)
        obtain ⟨hz1, hc1, hf1⟩ := bcl d1 (by first | (simp; rfl) | rfl)
        have qP1 : w.heap.size < u1.heap.size := by omega
        have pP1 : w.heap.size ≤ u1.heap.size := by omega
        go_wp2_with fail
        refine calls_letter ?_
        intro W2 hW2
        have k2 : Below w.heap.size w W2 := by
          rw [hW2]
          (repeat (first | (with_reducible assumption) | (with_reducible exact bl_refl _) | (with_reducible refine bl_alloc ?_ _) | (with_reducible refine bl_set' ?_ ?_; · (dsimp only; first | assumption | exact Nat.le_refl _ | omega)) | (with_reducible refine bl_last (by assumption) ?_)))
        have P2 : Blk W2 (w.heap.size) 23 #[.int .i64 p0, .int .i64 p1, .int .i64 p2, .int .i64 p3, .int .i64 p4, .int .i64 p5] := by
          rw [hW2]
          (repeat (first | (with_reducible assumption) | (with_reducible apply Blk.new) | (with_reducible exact blkAt _ _ _ _ (by simp; done)) | (with_reducible apply blk_st2) | (with_reducible apply blk_st4) | (with_reducible apply blk_st6) | (with_reducible apply blk_far (hne := by first | (with_reducible assumption) | omega)) | (with_reducible apply blk_up (hb := by assumption)) | (with_reducible apply Blk.alloc)))
        clear hW2
        try clear qP1
        try clear pP1
        try clear hz1
        try clear hc1
        try clear hf1
        try clear d1
        try clear cP1_0
        try clear cP1_1
        try clear cP1_2
        try clear cP1_3
        try clear cP1_4
        try clear cP1_5
        try clear y1
        try clear k1
        try clear P1
        try clear gP1
        try clear lP1
        have y2 := k2.size
        have gP2 := P2.lt
        have lP2 := Nat.le_of_lt gP2
        ((with_reducible refine (H3.out _).mono ?_); rintro e u2 ⟨rfl, d2⟩)
        obtain ⟨hz2, hc2, hf2⟩ := bcl d2 (by first | (simp; rfl) | rfl)
        have qP2 : w.heap.size < u2.heap.size := by omega
        have pP2 : w.heap.size ≤ u2.heap.size := by omega
        go_wp2_with fail
        refine calls_letter ?_
        intro W3 hW3
        have k3 : Below w.heap.size w W3 := by
          rw [hW3]
          (repeat (first | (with_reducible assumption) | (with_reducible exact bl_refl _) | (with_reducible refine bl_alloc ?_ _) | (with_reducible refine bl_set' ?_ ?_; · (dsimp only; first | assumption | exact Nat.le_refl _ | omega)) | (with_reducible refine bl_last (by assumption) ?_)))
        clear hW3
        try clear qP2
        try clear pP2
        try clear hz2
        try clear hc2
        try clear hf2
        try clear d2
        try clear y2
        try clear k2
        try clear P2
        try clear gP2
        try clear lP2
        have y3 := k3.size
        ((with_reducible refine (H4.out _ (HP.out.up k3) (tab_up HQ.out k3)).mono ?_); rintro e u3 ⟨rfl, d3⟩)
        obtain ⟨hz3, hc3, hf3⟩ := bcl d3 (by first | (simp; rfl) | rfl)
        have oR : w.heap.size ≤ u3.heap.size := by omega
        go_wp2_with fail
        refine calls_letter ?_
        intro W4 hW4
        have k4 : Below w.heap.size w W4 := by
          rw [hW4]
          (repeat (first | (with_reducible assumption) | (with_reducible exact bl_refl _) | (with_reducible refine bl_alloc ?_ _) | (with_reducible refine bl_set' ?_ ?_; · (dsimp only; first | assumption | exact Nat.le_refl _ | omega)) | (with_reducible refine bl_last (by assumption) ?_)))
        clear hW4
        try clear hz3
        try clear hc3
        try clear hf3
        try clear d3
        try clear y3
        try clear k3
        have y4 := k4.size
        ((with_reducible refine (H5.out _ (HP.out.up k4) (tab_up HQ.out k4)).mono ?_); rintro e u4 ⟨rfl, d4⟩)
        obtain ⟨hz4, hc4, hf4⟩ := bcl d4 (by first | (simp; rfl) | rfl)
        go_wp2_with fail
        go_ret
        refine ⟨rfl, ?_⟩
        (repeat (first | (with_reducible exact bl_refl _) | (with_reducible refine bl_drew ?_) | (with_reducible refine bl_alloc ?_ _) | (with_reducible refine bl_set' ?_ ?_; · (first | omega | (simp; done) | (simp; omega))) | (with_reducible refine bl_last (by assumption) ?_) | (with_reducible refine bl_drewN ?_ _)))
      · rw [hv] at h4
        unfold zP at h4
        have H4 := Lib.hid h4
        clear h4 hv hsl hl hsz hz
        go_enter Tryd.func4, Tryd.ntmps4
        go_wp2_with fail
        ((with_reducible refine (HH.out _ (HP.out.up (by (repeat (first | (with_reducible exact bl_refl _) | (with_reducible refine bl_drew ?_) | (with_reducible refine bl_alloc ?_ _) | (with_reducible refine bl_set' ?_ ?_; · (first | omega | (simp; done) | (simp; omega))) | (with_reducible refine bl_last (by assumption) ?_) | (with_reducible refine bl_drewN ?_ _))))) (tab_up HQ.out (by (repeat (first | (with_reducible exact bl_refl _) | (with_reducible refine bl_drew ?_) | (with_reducible refine bl_alloc ?_ _) | (with_reducible refine bl_set' ?_ ?_; · (first | omega | (simp; done) | (simp; omega))) | (with_reducible refine bl_last (by assumption) ?_) | (with_reducible refine bl_drewN ?_ _)))))).mono ?_); rintro e u0 ⟨rfl, d0⟩)
        obtain ⟨hz0, hc0, hf0⟩ := bcl d0 (by first | (simp; rfl) | rfl)
        have z0_0 : w.heap.size < u0.heap.size := by omega
        go_wp2_with fail
        refine calls_letter ?_
        intro W1 hW1
        have k1 : Below w.heap.size w W1 := by
          rw [hW1]
          (repeat (first | (with_reducible assumption) | (with_reducible exact bl_refl _) | (with_reducible refine bl_alloc ?_ _) | (with_reducible refine bl_set' ?_ ?_; · (dsimp only; first | assumption | exact Nat.le_refl _ | omega)) | (with_reducible refine bl_last (by assumption) ?_)))
        have P1 : Blk W1 (w.heap.size) 23 #[.int .i64 p0, .int .i64 p1, .int .i64 p2, .int .i64 p3, .int .i64 p4, .int .i64 p5] := by
          rw [hW1]
          (repeat (first | (with_reducible assumption) | (with_reducible apply Blk.new) | (with_reducible exact blkAt _ _ _ _ (by simp; done)) | (with_reducible apply blk_st2) | (with_reducible apply blk_st4) | (with_reducible apply blk_st6) | (with_reducible apply blk_far (hne := by first | (with_reducible assumption) | omega)) | (with_reducible apply blk_up (hb := by assumption)) | (with_reducible apply Blk.alloc)))
        clear hW1
        try clear hz0
        try clear hc0
        try clear hf0
        try clear d0
        try clear z0_0
        have y1 := k1.size
        have gP1 := P1.lt
        have lP1 := Nat.le_of_lt gP1
        have cP1_0 := P1.cell 0
        have cP1_1 := P1.cell 1
        have cP1_2 := P1.cell 2
        have cP1_3 := P1.cell 3
        have cP1_4 := P1.cell 4
        have cP1_5 := P1.cell 5
        simp only [List.getElem?_toArray, List.getElem?_cons_zero, List.getElem?_cons_succ] at cP1_0 cP1_1 cP1_2 cP1_3 cP1_4 cP1_5
        ((with_reducible refine (H1.out _ (HP.out.up k1) (tab_up HQ.out k1)).mono ?_); rintro e u1 ⟨rfl, d1⟩)
        obtain ⟨hz1, hc1, hf1⟩ := bcl d1 (by first | (simp; rfl) | rfl)
        have qP1 : w.heap.size < u1.heap.size := by omega
        have pP1 : w.heap.size ≤ u1.heap.size := by omega
        go_wp2_with fail
        refine calls_letter ?_
        intro W2 hW2
        have k2 : Below w.heap.size w W2 := by
          rw [hW2]
          (repeat (first | (with_reducible assumption) | (with_reducible exact bl_refl _) | (with_reducible refine bl_alloc ?_ _) | (with_reducible refine bl_set' ?_ ?_; · (dsimp only; first | assumption | exact Nat.le_refl _ | omega)) | (with_reducible refine bl_last (by assumption) ?_)))
        have P2 : Blk W2 (w.heap.size) 23 #[.int .i64 p0, .int .i64 p1, .int .i64 p2, .int .i64 p3, .int .i64 p4, .int .i64 p5] := by
          rw [hW2]
          (repeat (first | (with_reducible assumption) | (with_reducible apply Blk.new) | (with_reducible exact blkAt _ _ _ _ (by simp; done)) | (with_reducible apply blk_st2) | (with_reducible apply blk_st4) | (with_reducible apply blk_st6) | (with_reducible apply blk_far (hne := by first | (with_reducible assumption) | omega)) | (with_reducible apply blk_up (hb := by assumption)) | (with_reducible apply Blk.alloc)))
        clear hW2
        try clear qP1
        try clear pP1
        try clear hz1
        try clear hc1
        try clear hf1
        try clear d1
        try clear cP1_0
        try clear cP1_1
        try clear cP1_2
        try clear cP1_3
        try clear cP1_4
        try clear cP1_5
        try clear y1
        try clear k1
        try clear P1
        try clear gP1
        try clear lP1
        have y2 := k2.size
        have gP2 := P2.lt
        have lP2 := Nat.le_of_lt gP2
        ((with_reducible refine (H3.out _).mono ?_); rintro e u2 ⟨rfl, d2⟩)
        obtain ⟨hz2, hc2, hf2⟩ := bcl d2 (by first | (simp; rfl) | rfl)
        have qP2 : w.heap.size < u2.heap.size := by omega
        have pP2 : w.heap.size ≤ u2.heap.size := by omega
        go_wp2_with fail
        refine calls_letter ?_
        intro W3 hW3
        have k3 : Below w.heap.size w W3 := by
          rw [hW3]
          (repeat (first | (with_reducible assumption) | (with_reducible exact bl_refl _) | (with_reducible refine bl_alloc ?_ _) | (with_reducible refine bl_set' ?_ ?_; · (dsimp only; first | assumption | exact Nat.le_refl _ | omega)) | (with_reducible refine bl_last (by assumption) ?_)))
        clear hW3
        try clear qP2
        try clear pP2
        try clear hz2
        try clear hc2
        try clear hf2
        try clear d2
        try clear y2
        try clear k2
        try clear P2
        try clear gP2
        try clear lP2
        have y3 := k3.size
        ((with_reducible refine (H4.out _ (HP.out.up k3) (tab_up HQ.out k3)).mono ?_); rintro e u3 ⟨rfl, d3⟩)
        obtain ⟨hz3, hc3, hf3⟩ := bcl d3 (by first | (simp; rfl) | rfl)
        have oR : w.heap.size ≤ u3.heap.size := by omega
        go_wp2_with fail
        go_ret
        refine ⟨rfl, ?_⟩
        (repeat (first | (with_reducible exact bl_refl _) | (with_reducible refine bl_drew ?_) | (with_reducible refine bl_alloc ?_ _) | (with_reducible refine bl_set' ?_ ?_; · (first | omega | (simp; done) | (simp; omega))) | (with_reducible refine bl_last (by assumption) ?_) | (with_reducible refine bl_drewN ?_ _)))
  · rw [hp] at h1 h3
    rw [if_pos rfl] at h1
    have h2 := fun W (h : PR W) (h' : PW W) => PParse_c (textB (pex p0 p1 p2 p3 p4 p5)) W (textB_len hp) h h'
    rw [parV_text hp] at h2
    generalize (textB (pex p0 p1 p2 p3 p4 p5)) = T at *
    have H2 := Lib.hid h2
    clear h2 h3
    have H1 := Lib.hid h1
    clear h1 hp
    rcases Nat.lt_or_ge 200 s.size with hz | hz
    · have hz2 : (200 : Int) < (s.size : Int) := by omega
      clear hsl hl hsz
      go_enter Tryd.func4, Tryd.ntmps4
      go_wp2_with fail
      ((with_reducible refine (HH.out _ (HP.out.up (by (repeat (first | (with_reducible exact bl_refl _) | (with_reducible refine bl_drew ?_) | (with_reducible refine bl_alloc ?_ _) | (with_reducible refine bl_set' ?_ ?_; · (first | omega | (simp; done) | (simp; omega))) | (with_reducible refine bl_last (by assumption) ?_) | (with_reducible refine bl_drewN ?_ _))))) (tab_up HQ.out (by (repeat (first | (with_reducible exact bl_refl _) | (with_reducible refine bl_drew ?_) | (with_reducible refine bl_alloc ?_ _) | (with_reducible refine bl_set' ?_ ?_; · (first | omega | (simp; done) | (simp; omega))) | (with_reducible refine bl_last (by assumption) ?_) | (with_reducible refine bl_drewN ?_ _)))))).mono ?_); rintro e u0 ⟨rfl, d0⟩)
      obtain ⟨hz0, hc0, hf0⟩ := bcl d0 (by first | (simp; rfl) | rfl)
      have z0_0 : w.heap.size < u0.heap.size := by omega
      go_wp2_with fail
      refine calls_letter ?_
      intro W1 hW1
      have k1 : Below w.heap.size w W1 := by
        rw [hW1]
        (repeat (first | (with_reducible assumption) | (with_reducible exact bl_refl _) | (with_reducible refine bl_alloc ?_ _) | (with_reducible refine bl_set' ?_ ?_; · (dsimp only; first | assumption | exact Nat.le_refl _ | omega)) | (with_reducible refine bl_last (by assumption) ?_)))
      have P1 : Blk W1 (w.heap.size) 23 #[.int .i64 p0, .int .i64 p1, .int .i64 p2, .int .i64 p3, .int .i64 p4, .int .i64 p5] := by
        rw [hW1]
        (repeat (first | (with_reducible assumption) | (with_reducible apply Blk.new) | (with_reducible exact blkAt _ _ _ _ (by simp; done)) | (with_reducible apply blk_st2) | (with_reducible apply blk_st4) | (with_reducible apply blk_st6) | (with_reducible apply blk_far (hne := by first | (with_reducible assumption) | omega)) | (with_reducible apply blk_up (hb := by assumption)) | (with_reducible apply Blk.alloc)))
      clear hW1
      try clear hz0
      try clear hc0
      try clear hf0
      try clear d0
      try clear z0_0
      have y1 := k1.size
      have gP1 := P1.lt
      have lP1 := Nat.le_of_lt gP1
      ((with_reducible refine (H1.out _ (HP.out.up k1) (tab_up HQ.out k1)).mono ?_); rintro e u1 ⟨rfl, d1⟩)
      obtain ⟨hz1, hc1, hf1⟩ := bcl d1 (by first | (simp; rfl) | rfl)
      have qP1 : w.heap.size < u1.heap.size := by omega
      have pP1 : w.heap.size ≤ u1.heap.size := by omega
      go_wp2_with fail
      refine calls_letter ?_
      intro W2 hW2
      have k2 : Below w.heap.size w W2 := by
        rw [hW2]
        (repeat (first | (with_reducible assumption) | (with_reducible exact bl_refl _) | (with_reducible refine bl_alloc ?_ _) | (with_reducible refine bl_set' ?_ ?_; · (dsimp only; first | assumption | exact Nat.le_refl _ | omega)) | (with_reducible refine bl_last (by assumption) ?_)))
      have P2 : Blk W2 (w.heap.size) 23 #[.int .i64 p0, .int .i64 p1, .int .i64 p2, .int .i64 p3, .int .i64 p4, .int .i64 p5] := by
        rw [hW2]
        (repeat (first | (with_reducible assumption) | (with_reducible apply Blk.new) | (with_reducible exact blkAt _ _ _ _ (by simp; done)) | (with_reducible apply blk_st2) | (with_reducible apply blk_st4) | (with_reducible apply blk_st6) | (with_reducible apply blk_far (hne := by first | (with_reducible assumption) | omega)) | (with_reducible apply blk_up (hb := by assumption)) | (with_reducible apply Blk.alloc)))
      clear hW2
      try clear qP1
      try clear pP1
      try clear hz1
      try clear hc1
      try clear hf1
      try clear d1
      try clear y1
      try clear k1
      try clear P1
      try clear gP1
      try clear lP1
      have y2 := k2.size
      have gP2 := P2.lt
      have lP2 := Nat.le_of_lt gP2
      have cP2_0 := P2.cell 0
      have cP2_1 := P2.cell 1
      have cP2_2 := P2.cell 2
      have cP2_3 := P2.cell 3
      have cP2_4 := P2.cell 4
      have cP2_5 := P2.cell 5
      simp only [List.getElem?_toArray, List.getElem?_cons_zero, List.getElem?_cons_succ] at cP2_0 cP2_1 cP2_2 cP2_3 cP2_4 cP2_5
      ((with_reducible refine (H2.out _ (HP.out.up k2) (tab_up HQ.out k2)).mono ?_); rintro e u2 ⟨rfl, d2⟩)
      obtain ⟨hz2, hc2, hf2⟩ := bcl d2 (by first | (simp; rfl) | rfl)
      have qP2 : w.heap.size < u2.heap.size := by omega
      have pP2 : w.heap.size ≤ u2.heap.size := by omega
      have oQ : w.heap.size ≤ u2.heap.size := by omega
      have nPQ : w.heap.size ≠ u2.heap.size := by omega
      have mPQ : u2.heap.size ≠ w.heap.size := by omega
      go_wp2_with fail
      go_ret
      refine ⟨rfl, ?_⟩
      (repeat (first | (with_reducible exact bl_refl _) | (with_reducible refine bl_drew ?_) | (with_reducible refine bl_alloc ?_ _) | (with_reducible refine bl_set' ?_ ?_; · (first | omega | (simp; done) | (simp; omega))) | (with_reducible refine bl_last (by assumption) ?_) | (with_reducible refine bl_drewN ?_ _)))
    · have hz2 : ¬ (200 : Int) < (s.size : Int) := by omega
      have h4 := fun W (h : PR W) (h' : PW W) => PParse_c l W (by omega) h h'
      rw [← hsl] at h4
      rcases parV_ways l with ⟨q0, q1, q2, q3, q4, q5, hq, ht, hv⟩ | hv
      · rw [hv] at h4
        have h5 := fun W (h : PR W) (h' : PW W) => PText_c q0 q1 q2 q3 q4 q5 W h h'
        unfold textV at h5
        rw [hq, if_pos rfl, ht, ← hsl] at h5
        have H4 := Lib.hid h4
        have H5 := Lib.hid h5
        clear h4 h5 hv ht hq hsl hl hsz hz
        go_enter Tryd.func4, Tryd.ntmps4
        go_wp2_with fail
        ((with_reducible refine (HH.out _ (HP.out.up (by (repeat (first | (with_reducible exact bl_refl _) | (with_reducible refine bl_drew ?_) | (with_reducible refine bl_alloc ?_ _) | (with_reducible refine bl_set' ?_ ?_; · (first | omega | (simp; done) | (simp; omega))) | (with_reducible refine bl_last (by assumption) ?_) | (with_reducible refine bl_drewN ?_ _))))) (tab_up HQ.out (by (repeat (first | (with_reducible exact bl_refl _) | (with_reducible refine bl_drew ?_) | (with_reducible refine bl_alloc ?_ _) | (with_reducible refine bl_set' ?_ ?_; · (first | omega | (simp; done) | (simp; omega))) | (with_reducible refine bl_last (by assumption) ?_) | (with_reducible refine bl_drewN ?_ _)))))).mono ?_); rintro e u0 ⟨rfl, d0⟩)
        obtain ⟨hz0, hc0, hf0⟩ := bcl d0 (by first | (simp; rfl) | rfl)
        have z0_0 : w.heap.size < u0.heap.size := by omega
        go_wp2_with fail
        refine calls_letter ?_
        intro W1 hW1
        have k1 : Below w.heap.size w W1 := by
          rw [hW1]
          (repeat (first | (with_reducible assumption) | (with_reducible exact bl_refl _) | (with_reducible refine bl_alloc ?_ _) | (with_reducible refine bl_set' ?_ ?_; · (dsimp only; first | assumption | exact Nat.le_refl _ | omega)) | (with_reducible refine bl_last (by assumption) ?_)))
        have P1 : Blk W1 (w.heap.size) 23 #[.int .i64 p0, .int .i64 p1, .int .i64 p2, .int .i64 p3, .int .i64 p4, .int .i64 p5] := by
          rw [hW1]
          (repeat (first | (with_reducible assumption) | (with_reducible apply Blk.new) | (with_reducible exact blkAt _ _ _ _ (by simp; done)) | (with_reducible apply blk_st2) | (with_reducible apply blk_st4) | (with_reducible apply blk_st6) | (with_reducible apply blk_far (hne := by first | (with_reducible assumption) | omega)) | (with_reducible apply blk_up (hb := by assumption)) | (with_reducible apply Blk.alloc)))
        clear hW1
        try clear hz0
        try clear hc0
        try clear hf0
        try clear d0
        try clear z0_0
        have y1 := k1.size
        have gP1 := P1.lt
        have lP1 := Nat.le_of_lt gP1
        ((with_reducible refine (H1.out _ (HP.out.up k1) (tab_up HQ.out k1)).mono ?_); rintro e u1 ⟨rfl, d1⟩)
        obtain ⟨hz1, hc1, hf1⟩ := bcl d1 (by first | (simp; rfl) | rfl)
        have qP1 : w.heap.size < u1.heap.size := by omega
        have pP1 : w.heap.size ≤ u1.heap.size := by omega
        go_wp2_with fail
        refine calls_letter ?_
        intro W2 hW2
        have k2 : Below w.heap.size w W2 := by
          rw [hW2]
          (repeat (first | (with_reducible assumption) | (with_reducible exact bl_refl _) | (with_reducible refine bl_alloc ?_ _) | (with_reducible refine bl_set' ?_ ?_; · (dsimp only; first | assumption | exact Nat.le_refl _ | omega)) | (with_reducible refine bl_last (by assumption) ?_)))
        have P2 : Blk W2 (w.heap.size) 23 #[.int .i64 p0, .int .i64 p1, .int .i64 p2, .int .i64 p3, .int .i64 p4, .int .i64 p5] := by
          rw [hW2]
          (repeat (first | (with_reducible assumption) | (with_reducible apply Blk.new) | (with_reducible exact blkAt _ _ _ _ (by simp; done)) | (with_reducible apply blk_st2) | (with_reducible apply blk_st4) | (with_reducible apply blk_st6) | (with_reducible apply blk_far (hne := by first | (with_reducible assumption) | omega)) | (with_reducible apply blk_up (hb := by assumption)) | (with_reducible apply Blk.alloc)))
        clear hW2
        try clear qP1
        try clear pP1
        try clear hz1
        try clear hc1
        try clear hf1
        try clear d1
        try clear y1
        try clear k1
        try clear P1
        try clear gP1
        try clear lP1
        have y2 := k2.size
        have gP2 := P2.lt
        have lP2 := Nat.le_of_lt gP2
        have cP2_0 := P2.cell 0
        have cP2_1 := P2.cell 1
        have cP2_2 := P2.cell 2
        have cP2_3 := P2.cell 3
        have cP2_4 := P2.cell 4
        have cP2_5 := P2.cell 5
        simp only [List.getElem?_toArray, List.getElem?_cons_zero, List.getElem?_cons_succ] at cP2_0 cP2_1 cP2_2 cP2_3 cP2_4 cP2_5
        ((with_reducible refine (H2.out _ (HP.out.up k2) (tab_up HQ.out k2)).mono ?_); rintro e u2 ⟨rfl, d2⟩)
        obtain ⟨hz2, hc2, hf2⟩ := bcl d2 (by first | (simp; rfl) | rfl)
        have qP2 : w.heap.size < u2.heap.size := by omega
        have pP2 : w.heap.size ≤ u2.heap.size := by omega
        have oQ : w.heap.size ≤ u2.heap.size := by omega
        have nPQ : w.heap.size ≠ u2.heap.size := by omega
        have mPQ : u2.heap.size ≠ w.heap.size := by omega
        go_wp2_with fail
        refine calls_letter ?_
        intro W3 hW3
        have k3 : Below w.heap.size w W3 := by
          rw [hW3]
          (repeat (first | (with_reducible assumption) | (with_reducible exact bl_refl _) | (with_reducible refine bl_alloc ?_ _) | (with_reducible refine bl_set' ?_ ?_; · (dsimp only; first | assumption | exact Nat.le_refl _ | omega)) | (with_reducible refine bl_last (by assumption) ?_)))
        clear hW3
        try clear qP2
        try clear pP2
        try clear hz2
        try clear hc2
        try clear hf2
        try clear d2
        try clear cP2_0
        try clear cP2_1
        try clear cP2_2
        try clear cP2_3
        try clear cP2_4
        try clear cP2_5
        try clear y2
        try clear k2
        try clear P2
        try clear gP2
        try clear lP2
        have y3 := k3.size
        ((with_reducible refine (H4.out _ (HP.out.up k3) (tab_up HQ.out k3)).mono ?_); rintro e u3 ⟨rfl, d3⟩)
        obtain ⟨hz3, hc3, hf3⟩ := bcl d3 (by first | (simp; rfl) | rfl)
        have oR : w.heap.size ≤ u3.heap.size := by omega
        go_wp2_with fail
        refine calls_letter ?_
        intro W4 hW4
        have k4 : Below w.heap.size w W4 := by
          rw [hW4]
          (repeat (first | (with_reducible assumption) | (with_reducible exact bl_refl _) | (with_reducible refine bl_alloc ?_ _) | (with_reducible refine bl_set' ?_ ?_; · (dsimp only; first | assumption | exact Nat.le_refl _ | omega)) | (with_reducible refine bl_last (by assumption) ?_)))
        clear hW4
        try clear hz3
        try clear hc3
        try clear hf3
        try clear d3
        try clear y3
        try clear k3
        have y4 := k4.size
        ((with_reducible refine (H5.out _ (HP.out.up k4) (tab_up HQ.out k4)).mono ?_); rintro e u4 ⟨rfl, d4⟩)
        obtain ⟨hz4, hc4, hf4⟩ := bcl d4 (by first | (simp; rfl) | rfl)
        go_wp2_with fail
        go_ret
        refine ⟨rfl, ?_⟩
        (repeat (first | (with_reducible exact bl_refl _) | (with_reducible refine bl_drew ?_) | (with_reducible refine bl_alloc ?_ _) | (with_reducible refine bl_set' ?_ ?_; · (first | omega | (simp; done) | (simp; omega))) | (with_reducible refine bl_last (by assumption) ?_) | (with_reducible refine bl_drewN ?_ _)))
      · rw [hv] at h4
        unfold zP at h4
        have H4 := Lib.hid h4
        clear h4 hv hsl hl hsz hz
        go_enter Tryd.func4, Tryd.ntmps4
        go_wp2_with fail
        ((with_reducible refine (HH.out _ (HP.out.up (by (repeat (first | (with_reducible exact bl_refl _) | (with_reducible refine bl_drew ?_) | (with_reducible refine bl_alloc ?_ _) | (with_reducible refine bl_set' ?_ ?_; · (first | omega | (simp; done) | (simp; omega))) | (with_reducible refine bl_last (by assumption) ?_) | (with_reducible refine bl_drewN ?_ _))))) (tab_up HQ.out (by (repeat (first | (with_reducible exact bl_refl _) | (with_reducible refine bl_drew ?_) | (with_reducible refine bl_alloc ?_ _) | (with_reducible refine bl_set' ?_ ?_; · (first | omega | (simp; done) | (simp; omega))) | (with_reducible refine bl_last (by assumption) ?_) | (with_reducible refine bl_drewN ?_ _)))))).mono ?_); rintro e u0 ⟨rfl, d0⟩)
        obtain ⟨hz0, hc0, hf0⟩ := bcl d0 (by first | (simp; rfl) | rfl)
        have z0_0 : w.heap.size < u0.heap.size := by omega
        go_wp2_with fail
        refine calls_letter ?_
        intro W1 hW1
        have k1 : Below w.heap.size w W1 := by
          rw [hW1]
          (repeat (first | (with_reducible assumption) | (with_reducible exact bl_refl _) | (with_reducible refine bl_alloc ?_ _) | (with_reducible refine bl_set' ?_ ?_; · (dsimp only; first | assumption | exact Nat.le_refl _ | omega)) | (with_reducible refine bl_last (by assumption) ?_)))
        have P1 : Blk W1 (w.heap.size) 23 #[.int .i64 p0, .int .i64 p1, .int .i64 p2, .int .i64 p3, .int .i64 p4, .int .i64 p5] := by
          rw [hW1]
          (repeat (first | (with_reducible assumption) | (with_reducible apply Blk.new) | (with_reducible exact blkAt _ _ _ _ (by simp; done)) | (with_reducible apply blk_st2) | (with_reducible apply blk_st4) | (with_reducible apply blk_st6) | (with_reducible apply blk_far (hne := by first | (with_reducible assumption) | omega)) | (with_reducible apply blk_up (hb := by assumption)) | (with_reducible apply Blk.alloc)))
        clear hW1
        try clear hz0
        try clear hc0
        try clear hf0
        try clear d0
        try clear z0_0
        have y1 := k1.size
        have gP1 := P1.lt
        have lP1 := Nat.le_of_lt gP1
        ((with_reducible refine (H1.out _ (HP.out.up k1) (tab_up HQ.out k1)).mono ?_); rintro e u1 ⟨rfl, d1⟩)
        obtain ⟨hz1, hc1, hf1⟩ := bcl d1 (by first | (simp; rfl) | rfl)
        have qP1 : w.heap.size < u1.heap.size := by omega
        have pP1 : w.heap.size ≤ u1.heap.size := by omega
        go_wp2_with fail
        refine calls_letter ?_
        intro W2 hW2
        have k2 : Below w.heap.size w W2 := by
          rw [hW2]
          (repeat (first | (with_reducible assumption) | (with_reducible exact bl_refl _) | (with_reducible refine bl_alloc ?_ _) | (with_reducible refine bl_set' ?_ ?_; · (dsimp only; first | assumption | exact Nat.le_refl _ | omega)) | (with_reducible refine bl_last (by assumption) ?_)))
        have P2 : Blk W2 (w.heap.size) 23 #[.int .i64 p0, .int .i64 p1, .int .i64 p2, .int .i64 p3, .int .i64 p4, .int .i64 p5] := by
          rw [hW2]
          (repeat (first | (with_reducible assumption) | (with_reducible apply Blk.new) | (with_reducible exact blkAt _ _ _ _ (by simp; done)) | (with_reducible apply blk_st2) | (with_reducible apply blk_st4) | (with_reducible apply blk_st6) | (with_reducible apply blk_far (hne := by first | (with_reducible assumption) | omega)) | (with_reducible apply blk_up (hb := by assumption)) | (with_reducible apply Blk.alloc)))
        clear hW2
        try clear qP1
        try clear pP1
        try clear hz1
        try clear hc1
        try clear hf1
        try clear d1
        try clear y1
        try clear k1
        try clear P1
        try clear gP1
        try clear lP1
        have y2 := k2.size
        have gP2 := P2.lt
        have lP2 := Nat.le_of_lt gP2
        have cP2_0 := P2.cell 0
        have cP2_1 := P2.cell 1
        have cP2_2 := P2.cell 2
        have cP2_3 := P2.cell 3
        have cP2_4 := P2.cell 4
        have cP2_5 := P2.cell 5
        simp only [List.getElem?_toArray, List.getElem?_cons_zero, List.getElem?_cons_succ] at cP2_0 cP2_1 cP2_2 cP2_3 cP2_4 cP2_5
        ((with_reducible refine (H2.out _ (HP.out.up k2) (tab_up HQ.out k2)).mono ?_); rintro e u2 ⟨rfl, d2⟩)
        obtain ⟨hz2, hc2, hf2⟩ := bcl d2 (by first | (simp; rfl) | rfl)
        have qP2 : w.heap.size < u2.heap.size := by omega
        have pP2 : w.heap.size ≤ u2.heap.size := by omega
        have oQ : w.heap.size ≤ u2.heap.size := by omega
        have nPQ : w.heap.size ≠ u2.heap.size := by omega
        have mPQ : u2.heap.size ≠ w.heap.size := by omega
        go_wp2_with fail
        refine calls_letter ?_
        intro W3 hW3
        have k3 : Below w.heap.size w W3 := by
          rw [hW3]
          (repeat (first | (with_reducible assumption) | (with_reducible exact bl_refl _) | (with_reducible refine bl_alloc ?_ _) | (with_reducible refine bl_set' ?_ ?_; · (dsimp only; first | assumption | exact Nat.le_refl _ | omega)) | (with_reducible refine bl_last (by assumption) ?_)))
        clear hW3
        try clear qP2
        try clear pP2
        try clear hz2
        try clear hc2
        try clear hf2
        try clear d2
        try clear cP2_0
        try clear cP2_1
        try clear cP2_2
        try clear cP2_3
        try clear cP2_4
        try clear cP2_5
        try clear y2
        try clear k2
        try clear P2
        try clear gP2
        try clear lP2
        have y3 := k3.size
        ((with_reducible refine (H4.out _ (HP.out.up k3) (tab_up HQ.out k3)).mono ?_); rintro e u3 ⟨rfl, d3⟩)
        obtain ⟨hz3, hc3, hf3⟩ := bcl d3 (by first | (simp; rfl) | rfl)
        have oR : w.heap.size ≤ u3.heap.size := by omega
        go_wp2_with fail
        go_ret
        refine ⟨rfl, ?_⟩
        (repeat (first | (with_reducible exact bl_refl _) | (with_reducible refine bl_drew ?_) | (with_reducible refine bl_alloc ?_ _) | (with_reducible refine bl_set' ?_ ?_; · (first | omega | (simp; done) | (simp; omega))) | (with_reducible refine bl_last (by assumption) ?_) | (with_reducible refine bl_drewN ?_ _)))
end Go.Proofs.YtgbiiaaeabflnaaDoor
