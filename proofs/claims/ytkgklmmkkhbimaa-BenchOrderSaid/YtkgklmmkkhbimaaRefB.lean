/- The reference's Valid. -/
import Derived.Test.YtkgklmmkkhbimaaRefA
import Derived.Test.YtkgklmmkkhbimaaBenchG
namespace Go.Proofs.Ytkgklmmkkhbimaa
open Go.RowKit

set_option maxRecDepth 100000 in
set_option maxHeartbeats 8000000 in
theorem RefValid_c (n : Int) (l : List Bt) (A : Option Addr) (cap : Nat) (w : World) (hl : Lst w w.heap.size A l) (hlen : l.length ≤ 9223372036854775807) (hcap : l.length ≤ cap) :
    Calls Try.prog 13 #[.int .i64 n, .slice A l.length cap] w (Ret (.bool (vld n l)) w) := by
  by_cases h0 : n < 1 ∨ (1 ≤ n ∧ 40 < n) ∨ (1 ≤ n ∧ n ≤ 40 ∧ ¬ (l.length : Int) = n - 1)
  · have hv : vld n l = false := by
      unfold vld
      rw [decide_eq_false (by omega)]
      rfl
    rw [hv]
    rcases h0 with h1 | ⟨h1, h2⟩ | ⟨h1, h2, h3⟩
    · clear hl hv
      generalize l.length = L at *
      go_enter Try.func13, Try.ntmps13
      go_wp2
      go_ret
      refine ⟨rfl, ?_⟩
      (repeat (first | (with_reducible exact bl_refl _) | (with_reducible refine bl_drew ?_) | (with_reducible refine bl_alloc ?_ _) | (with_reducible refine bl_set' ?_ ?_; · (first | omega | (simp; done) | (simp; omega))) | (with_reducible refine bl_last (by assumption) ?_) | (with_reducible refine bl_drewN ?_ _)))
    · clear hl hv
      generalize l.length = L at *
      go_enter Try.func13, Try.ntmps13
      go_wp2
      go_ret
      refine ⟨rfl, ?_⟩
      (repeat (first | (with_reducible exact bl_refl _) | (with_reducible refine bl_drew ?_) | (with_reducible refine bl_alloc ?_ _) | (with_reducible refine bl_set' ?_ ?_; · (first | omega | (simp; done) | (simp; omega))) | (with_reducible refine bl_last (by assumption) ?_) | (with_reducible refine bl_drewN ?_ _)))
    · have h3' : ((l.length : Int) == n - 1) = false := beq_eq_false_iff_ne.2 h3
      have h3'' : ((l.length : Int) != n - 1) = true := by simpa using h3
      clear hl hv h3
      generalize l.length = L at *
      go_enter Try.func13, Try.ntmps13
      go_wp2
      go_ret
      refine ⟨rfl, ?_⟩
      (repeat (first | (with_reducible exact bl_refl _) | (with_reducible refine bl_drew ?_) | (with_reducible refine bl_alloc ?_ _) | (with_reducible refine bl_set' ?_ ?_; · (first | omega | (simp; done) | (simp; omega))) | (with_reducible refine bl_last (by assumption) ?_) | (with_reducible refine bl_drewN ?_ _)))
  have h1 : 1 ≤ n := by omega
  have h2 : n ≤ 40 := by omega
  have h3 : (l.length : Int) = n - 1 := by omega
  clear h0
  have HL := Lib.hid hl
  clear hl
  have HLen := Lib.hid h3
  clear h3
  have HS : Hid (∀ (k : Nat) (y : Int) (X : World), k ≤ l.length → Below w.heap.size w X → Calls Try.prog 36 #[.slice A k cap, .int .i64 y] X (Ret (.int .i64 (stF (l.take k) y)) X)) := Lib.hid (by
    intro k y X hk hb
    have e : (l.take k).length = k := by simp; omega
    have := setter_c (l.take k) y A cap X ((HL.out.take k).up hb) (by omega)
    rw [e] at this
    exact this)
  generalize hLL : l.length = L at *
  have HLL := Lib.hid hLL
  clear hLL
  have c2 : ((L : Int) != n - 1) = false := by have := HLen.out; simp; omega
  go_enter Try.func13, Try.ntmps13
  go_wp2
  go_loopw [5] (fun i wr => ∃ k : Nat, k ≤ L ∧ i = .int .i64 k ∧ Hid (okUp n l k = true) ∧ Below w.heap.size w wr) (fun i _ => L - (intOf i).toNat)
  case atStart => exact ⟨0, Nat.zero_le _, rfl, rfl, bl_refl _⟩
  case round =>
    clear c2
    obtain ⟨k, hk, rfl, HU, hbw⟩ := hrel
    by_cases hlt : k < L
    · obtain ⟨x, hx⟩ : ∃ x, l[k]? = some x := ⟨l[k]'(by have := HLL.out; omega), by simp⟩
      obtain ⟨bl, off, rfl, hbl, hcl⟩ := HL.out (by have := HLL.out; omega)
      obtain ⟨x0, x1, x2, x3, x4, x5, x6⟩ := (hcl k x hx).same (fun j => hbw.cell (p := ⟨bl, j, none⟩) hbl)
      clear hcl
      have hbl' : bl < wr.heap.size := by have := hbw.size; omega
      have SF := Lib.hid (fun X hX => HS.out k x.fr X (by omega) hX)
      have ST := Lib.hid (fun X hX => HS.out k x.to X (by omega) hX)
      have hways := rv_ways (b := x) (pre_to HU.out)
      have HX := Lib.hid hx
      clear hx
      have PP := Lib.hid (fun w => Part_c x.p w)
      have PQ := Lib.hid (fun w => Part_c x.q w)
      have PR := Lib.hid (fun w => Rated_c x.rn x.rd w)
      have hcapk : k ≤ cap := by omega
      generalize stF (l.take k) x.to = s1 at *
      generalize stF (l.take k) x.fr = s2 at *
      generalize rtV x.rn x.rd = s3 at *
      generalize ptV x.p = s4 at *
      generalize ptV x.q = s5 at *
      generalize hok : okB n (l.take k) x = ok at *
      have HOK := Lib.hid hok
      clear hok
      obtain ⟨xfr, xto, xp, xq, xrn, xrd, xab⟩ := x
      simp only at x0 x1 x2 x3 x4 x5 x6 hways
      dsimp only at ST SF PP PQ PR
      rcases hways with ⟨rfl, rfl⟩ | ⟨rfl, rfl, rfl⟩ | ⟨rfl, rfl, rfl, rfl⟩ | ⟨rfl, rfl, rfl, v4, rfl⟩ | ⟨rfl, rfl, rfl, v4, v5, rfl⟩ | ⟨rfl, rfl, rfl, v4, v5, v6, v7, rfl⟩ | ⟨rfl, rfl, rfl, v4, v5, v6, v7, v8, rfl⟩ | ⟨rfl, rfl, rfl, v4, v5, v6, v7, v8, rfl⟩ | ⟨rfl, rfl, rfl, v4, v5, v6, v7, rfl⟩ | ⟨rfl, rfl, rfl, v4, v5, v6, v7, rfl⟩
      iterate 5
        · have HV := Lib.hid (vld_false HX.out HOK.out)
          go_wp2_with (first | (go_at_call 35; ((with_reducible refine (PP.out _).mono ?_); rintro e w' ⟨rfl, rfl⟩)) | (go_at_call 35; ((with_reducible refine (PQ.out _).mono ?_); rintro e w' ⟨rfl, rfl⟩)) | (go_at_call 29; ((with_reducible refine (PR.out _).mono ?_); rintro e w' ⟨rfl, hb⟩; obtain ⟨hz, hc, hf⟩ := bcl hb (by first | (simp; rfl) | rfl))))
          go_ret
          exact ⟨by rw [HV.out]; rfl, by (repeat (first | (with_reducible exact bl_refl _) | (with_reducible refine bl_drew ?_) | (with_reducible refine bl_alloc ?_ _) | (with_reducible refine bl_set' ?_ ?_; · (first | omega | (simp; done) | (simp; omega))) | (with_reducible refine bl_last (by assumption) ?_) | (with_reducible refine bl_drewN ?_ _)))⟩
      · have HV := Lib.hid (vld_false HX.out HOK.out)
        have v6' : (xfr != 0) = true := by simpa using v6
        go_wp2_with (first | (go_at_call 35; ((with_reducible refine (PP.out _).mono ?_); rintro e w' ⟨rfl, rfl⟩)) | (go_at_call 35; ((with_reducible refine (PQ.out _).mono ?_); rintro e w' ⟨rfl, rfl⟩)) | (go_at_call 29; ((with_reducible refine (PR.out _).mono ?_); rintro e w' ⟨rfl, hb⟩; obtain ⟨hz, hc, hf⟩ := bcl hb (by first | (simp; rfl) | rfl))))
        have HQ := Lib.hid (bl_trans (bl_alloc hbw _) hb)
        (refine wp_region_bl [0,1,2,3,4,5,6,7,8,9,10,11,12,13,14,15,16,17,18,19,20] [] (by kernel_rfl) (by kernel_rfl) (by rfl) ?_
         simp only [pickI, pick, List.getElem?_cons_succ, List.getElem?_cons_zero]
         iterate 21 (first
           | (refine head_val (by rfl) (by rfl) ?_
              apply Exists.intro
              refine ⟨fun X hX => ?_, ?_⟩
              · (obtain ⟨qz, qc, qf⟩ := bcl hX.out (by first | (simp; rfl) | rfl)
                 go_simp
                 first | done | (go_at_call 36; ((with_reducible refine (SF.out _ (bl_trans HQ.out hX.out)).mono ?_); rintro e w2 ⟨rfl, hb2⟩; exact ⟨rfl, hX.trans hb2⟩)) | rfl | exact ⟨rfl, rfl⟩)
              simp only [Act.put, List.setIfInBounds_toArray, List.set_cons_zero, List.set_cons_succ])
           | (refine head_pass (by rfl) ?_
              simp only [Act.put, List.setIfInBounds_toArray, List.set_cons_zero, List.set_cons_succ]))
         refine head_nil ?_
         intro w' hw'
         have hb := hw'.out
         clear hw'
         obtain ⟨hz, hc, hf⟩ := bcl hb (by first | (simp; rfl) | rfl))
        go_wp2
        go_ret
        exact ⟨by rw [HV.out]; rfl, by (repeat (first | (with_reducible exact bl_refl _) | (with_reducible refine bl_drew ?_) | (with_reducible refine bl_alloc ?_ _) | (with_reducible refine bl_set' ?_ ?_; · (first | omega | (simp; done) | (simp; omega))) | (with_reducible refine bl_last (by assumption) ?_) | (with_reducible refine bl_drewN ?_ _)))⟩
      · have HV := Lib.hid (vld_false HX.out HOK.out)
        have v6' : (xfr != 0) = true := by simpa using v6
        have v7' : decide (s2 < 0) = false := by simp; omega
        have v8' : decide (0 ≤ s1) = true := by simpa using v8
        go_wp2_with (first | (go_at_call 35; ((with_reducible refine (PP.out _).mono ?_); rintro e w' ⟨rfl, rfl⟩)) | (go_at_call 35; ((with_reducible refine (PQ.out _).mono ?_); rintro e w' ⟨rfl, rfl⟩)) | (go_at_call 29; ((with_reducible refine (PR.out _).mono ?_); rintro e w' ⟨rfl, hb⟩; obtain ⟨hz, hc, hf⟩ := bcl hb (by first | (simp; rfl) | rfl))))
        have HQ := Lib.hid (bl_trans (bl_alloc hbw _) hb)
        (refine wp_region_bl [0,1,2,3,4,5,6,7,8,9,10,11,12,13,14,15,16,17,18,19,20] [] (by kernel_rfl) (by kernel_rfl) (by rfl) ?_
         simp only [pickI, pick, List.getElem?_cons_succ, List.getElem?_cons_zero]
         iterate 21 (first
           | (refine head_val (by rfl) (by rfl) ?_
              apply Exists.intro
              refine ⟨fun X hX => ?_, ?_⟩
              · (obtain ⟨qz, qc, qf⟩ := bcl hX.out (by first | (simp; rfl) | rfl)
                 go_simp
                 first | done | (go_at_call 36; ((with_reducible refine (SF.out _ (bl_trans HQ.out hX.out)).mono ?_); rintro e w2 ⟨rfl, hb2⟩; exact ⟨rfl, hX.trans hb2⟩)) | (go_at_call 36; ((with_reducible refine (ST.out _ (bl_trans HQ.out hX.out)).mono ?_); rintro e w2 ⟨rfl, hb2⟩; exact ⟨rfl, hX.trans hb2⟩)) | rfl | exact ⟨rfl, rfl⟩)
              simp only [Act.put, List.setIfInBounds_toArray, List.set_cons_zero, List.set_cons_succ])
           | (refine head_pass (by rfl) ?_
              simp only [Act.put, List.setIfInBounds_toArray, List.set_cons_zero, List.set_cons_succ]))
         refine head_nil ?_
         intro w' hw'
         have hb := hw'.out
         clear hw'
         obtain ⟨hz, hc, hf⟩ := bcl hb (by first | (simp; rfl) | rfl))
        go_wp2
        go_ret
        exact ⟨by rw [HV.out]; rfl, by (repeat (first | (with_reducible exact bl_refl _) | (with_reducible refine bl_drew ?_) | (with_reducible refine bl_alloc ?_ _) | (with_reducible refine bl_set' ?_ ?_; · (first | omega | (simp; done) | (simp; omega))) | (with_reducible refine bl_last (by assumption) ?_) | (with_reducible refine bl_drewN ?_ _)))⟩
      · have v6' : (xfr != 0) = true := by simpa using v6
        have v7' : decide (s2 < 0) = false := by simp; omega
        have v8' : decide (0 ≤ s1) = false := by simp; omega
        go_wp2_with (first | (go_at_call 35; ((with_reducible refine (PP.out _).mono ?_); rintro e w' ⟨rfl, rfl⟩)) | (go_at_call 35; ((with_reducible refine (PQ.out _).mono ?_); rintro e w' ⟨rfl, rfl⟩)) | (go_at_call 29; ((with_reducible refine (PR.out _).mono ?_); rintro e w' ⟨rfl, hb⟩; obtain ⟨hz, hc, hf⟩ := bcl hb (by first | (simp; rfl) | rfl))))
        have HQ := Lib.hid (bl_trans (bl_alloc hbw _) hb)
        (refine wp_region_bl [0,1,2,3,4,5,6,7,8,9,10,11,12,13,14,15,16,17,18,19,20] [] (by kernel_rfl) (by kernel_rfl) (by rfl) ?_
         simp only [pickI, pick, List.getElem?_cons_succ, List.getElem?_cons_zero]
         iterate 21 (first
           | (refine head_val (by rfl) (by rfl) ?_
              apply Exists.intro
              refine ⟨fun X hX => ?_, ?_⟩
              · (obtain ⟨qz, qc, qf⟩ := bcl hX.out (by first | (simp; rfl) | rfl)
                 go_simp
                 first | done | (go_at_call 36; ((with_reducible refine (SF.out _ (bl_trans HQ.out hX.out)).mono ?_); rintro e w2 ⟨rfl, hb2⟩; exact ⟨rfl, hX.trans hb2⟩)) | (go_at_call 36; ((with_reducible refine (ST.out _ (bl_trans HQ.out hX.out)).mono ?_); rintro e w2 ⟨rfl, hb2⟩; exact ⟨rfl, hX.trans hb2⟩)) | rfl | exact ⟨rfl, rfl⟩)
              simp only [Act.put, List.setIfInBounds_toArray, List.set_cons_zero, List.set_cons_succ])
           | (refine head_pass (by rfl) ?_
              simp only [Act.put, List.setIfInBounds_toArray, List.set_cons_zero, List.set_cons_succ]))
         refine head_nil ?_
         intro w' hw'
         have hb := hw'.out
         clear hw'
         obtain ⟨hz, hc, hf⟩ := bcl hb (by first | (simp; rfl) | rfl))
        go_wp2
        go_roundw
        case rel => exact ⟨k + 1, by omega, by go_num, okUp_step HX.out HU.out HOK.out, bl_trans HQ.out hb⟩
        case measure => simp [intOf]; omega
      · subst v6
        have HV := Lib.hid (vld_false HX.out HOK.out)
        have v8' : decide (0 ≤ s1) = true := by simpa using v7
        go_wp2_with (first | (go_at_call 35; ((with_reducible refine (PP.out _).mono ?_); rintro e w' ⟨rfl, rfl⟩)) | (go_at_call 35; ((with_reducible refine (PQ.out _).mono ?_); rintro e w' ⟨rfl, rfl⟩)) | (go_at_call 29; ((with_reducible refine (PR.out _).mono ?_); rintro e w' ⟨rfl, hb⟩; obtain ⟨hz, hc, hf⟩ := bcl hb (by first | (simp; rfl) | rfl))))
        have HQ := Lib.hid (bl_trans (bl_alloc hbw _) hb)
        (refine wp_region_bl [0,1,2,3,4,5,6,7,8,9,10,11,12,13,14,15,16,17,18,19,20] [] (by kernel_rfl) (by kernel_rfl) (by rfl) ?_
         simp only [pickI, pick, List.getElem?_cons_succ, List.getElem?_cons_zero]
         iterate 21 (first
           | (refine head_val (by rfl) (by rfl) ?_
              apply Exists.intro
              refine ⟨fun X hX => ?_, ?_⟩
              · (obtain ⟨qz, qc, qf⟩ := bcl hX.out (by first | (simp; rfl) | rfl)
                 go_simp
                 first | done | (go_at_call 36; ((with_reducible refine (SF.out _ (bl_trans HQ.out hX.out)).mono ?_); rintro e w2 ⟨rfl, hb2⟩; exact ⟨rfl, hX.trans hb2⟩)) | (go_at_call 36; ((with_reducible refine (ST.out _ (bl_trans HQ.out hX.out)).mono ?_); rintro e w2 ⟨rfl, hb2⟩; exact ⟨rfl, hX.trans hb2⟩)) | rfl | exact ⟨rfl, rfl⟩)
              simp only [Act.put, List.setIfInBounds_toArray, List.set_cons_zero, List.set_cons_succ])
           | (refine head_pass (by rfl) ?_
              simp only [Act.put, List.setIfInBounds_toArray, List.set_cons_zero, List.set_cons_succ]))
         refine head_nil ?_
         intro w' hw'
         have hb := hw'.out
         clear hw'
         obtain ⟨hz, hc, hf⟩ := bcl hb (by first | (simp; rfl) | rfl))
        go_wp2
        go_ret
        exact ⟨by rw [HV.out]; rfl, by (repeat (first | (with_reducible exact bl_refl _) | (with_reducible refine bl_drew ?_) | (with_reducible refine bl_alloc ?_ _) | (with_reducible refine bl_set' ?_ ?_; · (first | omega | (simp; done) | (simp; omega))) | (with_reducible refine bl_last (by assumption) ?_) | (with_reducible refine bl_drewN ?_ _)))⟩
      · subst v6
        have v8' : decide (0 ≤ s1) = false := by simp; omega
        go_wp2_with (first | (go_at_call 35; ((with_reducible refine (PP.out _).mono ?_); rintro e w' ⟨rfl, rfl⟩)) | (go_at_call 35; ((with_reducible refine (PQ.out _).mono ?_); rintro e w' ⟨rfl, rfl⟩)) | (go_at_call 29; ((with_reducible refine (PR.out _).mono ?_); rintro e w' ⟨rfl, hb⟩; obtain ⟨hz, hc, hf⟩ := bcl hb (by first | (simp; rfl) | rfl))))
        have HQ := Lib.hid (bl_trans (bl_alloc hbw _) hb)
        (refine wp_region_bl [0,1,2,3,4,5,6,7,8,9,10,11,12,13,14,15,16,17,18,19,20] [] (by kernel_rfl) (by kernel_rfl) (by rfl) ?_
         simp only [pickI, pick, List.getElem?_cons_succ, List.getElem?_cons_zero]
         iterate 21 (first
           | (refine head_val (by rfl) (by rfl) ?_
              apply Exists.intro
              refine ⟨fun X hX => ?_, ?_⟩
              · (obtain ⟨qz, qc, qf⟩ := bcl hX.out (by first | (simp; rfl) | rfl)
                 go_simp
                 first | done | (go_at_call 36; ((with_reducible refine (SF.out _ (bl_trans HQ.out hX.out)).mono ?_); rintro e w2 ⟨rfl, hb2⟩; exact ⟨rfl, hX.trans hb2⟩)) | (go_at_call 36; ((with_reducible refine (ST.out _ (bl_trans HQ.out hX.out)).mono ?_); rintro e w2 ⟨rfl, hb2⟩; exact ⟨rfl, hX.trans hb2⟩)) | rfl | exact ⟨rfl, rfl⟩)
              simp only [Act.put, List.setIfInBounds_toArray, List.set_cons_zero, List.set_cons_succ])
           | (refine head_pass (by rfl) ?_
              simp only [Act.put, List.setIfInBounds_toArray, List.set_cons_zero, List.set_cons_succ]))
         refine head_nil ?_
         intro w' hw'
         have hb := hw'.out
         clear hw'
         obtain ⟨hz, hc, hf⟩ := bcl hb (by first | (simp; rfl) | rfl))
        go_wp2
        go_roundw
        case rel => exact ⟨k + 1, by omega, by go_num, okUp_step HX.out HU.out HOK.out, bl_trans HQ.out hb⟩
        case measure => simp [intOf]; omega
    · have hkL : k = L := by omega
      subst hkL
      have HV : Hid (vld n l = true) := Lib.hid (by
        unfold vld
        rw [HLL.out, HU.out, decide_eq_true ⟨h1, h2, HLen.out⟩]
        rfl)
      go_wp2
      go_ret
      exact ⟨by rw [HV.out]; rfl, by (repeat (first | (with_reducible exact bl_refl _) | (with_reducible refine bl_drew ?_) | (with_reducible refine bl_alloc ?_ _) | (with_reducible refine bl_set' ?_ ?_; · (first | omega | (simp; done) | (simp; omega))) | (with_reducible refine bl_last (by assumption) ?_) | (with_reducible refine bl_drewN ?_ _)))⟩
end Go.Proofs.Ytkgklmmkkhbimaa
