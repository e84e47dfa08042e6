/- TopEqual: sorting what is sorted. -/
import Derived.Test.YtehifkdfbiebfaaDoorK29
import Derived.Test.YtehifkdfbiebfaaDoorK09
namespace Go.Proofs.YtehifkdfbiebfaaDoor
open Go Go.RowKit

set_option maxRecDepth 100000 in
set_option maxHeartbeats 8000000 in
theorem insort_c (st : Nat → Int) (n : Nat) (hs : Rise st n) (b o c : Nat) (w : World) (hP : PR w) (hv : VecsR w w.heap.size (some ⟨b, o, none⟩) n (stG st)) :
    Calls Tryd.prog 138 #[.slice (some ⟨b, o, none⟩) n c, .int .i64 0, .int .i64 (n : Int), .func (.func 97) #[] #[]] w (fun e w' => e = .returned (.tuple #[]) ∧ Below w.heap.size w w') := by
  obtain ⟨h1, h2, h3, h4, h5⟩ := hs
  obtain ⟨b', o', hbo, hb0, hcl⟩ := st_cells hv (by omega)
  obtain ⟨rfl, rfl⟩ : b = b' ∧ o = o' := by
    have := Option.some.inj hbo
    injection this with e1 e2
    exact ⟨e1, e2⟩
  have HC := Lib.hid (fun k (hk : k + 1 < n) X (hX : Below w.heap.size w X) => show Calls Tryd.prog 97 #[one6 (st (k + 1)), one6 (st k)] X (Ret (.int .i64 1) X) from by
    have h := cmp1_c (st (k + 1)) (st k) X (hP.up hX) (by have := h5 (k + 1) (by omega); omega) (by have := h5 k (by omega); omega)
    rw [show ordZ (st (k + 1)) (st k) = 1 from by unfold ordZ; rw [if_neg (by have := h4 k hk; omega), if_pos (h4 k hk)]] at h
    exact h)
  have HCl := Lib.hid hcl
  clear hcl hv hP h4 h5 hbo
  go_enter Tryd.func138, Tryd.ntmps138
  go_wp2
  go_loopw [8] (fun kv wr => ∃ m : Nat, m + 1 ≤ n ∧ kv = .int .i64 ((m + 1 : Nat) : Int) ∧ Hid (Below w.heap.size w wr)) (fun kv _ => n - (intOf kv).toNat)
  case atStart => exact ⟨0, by omega, rfl, Lib.hid (bl_refl _)⟩
  case round =>
    obtain ⟨m, hm, rfl, HB⟩ := hrel
    obtain ⟨k, hk⟩ : ∃ k, k = m + 1 := ⟨_, rfl⟩
    rw [← hk] at hm ⊢
    by_cases hlt : k < n
    · have hki : (k : Int) < (n : Int) := by omega
      have hk0 : 0 < k := by omega
      have wk : IntKind.i64.wrap ((k : Int) + 1) = (k : Int) + 1 := by rw [IntKind.wrap_i64]; omega
      have wm : IntKind.i64.wrap ((k : Int) - 1) = (m : Int) := by rw [IntKind.wrap_i64]; omega
      have hmi : (m : Int) < (n : Int) := by omega
      have HK := Lib.hid hk
      clear hk
      go_wp2
      go_loopw [9] (fun jv wr => jv = .int .i64 (k : Int) ∧ Hid (Below w.heap.size w wr)) (fun _ _ => 0)
      case atStart => exact ⟨rfl, HB⟩
      case round =>
        obtain ⟨rfl, HB2⟩ := hrel
        obtain ⟨s_0, s_1, s_2, s_3, s_4, s_5, zs⟩ := HCl.out m (by have := HK.out; omega) wr HB2.out
        obtain ⟨r_0, r_1, r_2, r_3, r_4, r_5, zr⟩ := HCl.out k (by omega) wr HB2.out
        have hC2 := fun X (hX : Below wr.heap.size wr X) => HC.out m (by have := HK.out; omega) X (bl_trans HB2.out hX)
        rw [← HK.out] at hC2
        have HC2 := Lib.hid hC2
        clear hC2
        go_wp2
        (refine wp_region_bl [0,1,2,3,4,5,6,7,8,9,10,11,12,13,14,15,16] [] (by kernel_rfl) (by kernel_rfl) (by rfl) ?_
         simp only [pickI, pick, List.getElem?_cons_succ, List.getElem?_cons_zero]
         iterate 17 (first
           | (refine head_val (by rfl) (by first | exact wanted_free rfl | rfl) ?_
              apply Exists.intro
              refine ⟨fun X hX => ?_, ?_⟩
              · (obtain ⟨qz, qc, qf⟩ := bcl hX.out (by first | (simp; rfl) | rfl)
                 go_simp
                 first | done | ((with_reducible refine (HC2.out _ hX.out).mono ?_); rintro e w2 ⟨rfl, hb2⟩; exact ⟨rfl, hX.trans hb2⟩) | rfl | exact ⟨rfl, rfl⟩)
              simp only [Act.put, List.setIfInBounds_toArray, List.set_cons_zero, List.set_cons_succ])
           | (refine head_pass (by rfl) ?_
              simp only [Act.put, List.setIfInBounds_toArray, List.set_cons_zero, List.set_cons_succ]))
         refine head_nil ?_
         intro w' hw'
         have hb := hw'.out
         clear hw'
         obtain ⟨hz, hc, hf⟩ := bcl hb (by first | (simp; rfl) | rfl))
        have HB3 := Lib.hid (bl_trans HB2.out hb)
        clear hb hz hc hf s_0 s_1 s_2 s_3 s_4 s_5 zs r_0 r_1 r_2 r_3 r_4 r_5 zr HC2 HB2 HB
        go_wp2
        go_roundw
        case rel => exact ⟨k, by omega, by go_num, HB3⟩
        case measure => simp [intOf]; omega
    · have hkn : k = n := by omega
      clear hm
      have hki : ¬ (k : Int) < (n : Int) := by omega
      go_wp2
      exact bodyPost_end (results_none Tryd.results138 _ _ _) rfl ⟨rfl, HB.out⟩
set_option maxRecDepth 100000 in
set_option maxHeartbeats 8000000 in
theorem pdq_c (st : Nat → Int) (n : Nat) (hs : Rise st n) (b o c : Nat) (l : Int) (w : World) (hP : PR w) (hv : VecsR w w.heap.size (some ⟨b, o, none⟩) n (stG st)) :
    Calls Tryd.prog 126 #[.slice (some ⟨b, o, none⟩) n c, .int .i64 0, .int .i64 (n : Int), .int .i64 l, .func (.func 97) #[] #[]] w (fun e w' => e = .returned (.tuple #[]) ∧ Below w.heap.size w w') := by
  have HI := Lib.hid (insort_c st n hs b o c w hP hv)
  obtain ⟨h1, h2, _⟩ := hs
  have w1 : IntKind.i64.wrap ((n : Int) - 0) = (n : Int) := by rw [IntKind.wrap_i64]; omega
  have q1 : decide ((n : Int) ≤ 12) = true := decide_eq_true (by omega)
  clear hP hv
  go_enter Tryd.func126, Tryd.ntmps126
  go_wp2
  go_loopw [1, 2] (fun a e wr => a = .int .i64 0 ∧ e = .int .i64 (n : Int) ∧ wr = w) (fun _ _ _ => 0)
  case atStart => exact ⟨rfl, rfl, rfl⟩
  case round =>
    obtain ⟨rfl, rfl, rfl⟩ := hrel
    go_wp2_with fail
    (with_reducible refine HI.out.mono ?_)
    rintro e w2 ⟨rfl, hb2⟩
    simp only
    go_wp2
    exact bodyPost_ret (results_none Tryd.results126 _ _ _) rfl ⟨rfl, hb2⟩
set_option maxRecDepth 100000 in
theorem blen_c (x : Nat) (hx : x ≤ 100) (w : World) : Calls Tryd.prog 127 #[.int .u64 (x : Int)] w (fun e w' => (∃ l : Int, e = .returned (.int .i64 l)) ∧ w' = w) := by
  have H := Lib.hid (Tryd.bits_Len64 (x : Int) w (by omega) (by omega))
  go_enter Tryd.func127, Tryd.ntmps127
  go_wp2_with fail
  (with_reducible refine H.out.mono ?_)
  rintro e w2 ⟨rfl, rfl⟩
  simp only
  go_wp2
  go_ret
  exact ⟨⟨_, rfl⟩, rfl⟩
set_option maxRecDepth 100000 in
set_option maxHeartbeats 8000000 in
theorem sort_c (st : Nat → Int) (n : Nat) (hs : Rise st n) (b o c : Nat) (w : World) (hP : PR w) (hv : VecsR w w.heap.size (some ⟨b, o, none⟩) n (stG st)) :
    Calls Tryd.prog 96 #[.slice (some ⟨b, o, none⟩) n c, .func (.func 97) #[] #[]] w (fun e w' => e = .returned (.tuple #[]) ∧ Below w.heap.size w w') := by
  have HD := Lib.hid (fun l => pdq_c st n hs b o c l w hP hv)
  have HL := Lib.hid (blen_c n (by have := hs.2.1; omega) w)
  have wn : IntKind.u64.wrap (n : Int) = (n : Int) := by
    have := hs.2.1
    have h : IntKind.u64.wrap (n : Int) = (n : Int) % 18446744073709551616 := by first | rfl | exact IntKind.wrap_u64 _
    omega
  clear hs hP hv
  go_enter Tryd.func96, Tryd.ntmps96
  go_wp2_with fail
  (with_reducible refine HL.out.mono ?_)
  rintro e w2 ⟨⟨l, rfl⟩, rfl⟩
  simp only
  go_wp2_with fail
  (with_reducible refine (HD.out l).mono ?_)
  rintro e w3 ⟨rfl, hb3⟩
  simp only
  go_wp2
  exact bodyPost_end (results_none Tryd.results96 _ _ _) rfl ⟨rfl, hb3⟩
end Go.Proofs.YtehifkdfbiebfaaDoor
