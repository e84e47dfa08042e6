/- Rational: the reference's Digits and Text. -/
import Derived.Test.YtmjbcoapceoakaaDoorTxtB
import Derived.Laws.IdiomStrings
namespace Go.Proofs.YtmjbcoapceoakaaDoor
open Go Go.RowKit

/-- A byte that was just laid, as a string. -/
theorem one_byte (W : World) (z : Int) (h0 : 0 ≤ z) (h1 : z < 256) : (convert 71 9 (.slice (some ⟨W.heap.size, 0, none⟩) 1 1)).run Tryd.prog (W.alloc (.cells #[.int .u8 z] 5)) = .ok (.string ⟨[UInt8.ofNat z.toNat].toArray⟩) (W.alloc (.cells #[.int .u8 z] 5)) := by
  have := run_convert_bytes_back (P := Tryd.prog) (W.alloc (.cells #[.int .u8 z] 5)) 71 9 5 ⟨W.heap.size, 0, none⟩ 1 [UInt8.ofNat z.toNat] Tryd.underlying71 Tryd.underlying5 Tryd.underlying9 (fun j hj => by
    have : j = 0 := by simpa using hj
    subst this
    show (W.alloc _).cell? ⟨W.heap.size, 0, none⟩ = _
    rw [World.cell?_alloc_new]
    simp
    omega)
  exact this
set_option maxRecDepth 100000 in
set_option maxHeartbeats 1000000 in
theorem RDigits_c (n : Nat) (w : World) (hn : n ≤ 1000000000) : Calls Tryd.prog 62 #[.int .i64 n] w (Ret (.string ⟨(Lib.decDigits n).toArray⟩) w) := by
  have HL := Lib.hid (Lib.itoa_length_le (n : Int) (by omega) (by omega))
  rw [Lib.itoa_nonneg] at HL
  generalize hg : Lib.decDigits n = g at *
  have HG := Lib.hid hg
  clear hg
  go_enter Tryd.func62, Tryd.ntmps62
  go_wp2
  go_loopw [0, 3] (fun m s wr => ∃ (k : Nat) (t : List UInt8), m = .int .i64 k ∧ k ≤ 1000000000 ∧ s = .string ⟨t.toArray⟩ ∧ Hid (g = Lib.decDigits k ++ t) ∧ Below w.heap.size w wr) (fun m _ _ => (intOf m).toNat)
  case atStart => exact ⟨n, [], rfl, hn, rfl, Lib.hid (by rw [HG.out]; simp), bl_refl _⟩
  case round =>
    obtain ⟨k, t, rfl, hk, rfl, HI, hbw⟩ := hrel
    have hlen : t.length ≤ 21 := by
      have h1 := HL.out
      rw [HI.out, List.length_append] at h1
      omega
    by_cases h9 : k < 10
    · have hob := fun W => one_byte W (48 + (k : Int)) (by omega) (by omega)
      have hres : (⟨[UInt8.ofNat (48 + (k : Int)).toNat].toArray⟩ : ByteArray) ++ ⟨t.toArray⟩ = ⟨g.toArray⟩ := by
        rw [bs_append, HI.out, dd_small h9]
        have : (48 + (k : Int)).toNat = 48 + k := by omega
        rw [this]
      have HR := Lib.hid hres
      clear hres
      generalize UInt8.ofNat (48 + (k : Int)).toNat = c at *
      go_wp2
      go_ret
      exact ⟨congrArg (fun b => Ending.returned (.string b)) HR.out, by (repeat (first | (with_reducible exact bl_refl _) | (with_reducible refine bl_drew ?_) | (with_reducible refine bl_alloc ?_ _) | (with_reducible refine bl_set' ?_ ?_; · (first | omega | (simp; done) | (simp; omega))) | (with_reducible refine bl_last (by assumption) ?_) | (with_reducible refine bl_drewN ?_ _)))⟩
    · have hob := fun W => one_byte W (48 + (k : Int) % 10) (by omega) (by omega)
      have hres : (⟨[UInt8.ofNat (48 + (k : Int) % 10).toNat].toArray⟩ : ByteArray) ++ ⟨t.toArray⟩ = ⟨(UInt8.ofNat (48 + k % 10) :: t).toArray⟩ := by
        rw [bs_append]
        have : (48 + (k : Int) % 10).toNat = 48 + k % 10 := by omega
        rw [this]
        rfl
      have HR := Lib.hid hres
      have HS : Hid (g = Lib.decDigits (k / 10) ++ (UInt8.ofNat (48 + k % 10) :: t)) := by
        refine Lib.hid ?_
        rw [HI.out, dd_step h9]
        simp
      clear hres
      generalize UInt8.ofNat (48 + (k : Int) % 10).toNat = c at *
      go_wp2
      go_roundw
      case rel => exact ⟨k / 10, _, by go_num, by omega, by rw [HR.out], HS, by (repeat (first | (with_reducible exact bl_refl _) | (with_reducible refine bl_drew ?_) | (with_reducible refine bl_alloc ?_ _) | (with_reducible refine bl_set' ?_ ?_; · (first | omega | (simp; done) | (simp; omega))) | (with_reducible refine bl_last (by assumption) ?_) | (with_reducible refine bl_drewN ?_ _)))⟩
      case measure => simp [intOf]; omega

set_option maxRecDepth 100000 in
set_option maxHeartbeats 1000000 in
theorem RText_c (n d : Int) (w : World) : Calls Tryd.prog 37 #[.agg #[.int .i64 n, .int .i64 d]] w (Ret (txV n d) w) := by
  have hV := fun w => RValid_c n d w
  cases hv : vR n d
  · rw [hv] at hV
    have hT : txV n d = .tuple #[.string ⟨#[]⟩, .int .i64 1] := by unfold txV txL; rw [hv]; rfl
    rw [hT]
    have HV := Lib.hid hV
    clear hV hv hT
    go_enter Tryd.func37, Tryd.ntmps37
    go_wp2_with (first | (go_at_call 26; ((with_reducible refine (HV.out _).mono ?_); rintro e w' ⟨rfl, hb⟩; obtain ⟨hz, hc, hf⟩ := bcl hb (by first | (simp; rfl) | rfl))))
    (refine bodyPost_ret (v := .tuple #[.string ⟨#[]⟩, .int .i64 1]) (by simp only [results, Tryd.results37]; go_simp) rfl ⟨rfl, ?_⟩)
    (repeat (first | (with_reducible exact bl_refl _) | (with_reducible refine bl_drew ?_) | (with_reducible refine bl_alloc ?_ _) | (with_reducible refine bl_set' ?_ ?_; · (first | omega | (simp; done) | (simp; omega))) | (with_reducible refine bl_last (by assumption) ?_) | (with_reducible refine bl_drewN ?_ _)))
  · rw [hv] at hV
    obtain ⟨v1, v2, v3, v4, _⟩ := v_of hv
    have HV := Lib.hid hV
    clear hV
    obtain ⟨u, hu⟩ : ∃ u : Nat, (u : Int) = n.natAbs := ⟨_, rfl⟩
    obtain ⟨e, he⟩ : ∃ e : Nat, (e : Int) = d := ⟨d.toNat, by omega⟩
    have HI := Lib.hid (fun W => RDigits_c u W (by omega))
    have HJ := Lib.hid (fun W => RDigits_c e W (by omega))
    have l1 := Lib.itoa_length_le (u : Int) (by omega) (by omega)
    have l2 := Lib.itoa_length_le (e : Int) (by omega) (by omega)
    rw [Lib.itoa_nonneg] at l1 l2
    subst he
    have hit : (n < 0 ∧ Lib.itoa n = 45 :: Lib.decDigits u ∧ n = -(u : Int)) ∨ (0 ≤ n ∧ Lib.itoa n = Lib.decDigits u ∧ n = (u : Int)) := by
      unfold Lib.itoa
      by_cases h0 : n < 0
      · exact Or.inl ⟨h0, by rw [if_pos h0]; congr 2; omega, by omega⟩
      · exact Or.inr ⟨by omega, by rw [if_neg h0]; congr 1; omega, by omega⟩
    have hdt : ((e : Int) = 1 ∧ txV n e = .tuple #[.string ⟨(Lib.itoa n).toArray⟩, .int .i64 0]) ∨ (((e : Int) != 1) = true ∧ txV n e = .tuple #[.string ⟨(Lib.itoa n ++ ([47] ++ Lib.decDigits e)).toArray⟩, .int .i64 0]) := by
      unfold txV txL ratText
      rw [hv]
      by_cases h1 : (e : Int) = 1
      · exact Or.inl ⟨h1, by simp [h1]⟩
      · refine Or.inr ⟨by simpa using h1, ?_⟩
        rw [if_neg h1, Lib.itoa_nonneg]
        rfl
    generalize txV n e = V at *
    generalize Lib.decDigits u = s at *
    generalize Lib.decDigits e = t at *
    clear hv
    rcases hit with ⟨h0, hi, rfl⟩ | ⟨h0, hi, rfl⟩ <;> rcases hdt with ⟨h1, rfl⟩ | ⟨h1, rfl⟩
    · rw [hi]
      clear hi hu
      simp only [h1] at HV ⊢
      have HV := Lib.hid HV.out
      clear h1 v1 v2 HJ
      have hE : (⟨(45 :: s).toArray⟩ : ByteArray) = ⟨#[45]⟩ ++ ⟨s.toArray⟩ := by
        have e1 : (⟨#[45]⟩ : ByteArray) = ⟨[45].toArray⟩ := rfl
        have e2 : (⟨#[47]⟩ : ByteArray) = ⟨[47].toArray⟩ := rfl
        simp only [e1, e2, bs_append]
        simp
      rw [hE]
      clear hE
      have hd0 : decide (-(u : Int) < 0) = true := decide_eq_true h0
      have hmx : max (-(u : Int)) (u : Int) = u := by omega
      go_enter Tryd.func37, Tryd.ntmps37
      go_wp2_with (first | (go_at_call 26; ((with_reducible refine (HV.out _).mono ?_); rintro e w' ⟨rfl, hb⟩; obtain ⟨hz, hc, hf⟩ := bcl hb (by first | (simp; rfl) | rfl))) | (go_at_call 62; ((with_reducible refine (HI.out _).mono ?_); rintro e w' ⟨rfl, hb⟩; obtain ⟨hz, hc, hf⟩ := bcl hb (by first | (simp; rfl) | rfl))))
      (refine bodyPost_ret (v := .tuple #[.string (⟨#[45]⟩ ++ ⟨s.toArray⟩), .int .i64 0]) (by simp only [results, Tryd.results37]; go_simp) rfl ⟨rfl, ?_⟩)
      (repeat (first | (with_reducible exact bl_refl _) | (with_reducible refine bl_drew ?_) | (with_reducible refine bl_alloc ?_ _) | (with_reducible refine bl_set' ?_ ?_; · (first | omega | (simp; done) | (simp; omega))) | (with_reducible refine bl_last (by assumption) ?_) | (with_reducible refine bl_drewN ?_ _)))
    · rw [hi]
      clear hi hu
      have hE : (⟨(45 :: s ++ ([47] ++ t)).toArray⟩ : ByteArray) = ((⟨#[45]⟩ ++ ⟨s.toArray⟩) ++ ⟨#[47]⟩) ++ ⟨t.toArray⟩ := by
        have e1 : (⟨#[45]⟩ : ByteArray) = ⟨[45].toArray⟩ := rfl
        have e2 : (⟨#[47]⟩ : ByteArray) = ⟨[47].toArray⟩ := rfl
        simp only [e1, e2, bs_append]
        simp
      rw [hE]
      clear hE
      have hd0 : decide (-(u : Int) < 0) = true := decide_eq_true h0
      have hmx : max (-(u : Int)) (u : Int) = u := by omega
      go_enter Tryd.func37, Tryd.ntmps37
      go_wp2_with (first | (go_at_call 26; ((with_reducible refine (HV.out _).mono ?_); rintro e w' ⟨rfl, hb⟩; obtain ⟨hz, hc, hf⟩ := bcl hb (by first | (simp; rfl) | rfl))) | (go_at_call 62; ((with_reducible refine (HI.out _).mono ?_); rintro e w' ⟨rfl, hb⟩; obtain ⟨hz, hc, hf⟩ := bcl hb (by first | (simp; rfl) | rfl))) | (go_at_call 62; ((with_reducible refine (HJ.out _).mono ?_); rintro e w' ⟨rfl, hb⟩; obtain ⟨hz, hc, hf⟩ := bcl hb (by first | (simp; rfl) | rfl))))
      (refine bodyPost_ret (v := .tuple #[.string (((⟨#[45]⟩ ++ ⟨s.toArray⟩) ++ ⟨#[47]⟩) ++ ⟨t.toArray⟩), .int .i64 0]) (by simp only [results, Tryd.results37]; go_simp) rfl ⟨rfl, ?_⟩)
      (repeat (first | (with_reducible exact bl_refl _) | (with_reducible refine bl_drew ?_) | (with_reducible refine bl_alloc ?_ _) | (with_reducible refine bl_set' ?_ ?_; · (first | omega | (simp; done) | (simp; omega))) | (with_reducible refine bl_last (by assumption) ?_) | (with_reducible refine bl_drewN ?_ _)))
    · rw [hi]
      clear hi hu
      simp only [h1] at HV ⊢
      have HV := Lib.hid HV.out
      clear h1 v1 v2 HJ
      have hd0 : decide ((u : Int) < 0) = false := decide_eq_false (by omega)
      have hmx : max (u : Int) (-(u : Int)) = u := by omega
      go_enter Tryd.func37, Tryd.ntmps37
      go_wp2_with (first | (go_at_call 26; ((with_reducible refine (HV.out _).mono ?_); rintro e w' ⟨rfl, hb⟩; obtain ⟨hz, hc, hf⟩ := bcl hb (by first | (simp; rfl) | rfl))) | (go_at_call 62; ((with_reducible refine (HI.out _).mono ?_); rintro e w' ⟨rfl, hb⟩; obtain ⟨hz, hc, hf⟩ := bcl hb (by first | (simp; rfl) | rfl))))
      (refine bodyPost_ret (v := .tuple #[.string (⟨s.toArray⟩), .int .i64 0]) (by simp only [results, Tryd.results37]; go_simp) rfl ⟨rfl, ?_⟩)
      (repeat (first | (with_reducible exact bl_refl _) | (with_reducible refine bl_drew ?_) | (with_reducible refine bl_alloc ?_ _) | (with_reducible refine bl_set' ?_ ?_; · (first | omega | (simp; done) | (simp; omega))) | (with_reducible refine bl_last (by assumption) ?_) | (with_reducible refine bl_drewN ?_ _)))
    · rw [hi]
      clear hi hu
      have hE : (⟨(s ++ ([47] ++ t)).toArray⟩ : ByteArray) = (⟨s.toArray⟩ ++ ⟨#[47]⟩) ++ ⟨t.toArray⟩ := by
        have e1 : (⟨#[45]⟩ : ByteArray) = ⟨[45].toArray⟩ := rfl
        have e2 : (⟨#[47]⟩ : ByteArray) = ⟨[47].toArray⟩ := rfl
        simp only [e1, e2, bs_append]
        simp
      rw [hE]
      clear hE
      have hd0 : decide ((u : Int) < 0) = false := decide_eq_false (by omega)
      have hmx : max (u : Int) (-(u : Int)) = u := by omega
      go_enter Tryd.func37, Tryd.ntmps37
      go_wp2_with (first | (go_at_call 26; ((with_reducible refine (HV.out _).mono ?_); rintro e w' ⟨rfl, hb⟩; obtain ⟨hz, hc, hf⟩ := bcl hb (by first | (simp; rfl) | rfl))) | (go_at_call 62; ((with_reducible refine (HI.out _).mono ?_); rintro e w' ⟨rfl, hb⟩; obtain ⟨hz, hc, hf⟩ := bcl hb (by first | (simp; rfl) | rfl))) | (go_at_call 62; ((with_reducible refine (HJ.out _).mono ?_); rintro e w' ⟨rfl, hb⟩; obtain ⟨hz, hc, hf⟩ := bcl hb (by first | (simp; rfl) | rfl))))
      (refine bodyPost_ret (v := .tuple #[.string ((⟨s.toArray⟩ ++ ⟨#[47]⟩) ++ ⟨t.toArray⟩), .int .i64 0]) (by simp only [results, Tryd.results37]; go_simp) rfl ⟨rfl, ?_⟩)
      (repeat (first | (with_reducible exact bl_refl _) | (with_reducible refine bl_drew ?_) | (with_reducible refine bl_alloc ?_ _) | (with_reducible refine bl_set' ?_ ?_; · (first | omega | (simp; done) | (simp; omega))) | (with_reducible refine bl_last (by assumption) ?_) | (with_reducible refine bl_drewN ?_ _)))
end Go.Proofs.YtmjbcoapceoakaaDoor
