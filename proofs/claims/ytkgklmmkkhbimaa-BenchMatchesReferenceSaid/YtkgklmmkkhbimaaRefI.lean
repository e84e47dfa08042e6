/- The reference's Run. -/
import Derived.Test.YtkgklmmkkhbimaaRefK
import Derived.Test.YtkgklmmkkhbimaaRefB
namespace Go.Proofs.Ytkgklmmkkhbimaa
open Go.RowKit

/-- The array of N bands. -/
def bandA (N : Nat) (g h : Nat → Int × Int) : Array Value := ((List.range (N * 4)).map fun i => Value.int .i64 (if i % 4 = 0 then (g (i / 4)).1 else if i % 4 = 1 then (g (i / 4)).2 else if i % 4 = 2 then (h (i / 4)).1 else (h (i / 4)).2)).toArray
theorem bandA_size (N : Nat) (g h : Nat → Int × Int) : (bandA N g h).size = N * 4 := by simp [bandA]
theorem bandA_0 (N : Nat) (g h : Nat → Int × Int) {x : Nat} (hx : x < N) : (bandA N g h)[x * 4]? = some (.int .i64 (g x).1) := by
  have h1 : x * 4 < N * 4 := by omega
  have h2 : x * 4 % 4 = 0 := by omega
  have h3 : x * 4 / 4 = x := by omega
  simp [bandA, h1]
theorem bandA_1 (N : Nat) (g h : Nat → Int × Int) {x : Nat} (hx : x < N) : (bandA N g h)[x * 4 + 1]? = some (.int .i64 (g x).2) := by
  have h1 : x * 4 + 1 < N * 4 := by omega
  have h2 : (x * 4 + 1) % 4 = 1 := by omega
  have h3 : (x * 4 + 1) / 4 = x := by omega
  simp [bandA, h1, h2, h3]
theorem bandA_2 (N : Nat) (g h : Nat → Int × Int) {x : Nat} (hx : x < N) : (bandA N g h)[x * 4 + 2]? = some (.int .i64 (h x).1) := by
  have h1 : x * 4 + 2 < N * 4 := by omega
  have h2 : (x * 4 + 2) % 4 = 2 := by omega
  have h3 : (x * 4 + 2) / 4 = x := by omega
  simp [bandA, h1, h2, h3]
theorem bandA_3 (N : Nat) (g h : Nat → Int × Int) {x : Nat} (hx : x < N) : (bandA N g h)[x * 4 + 3]? = some (.int .i64 (h x).2) := by
  have h1 : x * 4 + 3 < N * 4 := by omega
  have h2 : (x * 4 + 3) % 4 = 3 := by omega
  have h3 : (x * 4 + 3) / 4 = x := by omega
  simp [bandA, h1, h2, h3]
theorem bandA_set (N : Nat) (g h : Nat → Int × Int) (x : Nat) (a b c d : Int) :
    ((((bandA N g h).setIfInBounds (x * 4) (.int .i64 a)).setIfInBounds (x * 4 + 1) (.int .i64 b)).setIfInBounds (x * 4 + 2) (.int .i64 c)).setIfInBounds (x * 4 + 3) (.int .i64 d) =
      bandA N (fun y => if y = x then (a, b) else g y) (fun y => if y = x then (c, d) else h y) := by
  apply Array.ext
  · simp [bandA]
  · intro i h1 h2
    have hi : i < N * 4 := by simpa [bandA] using h2
    rw [Array.getElem_setIfInBounds (by simpa [bandA] using hi), Array.getElem_setIfInBounds (by simpa [bandA] using hi), Array.getElem_setIfInBounds (by simpa [bandA] using hi), Array.getElem_setIfInBounds (by simpa [bandA] using hi)]
    simp only [bandA, List.getElem_toArray, List.getElem_map, List.getElem_range]
    by_cases e : i / 4 = x
    · have hm : i % 4 = 0 ∨ i % 4 = 1 ∨ i % 4 = 2 ∨ i % 4 = 3 := by omega
      have hd := Nat.div_add_mod i 4
      rcases hm with m | m | m | m
      · have e0 : x * 4 = i := by omega
        have n1 : ¬ x * 4 + 1 = i := by omega
        have n2 : ¬ x * 4 + 2 = i := by omega
        have n3 : ¬ x * 4 + 3 = i := by omega
        simp only [e0, m, e, if_true]
        simp
      · have e0 : ¬ x * 4 = i := by omega
        have n1 : x * 4 + 1 = i := by omega
        have n2 : ¬ x * 4 + 2 = i := by omega
        have n3 : ¬ x * 4 + 3 = i := by omega
        simp [e0, n1, n2, n3, m, e]
      · have e0 : ¬ x * 4 = i := by omega
        have n1 : ¬ x * 4 + 1 = i := by omega
        have n2 : x * 4 + 2 = i := by omega
        have n3 : ¬ x * 4 + 3 = i := by omega
        simp [e0, n1, n2, n3, m, e]
      · have e0 : ¬ x * 4 = i := by omega
        have n1 : ¬ x * 4 + 1 = i := by omega
        have n2 : ¬ x * 4 + 2 = i := by omega
        have n3 : x * 4 + 3 = i := by omega
        simp [e0, n1, n2, n3, m, e]
    · have e0 : ¬ x * 4 = i := by omega
      have n1 : ¬ x * 4 + 1 = i := by omega
      have n2 : ¬ x * 4 + 2 = i := by omega
      have n3 : ¬ x * 4 + 3 = i := by omega
      simp [e0, n1, n2, n3, e]
theorem made_four (z : Value) (N : Nat) : madeCells #[z, z, z, z] N = Array.replicate N z := by
  apply Array.ext
  · simp [madeCells]
  · intro i h1 h2
    have : i % 4 = 0 ∨ i % 4 = 1 ∨ i % 4 = 2 ∨ i % 4 = 3 := by omega
    rcases this with h | h | h | h <;> simp [madeCells, h]
theorem bandA_zero (N : Nat) : bandA N (fun _ => (0, 0)) (fun _ => (0, 0)) = Array.replicate (N * 4) (.int .i64 0) := by
  apply Array.ext <;> simp [bandA]
theorem make_bands (N : Nat) (h : N ≤ 1000000) (W : World) : (Instr.makeSlice 31 (.int .i64 (N : Int)) (.int .i64 (N : Int))).run Try.prog W = .ok (.slice (some ⟨W.heap.size, 0, none⟩) N N) (W.alloc (.cells (bandA N (fun _ => (0, 0)) (fun _ => (0, 0))) 46)) := by
  obtain ⟨i, hi, hz0, hz1, hz2⟩ := info_parts Try.infoBand
  have := run_make (P := Try.prog) (w := W) 31 46 i (.agg #[.int .i64 0, .int .i64 0, .int .i64 0, .int .i64 0]) Try.underlying31 hi hz0 .i64 .i64 (N : Int) (N : Int) (by omega) (by omega) (by rw [hz2]; omega) (by omega)
  rw [this, hz1]
  simp only [Int.toNat_natCast]
  rw [show (Value.agg #[.int IntKind.i64 0, .int .i64 0, .int .i64 0, .int .i64 0]).cells = #[.int .i64 0, .int .i64 0, .int .i64 0, .int .i64 0] from rfl, made_four, bandA_zero]
theorem BandsR.of_blk {w : World} {g0 N : Nat} {g h : Nat → Int × Int} (hb : Blk w g0 46 (bandA N g h)) : BandsR w w.heap.size (some ⟨g0, 0, none⟩) N g h := fun _ =>
  ⟨g0, 0, rfl, hb.lt, fun x hx => ⟨by rw [Nat.zero_add]; exact (hb.cell _).trans (bandA_0 N g h hx), by rw [Nat.zero_add]; exact (hb.cell _).trans (bandA_1 N g h hx), by rw [Nat.zero_add]; exact (hb.cell _).trans (bandA_2 N g h hx), by rw [Nat.zero_add]; exact (hb.cell _).trans (bandA_3 N g h hx)⟩⟩

set_option maxRecDepth 100000 in
set_option maxHeartbeats 8000000 in
theorem RRun_c (n : Int) (l : List Bt) (f1 f2 e1 e2 : Int) (A : Option Addr) (cap : Nat) (w : World) (hl : Lst w w.heap.size A l) (hlen : l.length ≤ 9223372036854775807) (hcap : l.length ≤ cap) :
    Calls Try.prog 15 #[.int .i64 n, .slice A l.length cap, .agg #[.int .i64 f1, .int .i64 f2], .agg #[.int .i64 e1, .int .i64 e2]] w (RunP n l f1 f2 e1 e2 w) := by
  have HV := Lib.hid (fun w h => RefValid_c n l A cap w h hlen hcap)
  have HL := Lib.hid hl
  have HF := Lib.hid (fun w => Freq_c f1 f2 w)
  have HR := Lib.hid (fun w => Rated_c e1 e2 w)
  clear hl
  cases hg : runG n l f1 f2 e1 e2
  · have HG := Lib.hid hg
    have hways : (vld n l = false) ∨ (vld n l = true ∧ sdV f1 f2 = false) ∨ (vld n l = true ∧ sdV f1 f2 = true ∧ rtV e1 e2 = false) := by
      unfold runG at hg
      revert hg
      cases vld n l <;> cases sdV f1 f2 <;> cases rtV e1 e2 <;> simp
    clear hg
    rcases hways with h1 | ⟨h1, h2⟩ | ⟨h1, h2, h3⟩
    · rw [h1] at HV
      clear h1
      generalize sdV f1 f2 = u at HF
      generalize rtV e1 e2 = v at HR
      generalize l.length = L at HV hlen hcap ⊢
      go_enter Try.func15, Try.ntmps15
      go_wp2_with (first | (go_at_call 13; ((with_reducible refine (HV.out _ (HL.out.up (by (repeat (first | (with_reducible exact bl_refl _) | (with_reducible refine bl_drew ?_) | (with_reducible refine bl_alloc ?_ _) | (with_reducible refine bl_set' ?_ ?_; · (first | omega | (simp; done) | (simp; omega))) | (with_reducible refine bl_last (by assumption) ?_) | (with_reducible refine bl_drewN ?_ _)))))).mono ?_); rintro e w' ⟨rfl, hb⟩; obtain ⟨hz, hc, hf⟩ := bcl hb (by first | (simp; rfl) | rfl))) | (go_at_call 28; ((with_reducible refine (HF.out _).mono ?_); rintro e w' ⟨rfl, hb⟩; obtain ⟨hz, hc, hf⟩ := bcl hb (by first | (simp; rfl) | rfl))) | (go_at_call 29; ((with_reducible refine (HR.out _).mono ?_); rintro e w' ⟨rfl, hb⟩; obtain ⟨hz, hc, hf⟩ := bcl hb (by first | (simp; rfl) | rfl))))
      refine bodyPost_ret (v := .tuple #[.slice none 0 0, .int .i64 1]) (by simp only [results, Try.results15]; go_simp) rfl ⟨?_, Or.inl ⟨HG.out, rfl⟩⟩
      (repeat (first | (with_reducible exact bl_refl _) | (with_reducible refine bl_drew ?_) | (with_reducible refine bl_alloc ?_ _) | (with_reducible refine bl_set' ?_ ?_; · (first | omega | (simp; done) | (simp; omega))) | (with_reducible refine bl_last (by assumption) ?_) | (with_reducible refine bl_drewN ?_ _)))
    · rw [h1] at HV
      rw [h2] at HF
      clear h1 h2
      generalize rtV e1 e2 = v at HR
      generalize l.length = L at HV hlen hcap ⊢
      go_enter Try.func15, Try.ntmps15
      go_wp2_with (first | (go_at_call 13; ((with_reducible refine (HV.out _ (HL.out.up (by (repeat (first | (with_reducible exact bl_refl _) | (with_reducible refine bl_drew ?_) | (with_reducible refine bl_alloc ?_ _) | (with_reducible refine bl_set' ?_ ?_; · (first | omega | (simp; done) | (simp; omega))) | (with_reducible refine bl_last (by assumption) ?_) | (with_reducible refine bl_drewN ?_ _)))))).mono ?_); rintro e w' ⟨rfl, hb⟩; obtain ⟨hz, hc, hf⟩ := bcl hb (by first | (simp; rfl) | rfl))) | (go_at_call 28; ((with_reducible refine (HF.out _).mono ?_); rintro e w' ⟨rfl, hb⟩; obtain ⟨hz, hc, hf⟩ := bcl hb (by first | (simp; rfl) | rfl))) | (go_at_call 29; ((with_reducible refine (HR.out _).mono ?_); rintro e w' ⟨rfl, hb⟩; obtain ⟨hz, hc, hf⟩ := bcl hb (by first | (simp; rfl) | rfl))))
      refine bodyPost_ret (v := .tuple #[.slice none 0 0, .int .i64 1]) (by simp only [results, Try.results15]; go_simp) rfl ⟨?_, Or.inl ⟨HG.out, rfl⟩⟩
      (repeat (first | (with_reducible exact bl_refl _) | (with_reducible refine bl_drew ?_) | (with_reducible refine bl_alloc ?_ _) | (with_reducible refine bl_set' ?_ ?_; · (first | omega | (simp; done) | (simp; omega))) | (with_reducible refine bl_last (by assumption) ?_) | (with_reducible refine bl_drewN ?_ _)))
    · rw [h1] at HV
      rw [h2] at HF
      rw [h3] at HR
      clear h1 h2 h3
      generalize l.length = L at HV hlen hcap ⊢
      go_enter Try.func15, Try.ntmps15
      go_wp2_with (first | (go_at_call 13; ((with_reducible refine (HV.out _ (HL.out.up (by (repeat (first | (with_reducible exact bl_refl _) | (with_reducible refine bl_drew ?_) | (with_reducible refine bl_alloc ?_ _) | (with_reducible refine bl_set' ?_ ?_; · (first | omega | (simp; done) | (simp; omega))) | (with_reducible refine bl_last (by assumption) ?_) | (with_reducible refine bl_drewN ?_ _)))))).mono ?_); rintro e w' ⟨rfl, hb⟩; obtain ⟨hz, hc, hf⟩ := bcl hb (by first | (simp; rfl) | rfl))) | (go_at_call 28; ((with_reducible refine (HF.out _).mono ?_); rintro e w' ⟨rfl, hb⟩; obtain ⟨hz, hc, hf⟩ := bcl hb (by first | (simp; rfl) | rfl))) | (go_at_call 29; ((with_reducible refine (HR.out _).mono ?_); rintro e w' ⟨rfl, hb⟩; obtain ⟨hz, hc, hf⟩ := bcl hb (by first | (simp; rfl) | rfl))))
      refine bodyPost_ret (v := .tuple #[.slice none 0 0, .int .i64 1]) (by simp only [results, Try.results15]; go_simp) rfl ⟨?_, Or.inl ⟨HG.out, rfl⟩⟩
      (repeat (first | (with_reducible exact bl_refl _) | (with_reducible refine bl_drew ?_) | (with_reducible refine bl_alloc ?_ _) | (with_reducible refine bl_set' ?_ ?_; · (first | omega | (simp; done) | (simp; omega))) | (with_reducible refine bl_last (by assumption) ?_) | (with_reducible refine bl_drewN ?_ _)))
  have HG := Lib.hid hg
  have hgg : vld n l = true ∧ sdV f1 f2 = true ∧ rtV e1 e2 = true := by
    unfold runG at hg
    revert hg
    cases vld n l <;> cases sdV f1 f2 <;> cases rtV e1 e2 <;> simp
  obtain ⟨hv, hsd, hrt⟩ := hgg
  rw [hv] at HV
  rw [hsd] at HF
  rw [hrt] at HR
  have hvl := vld_len hv
  have hL39 : l.length ≤ 39 := by omega
  obtain ⟨N, rfl⟩ : ∃ N : Nat, n = N := ⟨n.toNat, by omega⟩
  have hN1 : 1 ≤ N := by omega
  have hN2 : N ≤ 40 := by omega
  have hmk := make_bands N (by omega)
  have HVV := Lib.hid hv
  have HVL := Lib.hid hvl
  have hbd : -1000000000 ≤ e1 ∧ e1 ≤ 1000000000 := by
    obtain ⟨r0, r1, r2, r3⟩ := rt_of hrt
    exact ⟨by omega, r1⟩
  have HMI := Lib.hid (fun w => Rminus_c e1 e2 w hbd.1 hbd.2)
  clear hg hv hsd hrt hvl hbd
  generalize hLL : l.length = L at *
  have HLL := Lib.hid hLL
  clear hLL
  have z0 := bandA_0 N (fun _ => (0, 0)) (fun _ => (0, 0)) (x := 0) (by omega)
  have z1 := bandA_1 N (fun _ => (0, 0)) (fun _ => (0, 0)) (x := 0) (by omega)
  have z2 := bandA_2 N (fun _ => (0, 0)) (fun _ => (0, 0)) (x := 0) (by omega)
  have z3 := bandA_3 N (fun _ => (0, 0)) (fun _ => (0, 0)) (x := 0) (by omega)
  simp only [Nat.zero_mul, Nat.zero_add] at z0 z1 z2 z3
  go_enter Try.func15, Try.ntmps15
  go_wp2_with fail
  ((with_reducible refine (HV.out _ (HL.out.up (by (repeat (first | (with_reducible exact bl_refl _) | (with_reducible refine bl_drew ?_) | (with_reducible refine bl_alloc ?_ _) | (with_reducible refine bl_set' ?_ ?_; · (first | omega | (simp; done) | (simp; omega))) | (with_reducible refine bl_last (by assumption) ?_) | (with_reducible refine bl_drewN ?_ _)))))).mono ?_); rintro e wv ⟨rfl, hbv⟩)
  have hzv := hbv.size
  simp only [World.size_alloc] at hzv
  have hbw : Below w.heap.size w wv := Below.trans (by (repeat (first | (with_reducible exact bl_refl _) | (with_reducible refine bl_drew ?_) | (with_reducible refine bl_alloc ?_ _) | (with_reducible refine bl_set' ?_ ?_; · (first | omega | (simp; done) | (simp; omega))) | (with_reducible refine bl_last (by assumption) ?_) | (with_reducible refine bl_drewN ?_ _)))) (hbv.mono (by simp; omega))
  have B6 : Blk wv w.heap.size 24 #[.int .i64 f1, .int .i64 f2] := ((Blk.new w _ _).alloc _).below hbv (by simp; omega)
  have B7 : Blk wv (w.heap.size + 1) 24 #[.int .i64 e1, .int .i64 e2] := (Blk.new' _ _ _ _ (by simp)).below hbv (by simp)
  have k60 := B6.cell 0
  have k61 := B6.cell 1
  simp only [List.getElem?_toArray, List.getElem?_cons_zero, List.getElem?_cons_succ] at k60 k61
  have HB6 := Lib.hid B6
  have HB7 := Lib.hid B7
  have HBV := Lib.hid hbw
  have y6 : w.heap.size < wv.heap.size := B6.lt
  have y7 : w.heap.size + 1 < wv.heap.size := B7.lt
  clear hbv B6 B7 hbw
  go_wp2_with fail
  ((with_reducible refine (HF.out _).mono ?_); rintro e wf ⟨rfl, hbf⟩)
  have B6 := HB6.out.below hbf y6
  have B7 := HB7.out.below hbf y7
  have k70 := B7.cell 0
  have k71 := B7.cell 1
  simp only [List.getElem?_toArray, List.getElem?_cons_zero, List.getElem?_cons_succ] at k70 k71
  have y8 : w.heap.size + 1 < wf.heap.size := B7.lt
  have y9 : w.heap.size < wf.heap.size := B6.lt
  have HB6 := Lib.hid B6
  have HB7 := Lib.hid B7
  have HBV := Lib.hid (bl_trans HBV.out hbf)
  clear hbf B6 B7 k60 k61
  go_wp2_with fail
  ((with_reducible refine (HR.out _).mono ?_); rintro e wt ⟨rfl, hbt⟩)
  have B6 := HB6.out.below hbt y9
  have B7 := HB7.out.below hbt y8
  have k60 := B6.cell 0
  have k61 := B6.cell 1
  simp only [List.getElem?_toArray, List.getElem?_cons_zero, List.getElem?_cons_succ] at k60 k61
  have HBW := Lib.hid (bl_trans HBV.out hbt)
  have HB7 := Lib.hid B7
  have y10 : w.heap.size + 1 < wt.heap.size := B7.lt
  have y11 : w.heap.size < wt.heap.size := B6.lt
  clear hbt B6 B7 k70 k71 HB6 HBV HV HF HR hzv
  go_wp2
  go_loopw [14] (fun i wr => ∃ (k : Nat) (g h : Nat → Int × Int), k ≤ L ∧ i = .int .i64 k ∧ Hid (plO l (f1, f2) (fun _ => (-e1, e2)) k = some g) ∧ Hid (plO l (f1, f2) (fun _ => (e1, e2)) k = some h) ∧ Below wt.heap.size wt wr ∧ wt.heap.size + 1 ≤ wr.heap.size ∧ Hid (Blk wr wt.heap.size 46 (bandA N g h))) (fun i _ => L - (intOf i).toNat)
  case atStart =>
    refine ⟨0, _, _, Nat.zero_le _, rfl, rfl, rfl, ?_, by simp, ?_⟩
    · (repeat (first | (with_reducible exact bl_refl _) | (with_reducible refine bl_drew ?_) | (with_reducible refine bl_alloc ?_ _) | (with_reducible refine bl_set' ?_ ?_; · (first | omega | (simp; done) | (simp; omega))) | (with_reducible refine bl_last (by assumption) ?_) | (with_reducible refine bl_drewN ?_ _)))
    · show Blk _ _ _ _
      exact Eq.trans (Blk.new' _ _ _ _ (by simp)) (by rw [← bandA_set N (fun _ => (0, 0)) (fun _ => (0, 0)) 0 f1 f2 f1 f2])
  case round =>
    clear hmk z0 z1 z2 z3 k60 k61
    obtain ⟨k, g, h, hk, rfl, HU, HU2, hbr, hzr, B2⟩ := hrel
    have hbwr := bl_trans HBW.out hbr
    by_cases hlt : k < L
    · obtain ⟨x, hx⟩ : ∃ x, l[k]? = some x := ⟨l[k]'(by have := HLL.out; omega), by simp⟩
      obtain ⟨bl, o, rfl, hbl, hcl⟩ := HL.out (by have := HLL.out; omega)
      obtain ⟨x0, x1, x2, x3, x4, x5, x6⟩ := (hcl k x hx).same (fun j => hbwr.cell (p := ⟨bl, j, none⟩) hbl)
      have hok := ok_parts (vld_at HVV.out hx)
      have hxD : l.getD k default = x := by rw [List.getD_eq_getElem?_getD, hx]; rfl
      have hrn := rt_of hok.2.2.1
      have ht0 : 0 < x.to := hok.2.2.2.1
      have htn : x.to < N := hok.2.2.2.2.1
      have hfr : 0 ≤ x.fr ∧ x.fr < N := by
        have := hok.2.2.2.2.2.2
        omega
      have hst := plO_put l (f1, f2) (fun _ => (-e1, e2)) k
      have hst2 := plO_put l (f1, f2) (fun _ => (e1, e2)) k
      rw [HU.out, Option.bind_some, hxD] at hst
      rw [HU2.out, Option.bind_some, hxD] at hst2
      unfold putF stepE stepF at hst hst2
      simp only at hst hst2
      have hM := fun W => Rset_c (g x.fr.toNat).1 (g x.fr.toNat).2 x.fr x.to x.p x.q x.rn x.rd (-e1) e2 x.ab W (by have := hrn.1; omega) hrn.2.1
      have hM2 := fun W => Rset_c (h x.fr.toNat).1 (h x.fr.toNat).2 x.fr x.to x.p x.q x.rn x.rd e1 e2 x.ab W (by have := hrn.1; omega) hrn.2.1
      have r70 := (hbr.cell (p := ⟨w.heap.size + 1, 0, none⟩) y10).trans (HB7.out.cell 0)
      have r71 := (hbr.cell (p := ⟨w.heap.size + 1, 1, none⟩) y10).trans (HB7.out.cell 1)
      simp only [List.getElem?_toArray, List.getElem?_cons_zero, List.getElem?_cons_succ] at r70 r71
      have hways : (moE (g x.fr.toNat).1 (g x.fr.toNat).2 x.p x.q (sgn x.ab x.rn) x.rd (-e1) e2 = 0 ∧ (moE (g x.fr.toNat).1 (g x.fr.toNat).2 x.p x.q (sgn x.ab x.rn) x.rd (-e1) e2 != 0) = false) ∨
          (moE (g x.fr.toNat).1 (g x.fr.toNat).2 x.p x.q (sgn x.ab x.rn) x.rd (-e1) e2 = 3 ∧ (moE (g x.fr.toNat).1 (g x.fr.toNat).2 x.p x.q (sgn x.ab x.rn) x.rd (-e1) e2 != 0) = true) := by
        unfold moE
        split
        · exact Or.inl ⟨rfl, rfl⟩
        · exact Or.inr ⟨rfl, rfl⟩
      have hways2 : (moE (h x.fr.toNat).1 (h x.fr.toNat).2 x.p x.q (sgn x.ab x.rn) x.rd e1 e2 = 0 ∧ (moE (h x.fr.toNat).1 (h x.fr.toNat).2 x.p x.q (sgn x.ab x.rn) x.rd e1 e2 != 0) = false) ∨
          (moE (h x.fr.toNat).1 (h x.fr.toNat).2 x.p x.q (sgn x.ab x.rn) x.rd e1 e2 = 3 ∧ (moE (h x.fr.toNat).1 (h x.fr.toNat).2 x.p x.q (sgn x.ab x.rn) x.rd e1 e2 != 0) = true) := by
        unfold moE
        split
        · exact Or.inl ⟨rfl, rfl⟩
        · exact Or.inr ⟨rfl, rfl⟩
      have zl : bl < wr.heap.size := by have := hbwr.size; omega
      have y12 : w.heap.size + 1 < wr.heap.size := by omega
      have HBR := Lib.hid hbr
      clear hcl hx hok hxD hrn hbl hbr hbwr
      obtain ⟨xfr, xto, xp, xq, xrn, xrd, xab⟩ := x
      simp only at x0 x1 x2 x3 x4 x5 x6 ht0 htn hfr hst hst2 hM hM2 hways hways2
      unfold moV at hM hM2
      obtain ⟨hf0, hfn⟩ := hfr
      have A0 := bandA_0 N g h (x := xfr.toNat) (by omega)
      have A1 := bandA_1 N g h (x := xfr.toNat) (by omega)
      have A2 := bandA_2 N g h (x := xfr.toNat) (by omega)
      have A3 := bandA_3 N g h (x := xfr.toNat) (by omega)
      have T0 := bandA_0 N g h (x := xto.toNat) (by omega)
      have T1 := bandA_1 N g h (x := xto.toNat) (by omega)
      have T2 := bandA_2 N g h (x := xto.toNat) (by omega)
      have T3 := bandA_3 N g h (x := xto.toNat) (by omega)
      generalize moX (g xfr.toNat).1 (g xfr.toNat).2 xp xq (sgn xab xrn) xrd (-e1) e2 = mx at *
      generalize moY (g xfr.toNat).1 (g xfr.toNat).2 xp xq (sgn xab xrn) xrd (-e1) e2 = my at *
      generalize moE (g xfr.toNat).1 (g xfr.toNat).2 xp xq (sgn xab xrn) xrd (-e1) e2 = me at *
      generalize moX (h xfr.toNat).1 (h xfr.toNat).2 xp xq (sgn xab xrn) xrd e1 e2 = nx at *
      generalize moY (h xfr.toNat).1 (h xfr.toNat).2 xp xq (sgn xab xrn) xrd e1 e2 = ny at *
      generalize moE (h xfr.toNat).1 (h xfr.toNat).2 xp xq (sgn xab xrn) xrd e1 e2 = ne at *
      have HST := Lib.hid hst
      have HST2 := Lib.hid hst2
      have HM := Lib.hid hM
      have HM2 := Lib.hid hM2
      clear hst hst2 hM hM2
      generalize (g xfr.toNat).1 = gx at *
      generalize (g xfr.toNat).2 = gy at *
      generalize (h xfr.toNat).1 = hx at *
      generalize (h xfr.toNat).2 = hy at *
      generalize (g xto.toNat).1 = tx at *
      generalize (g xto.toNat).2 = ty at *
      generalize (h xto.toNat).1 = ux at *
      generalize (h xto.toNat).2 = uy at *
      go_wp2
      obtain ⟨wb, hwb⟩ : ∃ W : World, wr.alloc (.cells #[.int .i64 xfr, .int .i64 xto, .int .i64 xp, .int .i64 xq, .int .i64 xrn, .int .i64 xrd, .bool xab] 49) = W := ⟨_, rfl⟩
      rw [hwb]
      have hbwb : Below wr.heap.size wr wb := by rw [← hwb]; (repeat (first | (with_reducible exact bl_refl _) | (with_reducible refine bl_drew ?_) | (with_reducible refine bl_alloc ?_ _) | (with_reducible refine bl_set' ?_ ?_; · (first | omega | (simp; done) | (simp; omega))) | (with_reducible refine bl_last (by assumption) ?_) | (with_reducible refine bl_drewN ?_ _)))
      have hszb : wb.heap.size = wr.heap.size + 1 := by rw [← hwb]; simp
      have BB : Blk wb wr.heap.size 49 #[.int .i64 xfr, .int .i64 xto, .int .i64 xp, .int .i64 xq, .int .i64 xrn, .int .i64 xrd, .bool xab] := by rw [← hwb]; exact Blk.new _ _ _
      have p0 := BB.cell 0
      have p1 := BB.cell 1
      have p2 := BB.cell 2
      have p3 := BB.cell 3
      have p4 := BB.cell 4
      have p5 := BB.cell 5
      have p6 := BB.cell 6
      simp only [List.getElem?_toArray, List.getElem?_cons_zero, List.getElem?_cons_succ] at p0 p1 p2 p3 p4 p5 p6
      have e70 := (hbwb.cell (p := ⟨w.heap.size + 1, 0, none⟩) y12).trans r70
      have e71 := (hbwb.cell (p := ⟨w.heap.size + 1, 1, none⟩) y12).trans r71
      have C := B2.out.below hbwb B2.out.lt
      have a0 := (C.cell _).trans A0
      have a1 := (C.cell _).trans A1
      have y13 : wt.heap.size < wb.heap.size := C.lt
      have y14 : wr.heap.size < wb.heap.size := BB.lt
      have y15 : w.heap.size + 1 < wb.heap.size := by omega
      have HBB := Lib.hid BB
      have HC := Lib.hid C
      have HBWB := Lib.hid (bl_trans HBR.out hbwb)
      clear hwb BB C hbwb x0 x1 x2 x3 x4 x5 x6 r70 r71 B2 zl A0 A1
      have HA2 := Lib.hid A2
      have HA3 := Lib.hid A3
      have HT0 := Lib.hid T0
      have HT1 := Lib.hid T1
      have HT2 := Lib.hid T2
      have HT3 := Lib.hid T3
      clear A2 A3 T0 T1 T2 T3
      (refine wp_region_alloc [0,1,2,3,4,5,6,7,8,9,10,11,12] [12] [14,15] 13 24 #[.int .i64 0, .int .i64 0] _ (by kernel_rfl) (by kernel_rfl) (by kernel_rfl) (by rfl) (by repeat (first | exact panic_body | refine panic_then ?_ | refine panic_block ?_)) rfl (fun _ _ => by go_simp) ?_
       simp only [pickI, pick, List.getElem?_cons_succ, List.getElem?_cons_zero]
       iterate 13 (first
         | (refine headZ_val (by rfl) (by rfl) ?_
            apply Exists.intro
            refine ⟨fun X hX => ?_, ?_⟩
            · (obtain ⟨qz, qc, qf⟩ := bcl hX.out (by first | (simp; rfl) | rfl)
               go_simp
               first | done | (go_at_call 43; ((with_reducible refine (HMI.out _).mono ?_); rintro e w2 ⟨rfl, hb2⟩; exact ⟨rfl, hb2⟩)) | (go_at_call 42; ((with_reducible refine (HM.out _).mono ?_); rintro e w2 ⟨rfl, hb2⟩; exact ⟨rfl, hb2⟩)) | rfl | exact ⟨rfl, rfl⟩)
            simp only [Act.put, List.setIfInBounds_toArray, List.set_cons_zero, List.set_cons_succ])
         | (refine headZ_pure (by rfl) (by rfl) ?_
            apply Exists.intro
            refine ⟨fun X => ?_, ?_⟩
            · (go_simp
               first | done | rfl)
            simp only [Act.put, List.setIfInBounds_toArray, List.set_cons_zero, List.set_cons_succ])
         | (refine headZ_pass (by rfl) ?_
            simp only [Act.put, List.setIfInBounds_toArray, List.set_cons_zero, List.set_cons_succ]))
       refine headZ_nil ?_
       intro w' Bq hw' hBq hBk
       have hb := hw'.out
       clear hw'
       try simp only [Act.put, List.setIfInBounds_toArray, List.set_cons_zero, List.set_cons_succ]
       obtain ⟨hz, hc, hf⟩ := bcl hb (by first | (simp; rfl) | rfl))
      have cq0 := hBk.cell 0
      have cq1 := hBk.cell 1
      have fq0 := hBk.frozen 0
      have fq1 := hBk.frozen 1
      simp only [List.getElem?_toArray, List.getElem?_cons_zero, List.getElem?_cons_succ] at cq0 cq1
      have HBK := Lib.hid hBk
      clear hBk
      go_wp2
      obtain ⟨B1, rfl⟩ : ∃ x : Nat, x = Bq := ⟨_, rfl⟩
      obtain ⟨W1, hW1⟩ : ∃ W : World, (w'.setCell ⟨B1, 0, none⟩ (.int .i64 mx)).setCell ⟨B1, 1, none⟩ (.int .i64 my) = W := ⟨_, rfl⟩
      rw [hW1]
      have hs1 : W1.heap.size = w'.heap.size := by rw [← hW1]; simp only [World.setCell, Array.size_modify]
      have hbs := hb.size
      have hb1 : Below wb.heap.size wb W1 := by
        rw [← hW1]
        exact (hb.setCell (p := ⟨B1, 0, none⟩) hBq _).setCell (p := ⟨B1, 1, none⟩) hBq _
      have BQ : Blk W1 B1 24 #[.int .i64 mx, .int .i64 my] := by
        rw [← hW1]
        exact (HBK.out.set_ 0 (.int .i64 mx)).set_ 1 (.int .i64 my)
      have zq1 := BQ.lt
      have BB := HBB.out.below hb1 y14
      have C := HC.out.below hb1 y13
      clear p0 p1 p2 p3 p4 p5 p6 a0 a1
      have p0 := BB.cell 0
      have p1 := BB.cell 1
      have p2 := BB.cell 2
      have p3 := BB.cell 3
      have p4 := BB.cell 4
      have p5 := BB.cell 5
      have p6 := BB.cell 6
      simp only [List.getElem?_toArray, List.getElem?_cons_zero, List.getElem?_cons_succ] at p0 p1 p2 p3 p4 p5 p6
      have g70 := (hb1.cell (p := ⟨w.heap.size + 1, 0, none⟩) y15).trans e70
      have g71 := (hb1.cell (p := ⟨w.heap.size + 1, 1, none⟩) y15).trans e71
      have a2 := (C.cell _).trans HA2.out
      have a3 := (C.cell _).trans HA3.out
      have z13 : wt.heap.size < W1.heap.size := C.lt
      have z14 : wr.heap.size < W1.heap.size := BB.lt
      have z15 : w.heap.size + 1 < W1.heap.size := by omega
      have HBQ := Lib.hid BQ
      have HBB1 := Lib.hid BB
      have HC1 := Lib.hid C
      have HBW1 := Lib.hid (bl_trans HBWB.out hb1)
      clear hW1 BQ BB C hb1 cq0 cq1 fq0 fq1 hb hz hc hf hBq e70 e71 HBK HBB HC HBWB
      (refine wp_region_alloc [0,1,2,3,4,5,6,7,8,9,10,11] [11] [13,14] 12 24 #[.int .i64 0, .int .i64 0] _ (by kernel_rfl) (by kernel_rfl) (by kernel_rfl) (by rfl) (by repeat (first | exact panic_body | refine panic_then ?_ | refine panic_block ?_)) rfl (fun _ _ => by go_simp) ?_
       simp only [pickI, pick, List.getElem?_cons_succ, List.getElem?_cons_zero]
       iterate 12 (first
         | (refine headZ_val (by rfl) (by rfl) ?_
            apply Exists.intro
            refine ⟨fun X hX => ?_, ?_⟩
            · (obtain ⟨qz, qc, qf⟩ := bcl hX.out (by first | (simp; rfl) | rfl)
               go_simp
               first | done | (go_at_call 42; ((with_reducible refine (HM2.out _).mono ?_); rintro e w2 ⟨rfl, hb2⟩; exact ⟨rfl, hb2⟩)) | rfl | exact ⟨rfl, rfl⟩)
            simp only [Act.put, List.setIfInBounds_toArray, List.set_cons_zero, List.set_cons_succ])
         | (refine headZ_pure (by rfl) (by rfl) ?_
            apply Exists.intro
            refine ⟨fun X => ?_, ?_⟩
            · (go_simp
               first | done | rfl)
            simp only [Act.put, List.setIfInBounds_toArray, List.set_cons_zero, List.set_cons_succ])
         | (refine headZ_pass (by rfl) ?_
            simp only [Act.put, List.setIfInBounds_toArray, List.set_cons_zero, List.set_cons_succ]))
       refine headZ_nil ?_
       intro w' Bq hw' hBq hBk
       have hb := hw'.out
       clear hw'
       try simp only [Act.put, List.setIfInBounds_toArray, List.set_cons_zero, List.set_cons_succ]
       obtain ⟨hz, hc, hf⟩ := bcl hb (by first | (simp; rfl) | rfl))
      have BB := HBB1.out.below hb z14
      have C := HC1.out.below hb z13
      have BQ := HBQ.out.below hb zq1
      clear p0 p1 p2 p3 p4 p5 p6 a2 a3 g70 g71
      have p1 := BB.cell 1
      have d0 := BQ.cell 0
      have d1 := BQ.cell 1
      simp only [List.getElem?_toArray, List.getElem?_cons_zero, List.getElem?_cons_succ] at p1 d0 d1
      have t0 := (C.cell _).trans HT0.out
      have t1 := (C.cell _).trans HT1.out
      have t2 := (C.cell _).trans HT2.out
      have t3 := (C.cell _).trans HT3.out
      have v0 := C.frozen (xto.toNat * 4)
      have v1 := C.frozen (xto.toNat * 4 + 1)
      have v2 := C.frozen (xto.toNat * 4 + 2)
      have v3 := C.frozen (xto.toNat * 4 + 3)
      have cq0 := hBk.cell 0
      have cq1 := hBk.cell 1
      have fq0 := hBk.frozen 0
      have fq1 := hBk.frozen 1
      simp only [List.getElem?_toArray, List.getElem?_cons_zero, List.getElem?_cons_succ] at cq0 cq1
      have HBB2 := Lib.hid BB
      have HC2 := Lib.hid C
      have HB := Lib.hid hb
      have hzb := hb.size
      clear hBk BB C BQ hb hz hc hf
      rcases hways with ⟨rfl, hm⟩ | ⟨rfl, hm⟩
      · rcases hways2 with ⟨rfl, hm2⟩ | ⟨rfl, hm2⟩
        · go_wp2
          go_roundw
          case rel =>
            refine ⟨k + 1, _, _, by omega, by go_num, HST.out.trans (if_pos (by trivial)), HST2.out.trans (if_pos (by trivial)), ?_, ?_, ?_⟩
            · refine Below.setCell (Below.setCell (Below.setCell (Below.setCell (Below.setCell (Below.setCell (bl_trans HBW1.out HB.out) ?_ _) ?_ _) ?_ _) ?_ _) ?_ _) ?_ _
              · show wt.heap.size ≤ Bq; omega
              · show wt.heap.size ≤ Bq; omega
              · exact Nat.le_refl _
              · exact Nat.le_refl _
              · exact Nat.le_refl _
              · exact Nat.le_refl _
            · simp only [World.setCell, Array.size_modify]
              omega
            · have h2 := (((((HC2.out.far (p := ⟨Bq, 0, none⟩) (by show wt.heap.size ≠ Bq; omega) (.int .i64 nx)).far (p := ⟨Bq, 1, none⟩) (by show wt.heap.size ≠ Bq; omega) (.int .i64 ny)).set_ (xto.toNat * 4) (.int .i64 mx)).set_ (xto.toNat * 4 + 1) (.int .i64 my)).set_ (xto.toNat * 4 + 2) (.int .i64 nx)).set_ (xto.toNat * 4 + 3) (.int .i64 ny)
              rw [bandA_set] at h2
              exact h2
          case measure => simp [intOf]; omega
        · have hN : plO l (f1, f2) (fun _ => (e1, e2)) l.length = none := by
            refine plO_mono (j := k + 1) ?_ (by have := HLL.out; omega)
            rw [HST2.out, if_neg (by omega)]
          have HNo := Lib.hid hN
          clear hN
          go_wp2
          refine bodyPost_ret (v := .tuple #[.slice none 0 0, .int .i64 3]) (by simp only [results, Try.results15]; go_simp) rfl ⟨?_, Or.inr (Or.inl ⟨HG.out, Or.inr HNo.out, rfl⟩)⟩
          refine Below.setCell (Below.setCell (bl_trans HBW.out (bl_trans HBW1.out HB.out)) ?_ _) ?_ _
          · show w.heap.size ≤ Bq; omega
          · show w.heap.size ≤ Bq; omega
      · have hN : plO l (f1, f2) (fun _ => (-e1, e2)) l.length = none := by
          refine plO_mono (j := k + 1) ?_ (by have := HLL.out; omega)
          rw [HST.out, if_neg (by omega)]
        have HNo := Lib.hid hN
        clear hN
        rcases hways2 with ⟨rfl, hm2⟩ | ⟨rfl, hm2⟩
        all_goals
          go_wp2
          refine bodyPost_ret (v := .tuple #[.slice none 0 0, .int .i64 3]) (by simp only [results, Try.results15]; go_simp) rfl ⟨?_, Or.inr (Or.inl ⟨HG.out, Or.inl HNo.out, rfl⟩)⟩
          refine Below.setCell (Below.setCell (bl_trans HBW.out (bl_trans HBW1.out HB.out)) ?_ _) ?_ _
          · show w.heap.size ≤ Bq; omega
          · show w.heap.size ≤ Bq; omega
    · have hkk : k = L := by omega
      subst hkk
      go_wp2
      refine bodyPost_ret (v := .tuple #[.slice (some ⟨_, 0, none⟩) N N, .int .i64 0]) (by simp only [results, Try.results15]; go_simp) rfl ⟨hbwr, Or.inr (Or.inr ⟨HG.out, g, h, _, _, by rw [HLL.out]; exact HU.out, by rw [HLL.out]; exact HU2.out, rfl, BandsR.of_blk B2.out⟩)⟩
end Go.Proofs.Ytkgklmmkkhbimaa
