/- TopBlown: the walk. -/
import Derived.Test.YtehifkdfbiebfaaDoorK45
import Derived.Test.YtehifkdfbiebfaaDoorK46
import Derived.Deep.CutBlock
namespace Go.Proofs.YtehifkdfbiebfaaDoor
open Go Go.RowKit

theorem fd_ok {bs : Nat → Int} {n : Nat} {g : Nat → Nat → Int} {tl : Int} {a : Nat → Int} {m : Nat} (h : fdOk bs n g tl a m = true) : pV6 a 576 = true ∧ pV6 (sndF bs g n m) 576 = true ∧ farB (gpL a (sndF bs g n m)) (gpH a (sndF bs g n m)) ≤ tl * 10000 := by
  unfold fdOk at h
  simp only [Bool.and_eq_true, decide_eq_true_eq] at h
  obtain ⟨h1, h2⟩ := h
  change nrE a (sndF bs g n m) tl = 0 at h1
  change nrN a (sndF bs g n m) tl = 1 at h2
  unfold nrE at h1
  unfold nrN at h2
  by_cases hc : gpE a (sndF bs g n m) = 0 ∧ 0 ≤ tl ∧ tl ≤ 2400000
  · rw [if_pos hc] at h2
    have hg : gpG a (sndF bs g n m) = true := by
      have := hc.1
      unfold gpE at this
      cases hg : gpG a (sndF bs g n m)
      · rw [hg] at this; simp at this
      · rfl
    have hg2 := hg
    unfold gpG at hg2
    rw [Bool.and_eq_true] at hg2
    refine ⟨hg2.1, hg2.2, ?_⟩
    unfold suN3 at h2
    unfold farB
    split at h2
    · omega
    · split at h2 <;> omega
  · rw [if_neg hc] at h1
    omega
theorem bs_law {bs : Nat → Int} {n : Nat} {g : Nat → Nat → Int} {mo tl : Int} {v : Nat → Int} (hG : fdG bs n g mo tl v = true) (h0 : bsE bs n g mo tl v = 0) :
    ∃ b, bsB bs n g mo tl v = some b ∧ b ∈ fdL bs n g tl (at12 v) (mo.toNat * 2 ^ n) ∧ ∀ m ∈ fdL bs n g tl (at12 v) (mo.toNat * 2 ^ n), farA (gpL (at12 v) (sndF bs g n b)) (gpH (at12 v) (sndF bs g n b)) ≤ farB (gpL (at12 v) (sndF bs g n m)) (gpH (at12 v) (sndF bs g n m)) := by
  have hB : bsB bs n g mo tl v = (bsFo bs g n (at12 v) (fdL bs n g tl (at12 v) (mo.toNat * 2 ^ n))).getD none := by unfold bsB; rw [if_pos h0]
  unfold bsE at h0
  rw [if_pos hG] at h0
  by_cases hl : fdL bs n g tl (at12 v) (mo.toNat * 2 ^ n) = []
  · rw [if_pos hl] at h0; omega
  · rw [if_neg hl] at h0
    cases hf : bsFo bs g n (at12 v) (fdL bs n g tl (at12 v) (mo.toNat * 2 ^ n)) with
    | none => rw [hf] at h0; simp at h0
    | some st =>
      rw [hf] at hB
      obtain ⟨s1, s2, s3⟩ := bsFo_spec (bs := bs) (g := g) (n := n) (a := at12 v) _ [] none st hf ⟨fun m hm => by simp at hm, ⟨fun (b : Nat) (hb : none = some b) => absurd hb (by simp), fun _ => rfl⟩⟩
      simp only [List.nil_append] at s1 s2 s3
      cases st with
      | none => exact absurd (s3 rfl) hl
      | some b =>
        obtain ⟨hb, hn⟩ := s2 b rfl
        exact ⟨b, hB, hb, fun m hm => best_near (s1 b hb) (s1 m hm) (hn m hm)⟩
theorem sd_good {bs : Nat → Int} {n : Nat} {g : Nat → Nat → Int} {mo tl x s : Int} (h : sdE bs n g mo tl x s = 0) : ∃ X S : Nat, x = (X : Int) ∧ s = (S : Int) ∧ 1 ≤ X ∧ X ≤ 16 ∧ pV6 (sdF bs g n X S) 576 = true ∧ cell6 (sdY bs n g mo tl x s) = cell6 (sdF bs g n X S) := by
  have h0 := h
  unfold sdE at h
  cases hv : hvV (bs 0) (bs 1) (bs 2) (bs 3) (bs 4) (bs 5) n g mo tl
  · rw [hv] at h; simp at h
  cases hi : inB n mo x s
  · rw [hi] at h; simp at h
  rw [hv, hi] at h
  obtain ⟨q1, q2, q3, q4⟩ := inB_of hi
  obtain ⟨_, _, hm1, hm2, _, _⟩ := hvG_of (hv_valve hv).1
  refine ⟨x.toNat, s.toNat, by omega, by omega, by omega, by omega, ?_, cell6_ext fun i _ => by unfold sdY; rw [if_pos h0]⟩
  cases hp : pV6 (sdF bs g n x.toNat s.toNat) 576
  · rw [hp] at h; simp at h
  · rfl
theorem at_pV {v : Nat → Int} (h : pV6 v 48 = true) : pV6 (at12 v) 576 = true := by
  have hb := pV_six (f := v) h
  unfold pV6 at12
  exact pV_mk (wi_mk (by have := hb 0 (by omega); omega) (by have := hb 0 (by omega); omega)) (wi_mk (by have := hb 1 (by omega); omega) (by have := hb 1 (by omega); omega)) (wi_mk (by have := hb 2 (by omega); omega) (by have := hb 2 (by omega); omega)) (wi_mk (by have := hb 3 (by omega); omega) (by have := hb 3 (by omega); omega)) (wi_mk (by have := hb 4 (by omega); omega) (by have := hb 4 (by omega); omega)) (wi_mk (by have := hb 5 (by omega); omega) (by have := hb 5 (by omega); omega))
def ofE6 (v : Nat → Int) : Int := if pV6 v 48 then 0 else 1
def ofF6 (v : Nat → Int) (i : Nat) : Int := if pV6 v 48 then at12 v i else 0
theorem POf6 (v : Nat → Int) (w : World) : Calls Tryd.prog 34 #[.agg #[.int .i64 (v 0), .int .i64 (v 1), .int .i64 (v 2), .int .i64 (v 3), .int .i64 (v 4), .int .i64 (v 5)]] w (Ret (.tuple #[.agg #[.int .i64 (ofF6 v 0), .int .i64 (ofF6 v 1), .int .i64 (ofF6 v 2), .int .i64 (ofF6 v 3), .int .i64 (ofF6 v 4), .int .i64 (ofF6 v 5)], .int .i64 (ofE6 v)]) w) := by
  have h := POf_c (v 0) (v 1) (v 2) (v 3) (v 4) (v 5) w
  unfold ofV at h
  unfold ofF6 ofE6
  cases hp : pV6 v 48
  · rw [show pV (v 0) (v 1) (v 2) (v 3) (v 4) (v 5) 48 = false from hp] at h
    simpa using h
  · rw [show pV (v 0) (v 1) (v 2) (v 3) (v 4) (v 5) 48 = true from hp] at h
    simpa [at12] using h
theorem Find_q (bs : Nat → Int) (A : Option Addr) (n cap : Nat) (g : Nat → Nat → Int) (mo tl : Int) (v : Nat → Int) (w : World) (hv : VecsR w w.heap.size A n g) (hP : PR w) (hQ : BP w) (hL : LG w) (hn : n ≤ 9223372036854775807) :
    Calls Tryd.prog 35 #[.agg #[.int .i64 (bs 0), .int .i64 (bs 1), .int .i64 (bs 2), .int .i64 (bs 3), .int .i64 (bs 4), .int .i64 (bs 5), .slice A n cap, .int .i64 mo, .int .i64 tl], .agg #[.int .i64 (v 0), .int .i64 (v 1), .int .i64 (v 2), .int .i64 (v 3), .int .i64 (v 4), .int .i64 (v 5)]] w (fun e w' => Below w.heap.size w w' ∧ ∃ A2 N c2 f, e = .returned (.tuple #[.slice A2 N c2, .int .i64 f]) ∧ (f = 0 → fdG bs n g mo tl v = true ∧ N = (fdL bs n g tl (at12 v) (mo.toNat * 2 ^ n)).length ∧ BlwsR w' w'.heap.size A2 n (fdL bs n g tl (at12 v) (mo.toNat * 2 ^ n)))) :=
  (Find_c bs A n cap g mo tl v w hv hP hQ hL hn).mono fun e w' ⟨hb, h⟩ => ⟨hb, by
    rcases h with ⟨_, he⟩ | ⟨h1, A2, c2, he, h2⟩
    · exact ⟨none, 0, 0, 1, he, fun h => by omega⟩
    · exact ⟨A2, _, c2, 0, he, fun _ => ⟨h1, rfl, h2⟩⟩⟩
set_option maxRecDepth 100000 in
set_option maxHeartbeats 32000000 in
theorem walk_TopBlown (bs : Nat → Int) (A : Option Addr) (n cap : Nat) (g : Nat → Nat → Int) (mo tl : Int) (v : Nat → Int) (x y s : Int) (w : World) (hv : VecsR w w.heap.size A n g) (hn : n ≤ 9223372036854775807) (hlaid : LG w ∧ PR w ∧ BP w) :
    Calls Tryd.prog 5 #[.agg #[.int .i64 (bs 0), .int .i64 (bs 1), .int .i64 (bs 2), .int .i64 (bs 3), .int .i64 (bs 4), .int .i64 (bs 5), .slice A n cap, .int .i64 mo, .int .i64 tl], .agg #[.int .i64 (v 0), .int .i64 (v 1), .int .i64 (v 2), .int .i64 (v 3), .int .i64 (v 4), .int .i64 (v 5)], .int .i64 x, .int .i64 y, .int .i64 s] w (Ret (.bool true) w) := by
  obtain ⟨hL, hP, hQ⟩ := hlaid
  have HV := Lib.hid hv
  have HP := Lib.hid hP
  have HQ := Lib.hid hQ
  have HL := Lib.hid hL
  clear hv hP hQ hL
  go_enter Tryd.func5, Tryd.ntmps5
  go_upto_region 1 with fail
  refine wp_letter ?_
  intro W1 hW1
  have HB1 : Hid (Below w.heap.size w W1) := Lib.hid (by rw [hW1]; (repeat (first | (with_reducible exact bl_refl _) | (with_reducible refine bl_drew ?_) | (with_reducible refine bl_alloc ?_ _) | (with_reducible refine bl_set' ?_ ?_; · (first | omega | (simp; done) | (simp; omega))) | (with_reducible refine bl_last (by assumption) ?_) | (with_reducible refine bl_drewN ?_ _))))
  have HH1 : Hid (Blk W1 w.heap.size 75 #[.int .i64 (bs 0), .int .i64 (bs 1), .int .i64 (bs 2), .int .i64 (bs 3), .int .i64 (bs 4), .int .i64 (bs 5), .slice A n cap, .int .i64 mo, .int .i64 tl]) := Lib.hid (by rw [hW1]; exact (Blk.new _ _ _).alloc _)
  have HX1 : Hid (Blk W1 (w.heap.size + 1) 27 #[.int .i64 (v 0), .int .i64 (v 1), .int .i64 (v 2), .int .i64 (v 3), .int .i64 (v 4), .int .i64 (v 5)]) := Lib.hid (by rw [hW1]; exact blkAt _ _ _ _ (by simp))
  clear hW1
  go_wp2_with fail
  (with_reducible refine (head13_c W1 (HP.out.up HB1.out) (HQ.out.up HB1.out) (HL.out.up HB1.out)).mono ?_)
  rintro e W2 ⟨rfl, hb2⟩
  have HB2 := Lib.hid (bl_trans HB1.out hb2)
  have HH2 := Lib.hid (HH1.out.below hb2 HH1.out.lt)
  have HX2 := Lib.hid (HX1.out.below hb2 HX1.out.lt)
  clear hb2 HB1 HH1 HX1
  have h_0 := HH2.out.cell 0
  have h_1 := HH2.out.cell 1
  have h_2 := HH2.out.cell 2
  have h_3 := HH2.out.cell 3
  have h_4 := HH2.out.cell 4
  have h_5 := HH2.out.cell 5
  have h_6 := HH2.out.cell 6
  have h_7 := HH2.out.cell 7
  have h_8 := HH2.out.cell 8
  simp only [List.getElem?_toArray, List.getElem?_cons_zero, List.getElem?_cons_succ] at h_0 h_1 h_2 h_3 h_4 h_5 h_6 h_7 h_8
  have zh := HH2.out.lt
  have HS1 : Hid (Calls Tryd.prog 27 #[.agg #[.int .i64 (bs 0), .int .i64 (bs 1), .int .i64 (bs 2), .int .i64 (bs 3), .int .i64 (bs 4), .int .i64 (bs 5), .slice A n cap, .int .i64 mo, .int .i64 tl], .agg #[.int .i64 x, .int .i64 s]] W2 (Ret (.tuple #[.agg #[.int .i64 (sdY bs n g mo tl x s 0), .int .i64 (sdY bs n g mo tl x s 1), .int .i64 (sdY bs n g mo tl x s 2), .int .i64 (sdY bs n g mo tl x s 3), .int .i64 (sdY bs n g mo tl x s 4), .int .i64 (sdY bs n g mo tl x s 5)], .int .i64 (sdE bs n g mo tl x s)]) W2)) := Lib.hid (Sound_c bs A n cap g mo tl x s W2 (HV.out.up HB2.out) (HP.out.up HB2.out) (HQ.out.up HB2.out) hn)
  go_wp2_with fail
  (with_reducible refine HS1.out.mono ?_)
  rintro e W3 ⟨rfl, hb3⟩
  have HH3 := Lib.hid (HH2.out.below hb3 HH2.out.lt)
  have HX3 := Lib.hid (HX2.out.below hb3 HX2.out.lt)
  have HB3 := Lib.hid (bl_trans HB2.out hb3)
  clear hb3 HH2 HX2 HB2 HS1 h_0 h_1 h_2 h_3 h_4 h_5 h_6 h_7 h_8 zh
  go_upto_region 3 with fail
  refine wp_letter ?_
  intro W4 hW4
  have k4 : Below W3.heap.size W3 W4 := by rw [hW4]; exact bl_alloc (bl_refl _) _
  have HP4 : Hid (Blk W4 W3.heap.size 72 (cell6 (sdY bs n g mo tl x s))) := Lib.hid (by rw [hW4]; exact Blk.new _ _ _)
  have HB4 := Lib.hid (bl_trans HB3.out k4)
  have HH4 := Lib.hid (HH3.out.below k4 HH3.out.lt)
  have HX4 := Lib.hid (HX3.out.below k4 HX3.out.lt)
  clear hW4 k4 HB3 HH3 HX3
  generalize W3.heap.size = ap at *
  have h_0 := HH4.out.cell 0
  have h_1 := HH4.out.cell 1
  have h_2 := HH4.out.cell 2
  have h_3 := HH4.out.cell 3
  have h_4 := HH4.out.cell 4
  have h_5 := HH4.out.cell 5
  have h_6 := HH4.out.cell 6
  have h_7 := HH4.out.cell 7
  have h_8 := HH4.out.cell 8
  simp only [List.getElem?_toArray, List.getElem?_cons_zero, List.getElem?_cons_succ] at h_0 h_1 h_2 h_3 h_4 h_5 h_6 h_7 h_8
  have zh := HH4.out.lt
  have HS2 : Hid (Calls Tryd.prog 27 #[.agg #[.int .i64 (bs 0), .int .i64 (bs 1), .int .i64 (bs 2), .int .i64 (bs 3), .int .i64 (bs 4), .int .i64 (bs 5), .slice A n cap, .int .i64 mo, .int .i64 tl], .agg #[.int .i64 y, .int .i64 s]] W4 (Ret (.tuple #[.agg #[.int .i64 (sdY bs n g mo tl y s 0), .int .i64 (sdY bs n g mo tl y s 1), .int .i64 (sdY bs n g mo tl y s 2), .int .i64 (sdY bs n g mo tl y s 3), .int .i64 (sdY bs n g mo tl y s 4), .int .i64 (sdY bs n g mo tl y s 5)], .int .i64 (sdE bs n g mo tl y s)]) W4)) := Lib.hid (Sound_c bs A n cap g mo tl y s W4 (HV.out.up HB4.out) (HP.out.up HB4.out) (HQ.out.up HB4.out) hn)
  go_wp2_with fail
  (with_reducible refine HS2.out.mono ?_)
  rintro e W5 ⟨rfl, hb5⟩
  have HB5 := Lib.hid (bl_trans HB4.out hb5)
  have HH5 := Lib.hid (HH4.out.below hb5 HH4.out.lt)
  have HX5 := Lib.hid (HX4.out.below hb5 HX4.out.lt)
  have HP5 := Lib.hid (HP4.out.below hb5 HP4.out.lt)
  clear hb5 HH4 HX4 HB4 HP4 HS2 h_0 h_1 h_2 h_3 h_4 h_5 h_6 h_7 h_8 zh
  go_upto_region 4 with fail
  refine wp_letter ?_
  intro W6 hW6
  have k6 : Below W5.heap.size W5 W6 := by rw [hW6]; exact bl_alloc (bl_refl _) _
  have HQ6 : Hid (Blk W6 W5.heap.size 72 (cell6 (sdY bs n g mo tl y s))) := Lib.hid (by rw [hW6]; exact Blk.new _ _ _)
  have HB6 := Lib.hid (bl_trans HB5.out k6)
  have HH6 := Lib.hid (HH5.out.below k6 HH5.out.lt)
  have HX6 := Lib.hid (HX5.out.below k6 HX5.out.lt)
  have HP6 := Lib.hid (HP5.out.below k6 HP5.out.lt)
  clear hW6 k6 HB5 HH5 HX5 HP5
  generalize W5.heap.size = aq at *
  have HSx := Lib.hid (fun h => sd_good (bs := bs) (n := n) (g := g) (mo := mo) (tl := tl) (x := x) (s := s) h)
  have HSy := Lib.hid (fun h => sd_good (bs := bs) (n := n) (g := g) (mo := mo) (tl := tl) (x := y) (s := s) h)
  have htb : ∃ tb : Bool, Hid (tb = true ↔ (sdE bs n g mo tl x s = 0 ∧ sdE bs n g mo tl y s = 0)) := ⟨decide (sdE bs n g mo tl x s = 0 ∧ sdE bs n g mo tl y s = 0), Lib.hid decide_eq_true_iff⟩
  obtain ⟨tb, HTb⟩ := htb
  generalize hex : sdE bs n g mo tl x s = ex at *
  generalize hey : sdE bs n g mo tl y s = ey at *
  clear hex hey
  go_cut [67] from 62 to 66 (fun u W => u = .bool tb ∧ W6 = W)
  case first =>
    by_cases h1 : ex = 0
    · have q1 : (ex == 0) = true := by rw [h1]; rfl
      by_cases h2 : ey = 0
      · have q2 : (ey == 0) = true := by rw [h2]; rfl
        have ht : tb = true := HTb.out.2 ⟨h1, h2⟩
        clear h1 h2 HTb HSx HSy
        subst ht
        go_wp2
        go_meet
        case rel => exact ⟨rfl, rfl⟩
      · have q2 : (ey == 0) = false := by rw [beq_eq_false_iff_ne]; exact h2
        have ht : tb = false := by
          cases tb with
          | false => rfl
          | true => exact absurd (HTb.out.1 rfl).2 h2
        clear h1 h2 HTb HSx HSy
        subst ht
        go_wp2
        go_meet
        case rel => exact ⟨rfl, rfl⟩
    · have q1 : (ex == 0) = false := by rw [beq_eq_false_iff_ne]; exact h1
      have ht : tb = false := by
        cases tb with
        | false => rfl
        | true => exact absurd (HTb.out.1 rfl).1 h1
      clear h1 HTb HSx HSy
      subst ht
      go_wp2
      go_meet
      case rel => exact ⟨rfl, rfl⟩
  case rest =>
  obtain ⟨rfl, rfl⟩ := hcut
  go_upto_if 67 with fail
  go_cut [] from 68 to 140 (fun W => Hid (Below W6.heap.size W6 W))
  case first =>
    cases tb
    · clear HTb HSx HSy
      go_wp2
      go_meet
      case rel => exact Lib.hid (bl_refl _)
    · obtain ⟨h1, h2⟩ := HTb.out.1 rfl
      obtain ⟨X, S, hx, hs, hX1, hX, hpX, hcX⟩ := HSx.out h1
      obtain ⟨Y, S', hy, hs', hY1, hY, hpY, hcY⟩ := HSy.out h2
      have hSS : S' = S := by omega
      rw [hSS] at hpY hcY
      have hA := HP6.out
      have hB := HQ6.out
      rw [hcX] at hA
      rw [hcY] at hB
      have HX0 := Lib.hid hx
      have HY0 := Lib.hid hy
      have HS0 := Lib.hid hs
      refine quo_p bs g n X Y S ap aq x y HX0.out HY0.out _ _ _ _ _ _ _ _ _ _ _ _ _ _ _ _ _ _ _ _ _ _ _ _ _ _ _ _ _ _ _ _ _ _ _ _ _ _ _ _ _ _ _ _ _ _ _ _ _ _ _ _ _ _ _ _ _ _ _ _ _ _ _ _ _ _ _ _ _ _ _ _ _ _ _ _ _ _ _ _ _ _ _ _ _ _ _ _ _ _ _ _ _ _ _ _ _ _ _ _ _ _ _ _ _ _ _ _ _ _ _ _ _ _ _ _ _ _ _ _ _ _ _ _ _ _ _ _ _ _ _ _ _ _ _ _ _ _ _ _ _ _ _ _ _ _ _ _ _ _ _ _ _ _ _ _ _ _ _ _ _ _ _ _ _ _ _ _ _ _ _ _ _ _ _ _ _ _ _ _ _ _ _ _ _ _ _ _ _ _ _ _ _ _ _ _ _ _ _ _ _ _ _ _ _ _ _ _ _ _ _ _ _ _ _ _ _ _ _ _ _ _ _ _ _ _ _ _ _ _ _ _ _ _ W6 (HP.out.up HB6.out) hX1 hX hY1 hY hpX hpY hA hB (fun _ _ _ _ _ _ _ _ _ _ _ _ _ _ _ _ _ _ _ _ _ _ _ _ _ _ _ _ _ _ _ _ _ _ _ _ _ _ _ _ _ _ _ _ _ _ _ _ _ _ _ _ _ _ _ _ _ _ _ _ _ _ _ _ _ _ _ _ _ _ _ _ _ _ _ _ _ _ _ _ _ _ _ _ _ _ W' hb => ?_) (fun _ _ h => h)
      have HBq := Lib.hid hb
      clear hb hA hB hcX hcY hpX hpY HTb HSx HSy h1 h2
      clear hx hy hs hs' hSS HX0 HY0 HS0
      go_wp2
      go_meet
      case rel => exact HBq
  case rest =>
  have HK := hcut
  clear hcut HTb HSx HSy

  have HB7 := Lib.hid (bl_trans HB6.out HK.out)
  have HH7 := Lib.hid (HH6.out.below HK.out HH6.out.lt)
  have HX7 := Lib.hid (HX6.out.below HK.out HX6.out.lt)
  obtain ⟨W7, hW7⟩ : ∃ x : World, x = wc := ⟨_, rfl⟩
  rw [← hW7] at HB7 HH7 HX7 ⊢
  clear hW7 HK HB6 HH6 HX6 HP6 HQ6
  have x_0 := HX7.out.cell 0
  have x_1 := HX7.out.cell 1
  have x_2 := HX7.out.cell 2
  have x_3 := HX7.out.cell 3
  have x_4 := HX7.out.cell 4
  have x_5 := HX7.out.cell 5
  simp only [List.getElem?_toArray, List.getElem?_cons_zero, List.getElem?_cons_succ] at x_0 x_1 x_2 x_3 x_4 x_5
  have zx := HX7.out.lt
  go_wp2_with fail
  (with_reducible refine (POf6 v _).mono ?_)
  rintro e W8 ⟨rfl, hb8⟩
  have HB8 := Lib.hid (bl_trans HB7.out hb8)
  have HH8 := Lib.hid (HH7.out.below hb8 HH7.out.lt)
  have HX8 := Lib.hid (HX7.out.below hb8 HX7.out.lt)
  clear hb8 HB7 HH7 HX7 x_0 x_1 x_2 x_3 x_4 x_5 zx
  go_upto_region 14 with fail
  refine wp_letter ?_
  intro W9 hW9
  have k9 : Below W8.heap.size W8 W9 := by rw [hW9]; exact bl_alloc (bl_refl _) _
  have HA9 : Hid (Blk W9 W8.heap.size 72 (cell6 (ofF6 v))) := Lib.hid (by rw [hW9]; exact Blk.new _ _ _)
  have HB9 := Lib.hid (bl_trans HB8.out k9)
  have HH9 := Lib.hid (HH8.out.below k9 HH8.out.lt)
  have HX9 := Lib.hid (HX8.out.below k9 HX8.out.lt)
  clear hW9 k9 HB8 HH8 HX8
  generalize W8.heap.size = tp at *
  have h_0 := HH9.out.cell 0
  have h_1 := HH9.out.cell 1
  have h_2 := HH9.out.cell 2
  have h_3 := HH9.out.cell 3
  have h_4 := HH9.out.cell 4
  have h_5 := HH9.out.cell 5
  have h_6 := HH9.out.cell 6
  have h_7 := HH9.out.cell 7
  have h_8 := HH9.out.cell 8
  simp only [List.getElem?_toArray, List.getElem?_cons_zero, List.getElem?_cons_succ] at h_0 h_1 h_2 h_3 h_4 h_5 h_6 h_7 h_8
  have zh := HH9.out.lt
  have x_0 := HX9.out.cell 0
  have x_1 := HX9.out.cell 1
  have x_2 := HX9.out.cell 2
  have x_3 := HX9.out.cell 3
  have x_4 := HX9.out.cell 4
  have x_5 := HX9.out.cell 5
  simp only [List.getElem?_toArray, List.getElem?_cons_zero, List.getElem?_cons_succ] at x_0 x_1 x_2 x_3 x_4 x_5
  have zx := HX9.out.lt
  have HFi := Lib.hid (Find_q bs A n cap g mo tl v W9 (HV.out.up HB9.out) (HP.out.up HB9.out) (HQ.out.up HB9.out) (HL.out.up HB9.out) hn)
  go_wp2_with fail
  (with_reducible refine HFi.out.mono ?_)
  rintro e Wa ⟨hba, A2, N, c2, fe, rfl, hfe⟩
  have HBa := Lib.hid (bl_trans HB9.out hba)
  have HHa := Lib.hid (HH9.out.below hba HH9.out.lt)
  have HXa := Lib.hid (HX9.out.below hba HX9.out.lt)
  have HAa := Lib.hid (HA9.out.below hba HA9.out.lt)
  have HFe := Lib.hid hfe
  clear hba hfe HFi HB9 HH9 HX9 HA9 h_0 h_1 h_2 h_3 h_4 h_5 h_6 h_7 h_8 zh x_0 x_1 x_2 x_3 x_4 x_5 zx
  have h_0 := HHa.out.cell 0
  have h_1 := HHa.out.cell 1
  have h_2 := HHa.out.cell 2
  have h_3 := HHa.out.cell 3
  have h_4 := HHa.out.cell 4
  have h_5 := HHa.out.cell 5
  have h_6 := HHa.out.cell 6
  have h_7 := HHa.out.cell 7
  have h_8 := HHa.out.cell 8
  simp only [List.getElem?_toArray, List.getElem?_cons_zero, List.getElem?_cons_succ] at h_0 h_1 h_2 h_3 h_4 h_5 h_6 h_7 h_8
  have zh := HHa.out.lt
  have x_0 := HXa.out.cell 0
  have x_1 := HXa.out.cell 1
  have x_2 := HXa.out.cell 2
  have x_3 := HXa.out.cell 3
  have x_4 := HXa.out.cell 4
  have x_5 := HXa.out.cell 5
  simp only [List.getElem?_toArray, List.getElem?_cons_zero, List.getElem?_cons_succ] at x_0 x_1 x_2 x_3 x_4 x_5
  have zx := HXa.out.lt
  have HBe := Best_c bs A n cap g mo tl v Wa (HV.out.up HBa.out) (HP.out.up HBa.out) (HQ.out.up HBa.out) (HL.out.up HBa.out) hn
  unfold bsV at HBe
  have HLw : Hid (fdG bs n g mo tl v = true → bsE bs n g mo tl v = 0 → ∃ b, bsX n (bsB bs n g mo tl v) = (blwX n b : Int) ∧ bsS n (bsB bs n g mo tl v) = (blwS n b : Int) ∧ b ∈ fdL bs n g tl (at12 v) (mo.toNat * 2 ^ n) ∧ ∀ m ∈ fdL bs n g tl (at12 v) (mo.toNat * 2 ^ n), farA (gpL (at12 v) (sndF bs g n b)) (gpH (at12 v) (sndF bs g n b)) ≤ farB (gpL (at12 v) (sndF bs g n m)) (gpH (at12 v) (sndF bs g n m))) := Lib.hid (fun h1 h2 => by
    obtain ⟨b, e, h3, h4⟩ := bs_law h1 h2
    rw [e]
    exact ⟨b, rfl, rfl, h3, h4⟩)
  generalize bsE bs n g mo tl v = ge at *
  generalize bsX n (bsB bs n g mo tl v) = bx at *
  generalize bsS n (bsB bs n g mo tl v) = bz at *
  have HBE := Lib.hid HBe
  clear HBe
  go_wp2_with fail
  (with_reducible refine HBE.out.mono ?_)
  rintro e Wb ⟨rfl, hbb⟩
  have HBb := Lib.hid (bl_trans HBa.out hbb)
  have HHb := Lib.hid (HHa.out.below hbb HHa.out.lt)
  have HAb := Lib.hid (HAa.out.below hbb HAa.out.lt)
  have HFb : Hid (fe = 0 → fdG bs n g mo tl v = true ∧ N = (fdL bs n g tl (at12 v) (mo.toNat * 2 ^ n)).length ∧ BlwsR Wb Wb.heap.size A2 n (fdL bs n g tl (at12 v) (mo.toNat * 2 ^ n))) := Lib.hid (fun h => ⟨(HFe.out h).1, (HFe.out h).2.1, (HFe.out h).2.2.up hbb⟩)
  clear hbb HBE HBa HHa HAa HXa HFe h_0 h_1 h_2 h_3 h_4 h_5 h_6 h_7 h_8 zh x_0 x_1 x_2 x_3 x_4 x_5 zx
  go_upto_region 16 with fail
  refine wp_letter ?_
  intro Wc hWc
  have kc : Below Wb.heap.size Wb Wc := by rw [hWc]; exact bl_alloc (bl_refl _) _
  have HRc : Hid (Blk Wc Wb.heap.size 79 #[.int .i64 bx, .int .i64 bz]) := Lib.hid (by rw [hWc]; exact Blk.new _ _ _)
  have HBc := Lib.hid (bl_trans HBb.out kc)
  have HHc := Lib.hid (HHb.out.below kc HHb.out.lt)
  have HAc := Lib.hid (HAb.out.below kc HAb.out.lt)
  have HFc : Hid (fe = 0 → fdG bs n g mo tl v = true ∧ N = (fdL bs n g tl (at12 v) (mo.toNat * 2 ^ n)).length ∧ BlwsR Wc Wc.heap.size A2 n (fdL bs n g tl (at12 v) (mo.toNat * 2 ^ n))) := Lib.hid (fun h => ⟨(HFb.out h).1, (HFb.out h).2.1, (HFb.out h).2.2.up kc⟩)
  clear hWc kc HBb HHb HAb HFb
  generalize Wb.heap.size = rp at *
  by_cases hf0 : fe = 0
  case neg =>
    have q2 : (fe != 0) = true := by simpa using hf0
    by_cases he0 : ofE6 v = 0
    · have q1 : (ofE6 v != 0) = false := by rw [he0]; rfl
      clear hf0 he0
      go_wp2
      go_ret
      exact ⟨rfl, HBc.out⟩
    · have q1 : (ofE6 v != 0) = true := by simpa using he0
      clear hf0 he0
      go_wp2
      go_ret
      exact ⟨rfl, HBc.out⟩
  case pos =>
  obtain ⟨hG, hN, hR⟩ := HFc.out hf0
  obtain ⟨hpv, hval⟩ : pV6 v 48 = true ∧ hvV (bs 0) (bs 1) (bs 2) (bs 3) (bs 4) (bs 5) n g mo tl = true := by
    have h := hG
    unfold fdG at h
    simpa using h
  obtain ⟨_, hn4, hm1, hm2, ht1, ht2⟩ := hvG_of (hv_valve hval).1
  obtain ⟨M, rfl⟩ : ∃ M : Nat, mo = (M : Int) := ⟨mo.toNat, by omega⟩
  rw [Int.toNat_natCast] at hN hR
  have hoe : ofE6 v = 0 := by unfold ofE6; rw [hpv, if_pos rfl]
  have hof : cell6 (ofF6 v) = cell6 (at12 v) := cell6_ext fun i _ => by unfold ofF6; rw [hpv, if_pos rfl]
  have q1 : (ofE6 v != 0) = false := by rw [hoe]; rfl
  have q2 : (fe != 0) = false := by rw [hf0]; rfl
  have hll := fdL_len bs n g tl (at12 v) (M * 2 ^ n)
  have h256 : M * 2 ^ n ≤ 16 * 16 := Nat.mul_le_mul (by omega) (two_le hn4)
  rw [← hN] at hll
  have HLw2 := Lib.hid (HLw.out hG)
  rw [Int.toNat_natCast] at HLw2
  have HMem : Hid (∀ m, m ∈ fdL bs n g tl (at12 v) (M * 2 ^ n) → m < M * 2 ^ n ∧ pV6 (sndF bs g n m) 576 = true ∧ farB (gpL (at12 v) (sndF bs g n m)) (gpH (at12 v) (sndF bs g n m)) ≤ tl * 10000) := Lib.hid (fun m hm => ⟨(fdL_mem hm).1, (fd_ok (fdL_mem hm).2).2⟩)
  have hfz : ∃ fz : Int, Hid ((ge = 0 → ∃ b, bx = (blwX n b : Int) ∧ bz = (blwS n b : Int) ∧ b ∈ fdL bs n g tl (at12 v) (M * 2 ^ n) ∧ fz = farA (gpL (at12 v) (sndF bs g n b)) (gpH (at12 v) (sndF bs g n b))) ∧ (ge ≠ 0 → fz = 0) ∧ (ge = 0 → ∀ m ∈ fdL bs n g tl (at12 v) (M * 2 ^ n), fz ≤ farB (gpL (at12 v) (sndF bs g n m)) (gpH (at12 v) (sndF bs g n m)))) := by
    by_cases h : ge = 0
    · obtain ⟨b, h1, h2, h3, h4⟩ := HLw2.out h
      exact ⟨_, Lib.hid ⟨fun _ => ⟨b, h1, h2, h3, rfl⟩, fun h' => absurd h h', fun _ => h4⟩⟩
    · exact ⟨0, Lib.hid ⟨fun h' => absurd h' h, fun _ => rfl, fun h' => absurd h' h⟩⟩
  obtain ⟨fz, HFz⟩ := hfz
  have HR := Lib.hid hR
  have HNl := Lib.hid hN
  have HVal := Lib.hid hval
  have HPa := Lib.hid (at_pV hpv)
  have HAd : Hid (Blk Wc tp 72 (cell6 (at12 v))) := Lib.hid (by rw [← hof]; exact HAc.out)
  clear hf0 hG hN hR hpv hval hoe hof HLw HLw2 HFc HAc
  generalize ofE6 v = oe at *
  go_upto_if 166 with fail
  go_cut [33] from 165 to 189 (fun u W => u = .int .i64 fz ∧ Hid (Below Wc.heap.size Wc W))
  case first =>
    by_cases hge : ge = 0
    · obtain ⟨b, hbx, hbz, hbm, hfb⟩ := HFz.out.1 hge
      obtain ⟨hm1', hm2', _⟩ := HMem.out b hbm
      have hB := HRc.out
      have hge2 : (ge == 0) = true := by rw [hge]; rfl
      rw [hbx, hbz] at hB
      rw [hge2]
      refine best_p bs A n cap g M tl (at12 v) b w.heap.size tp rp _ _ _ _ _ _ _ _ _ _ _ _ _ _ _ _ _ _ _ _ _ _ _ _ _ _ _ _ _ _ _ _ _ _ _ _ _ _ _ _ _ _ _ _ _ _ _ _ _ _ _ _ _ _ _ _ _ _ _ _ _ _ _ _ _ _ _ _ _ _ _ _ _ _ _ _ _ _ _ _ _ _ _ _ _ _ _ _ _ _ _ _ _ _ _ _ _ _ _ _ _ _ _ _ _ _ _ _ _ _ _ _ _ _ _ _ _ _ _ _ _ _ _ _ _ _ _ _ _ _ _ _ _ _ _ _ _ _ _ _ _ _ _ _ _ _ _ _ _ _ _ _ _ _ _ _ _ _ _ _ _ _ _ _ _ _ _ _ _ _ _ _ _ _ _ _ _ _ _ _ _ _ _ _ _ _ _ _ _ _ _ _ _ _ _ _ _ _ _ _ _ _ _ _ _ _ _ _ _ _ _ _ _ _ _ _ _ _ _ _ _ _ _ _ _ _ _ _ _ _ _ _ _ _ _ Wc (HP.out.up HBc.out) (HQ.out.up HBc.out) (HL.out.up HBc.out) (HV.out.up HBc.out) hn HVal.out hm1' hm2' HPa.out HHc.out HAd.out hB (fun _ _ _ _ _ _ _ _ _ _ _ _ _ _ _ _ _ _ _ _ _ _ _ _ _ _ _ W' hb => ?_) (fun _ _ h => h)
      rw [← hfb]
      have HBq := Lib.hid hb
      clear hb hB hfb hbx hbz hbm hm1' hm2' hge hge2 HFz HMem
      go_wp2
      go_meet
      case rel => exact ⟨rfl, HBq⟩
    · have q3 : (ge == 0) = false := by rw [beq_eq_false_iff_ne]; exact hge
      have h0 := HFz.out.2.1 hge
      subst h0
      clear hge HFz HMem
      go_wp2
      go_meet
      case rel => exact ⟨rfl, Lib.hid (bl_refl _)⟩
  case rest =>
  obtain ⟨rfl, HKd⟩ := hcut
  have HBd := Lib.hid (bl_trans HBc.out HKd.out)
  have HHd := Lib.hid (HHc.out.below HKd.out HHc.out.lt)
  have HAe := Lib.hid (HAd.out.below HKd.out HAd.out.lt)
  have HRd := Lib.hid (HR.out.up HKd.out)
  obtain ⟨Wd, hWd⟩ : ∃ x : World, x = wc := ⟨_, rfl⟩
  rw [← hWd] at HBd HHd HAe HRd ⊢
  clear hWd HKd HBc HHc HAd HR HRc q1 q2
  go_wp2
  go_loopw [38] (fun i wr => ∃ j : Nat, j ≤ N ∧ i = .int .i64 (j : Int) ∧ Hid (Below Wd.heap.size Wd wr)) (fun i _ => N - (intOf i).toNat)
  case atStart => exact ⟨0, Nat.zero_le _, rfl, Lib.hid (bl_refl _)⟩
  case round =>
    obtain ⟨j, hj, rfl, HBw⟩ := hrel
    by_cases hlt : j < N
    · have hji : (j : Int) < (N : Int) := by omega
      have wj : IntKind.i64.wrap ((j : Int) + 1) = (j : Int) + 1 := by rw [IntKind.wrap_i64]; omega
      obtain ⟨lb, lo, rfl, hlb, hcl⟩ := HRd.out (by rw [← HNl.out]; omega)
      obtain ⟨c1, c2'⟩ := hcl j (by rw [← HNl.out]; exact hlt)
      have hmem : (fdL bs n g tl (at12 v) (M * 2 ^ n)).getD j 0 ∈ fdL bs n g tl (at12 v) (M * 2 ^ n) := by
        rw [List.getD_eq_getElem?_getD, List.getElem?_eq_getElem (by rw [← HNl.out]; exact hlt)]
        exact List.getElem_mem _
      have hkm := HFz.out.2.2
      generalize (fdL bs n g tl (at12 v) (M * 2 ^ n)).getD j 0 = m at *
      obtain ⟨hm1', hm2', hm3'⟩ := HMem.out m hmem
      have HT := Lib.hid (And.intro hm1' (And.intro hm2' (And.intro hm3' (fun h => hkm h m hmem))))
      have HC1 := Lib.hid ((HBw.out.cell (p := ⟨lb, lo + j * 2, none⟩) hlb).trans c1)
      have HC2 := Lib.hid ((HBw.out.cell (p := ⟨lb, lo + j * 2 + 1, none⟩) hlb).trans c2')
      have HBx := Lib.hid (bl_trans HBd.out HBw.out)
      have hlz : lb < wr.heap.size := by have := HBw.out.size; omega
      clear hmem hkm hm1' hm2' hm3' c1 c2' hcl
      go_upto_block 1 with fail
      refine list_p bs A n cap g M tl (at12 v) m w.heap.size tp lb lo N c2 j ge fz _ _ _ _ _ _ _ _ _ _ _ _ _ _ _ _ _ _ _ _ _ _ _ _ _ _ _ _ _ _ _ _ _ _ _ _ _ _ _ _ _ _ _ _ _ _ _ _ _ _ _ _ _ _ _ _ _ _ _ _ _ _ _ _ _ _ _ _ _ _ _ _ _ _ _ _ _ _ _ _ _ _ _ _ _ _ _ _ _ _ _ _ _ _ _ _ _ _ _ _ _ _ _ _ _ _ _ _ _ _ _ _ _ _ _ _ _ _ _ _ _ _ _ _ _ _ _ _ _ _ _ _ _ _ _ _ _ _ _ _ _ _ _ _ _ _ _ _ _ _ _ _ _ _ _ _ _ _ _ _ _ _ _ _ _ _ _ _ _ _ _ _ _ _ _ _ _ _ _ _ _ _ _ _ _ _ _ _ _ _ _ _ _ _ _ _ _ _ _ _ _ _ _ _ _ _ _ _ _ _ _ _ _ _ _ _ _ _ _ _ _ _ _ _ _ _ _ _ _ _ _ _ _ wr (HP.out.up HBx.out) (HQ.out.up HBx.out) (HL.out.up HBx.out) (HV.out.up HBx.out) hn HVal.out HT.out.1 HT.out.2.1 HPa.out (HHd.out.below HBw.out HHd.out.lt) (HAe.out.below HBw.out HAe.out.lt) hlt (by omega) hlz HC1.out HC2.out ht1 ht2 HT.out.2.2.1 HT.out.2.2.2 (by repeat (first | (with_reducible refine panic_then ?_) | (with_reducible refine panic_block ?_) | (with_reducible exact panic_body) | exact panic_body | refine panic_then ?_ | refine panic_block ?_)) (fun _ _ _ _ _ _ _ _ _ _ _ _ _ _ _ _ _ _ _ _ _ _ _ _ _ _ _ _ _ _ _ _ _ _ _ _ _ _ _ _ _ _ _ _ _ _ _ _ W' hb => ?_) (fun _ _ h => h)
      have HBq := Lib.hid (bl_trans HBw.out hb)
      clear hb HC1 HC2 HT HBx hlz hlb
      go_wp2
      go_roundw
      case rel => exact ⟨j + 1, by omega, by go_num, HBq⟩
      case measure => simp [intOf]; omega
    · obtain rfl : j = N := by omega
      go_wp2
      go_ret
      exact ⟨rfl, bl_trans HBd.out HBw.out⟩
end Go.Proofs.YtehifkdfbiebfaaDoor
