/- Horns: the sound of a blow. -/
import Derived.Test.YtehifkdfbiebfaaDoorK26
import Derived.Test.YtehifkdfbiebfaaDoorK29
import Derived.RegionTactic
import Derived.ChangeAlike
namespace Go.Proofs.YtehifkdfbiebfaaDoor
open Go Go.RowKit

/-- The primes of package brass lie. -/
def BP (w : World) : Prop := 1 < w.heap.size ∧ ∀ i, i < 6 → w.cell? ⟨1, i, none⟩ = some (.int .i64 (prm i : Int))
theorem BP.up {w w' : World} (h : BP w) (hb : Below w.heap.size w w') : BP w' :=
  ⟨Nat.lt_of_lt_of_le h.1 hb.size, fun i hi => (hb.cell (p := ⟨1, i, none⟩) h.1).trans (h.2 i hi)⟩
/-- By how much the first k valves that are pressed lower. -/
def vsF (g : Nat → Nat → Int) (s : Nat) (i : Nat) : Nat → Int
  | 0 => 0
  | k + 1 => vsF g s i k + if s / 2 ^ k % 2 = 1 then g k i else 0
/-- The exponents of a sound. -/
def sdF (bs : Nat → Int) (g : Nat → Nat → Int) (n x s i : Nat) : Int := bs i + 12 * (val (prm i) (chN x i) : Int) - vsF g s i n
def sdU (bs : Nat → Int) (g : Nat → Nat → Int) (n x s k i : Nat) : Int := if i < k then sdF bs g n x s i else bs i
theorem br_letter {K : Exit → Act → World → Prop} {e : Exit} {a : Act} {w : World} (h : ∀ W, W = w → K e a W) : K e a w := h w rfl
theorem vs_bd {g : Nat → Nat → Int} {s i n : Nat} (hg : ∀ k, k < n → -576 ≤ g k i ∧ g k i ≤ 576) : ∀ k, k ≤ n → -((k : Int) * 576) ≤ vsF g s i k ∧ vsF g s i k ≤ (k : Int) * 576
  | 0, _ => by simp [vsF]
  | k + 1, h => by
    have h1 := vs_bd (s := s) hg k (by omega)
    have h2 := hg k (by omega)
    unfold vsF
    split <;> omega
theorem val16 {x p : Nat} (hp : 2 ≤ p) (h1 : 1 ≤ x) (hx : x ≤ 16) : val p x ≤ 16 := by
  have := val_bd (val_spec hp h1).1 hp (by
    rcases Nat.eq_zero_or_pos (cof p x) with g | g
    · have := (val_spec hp h1).2
      rw [g] at this
      simp at this
    · exact g)
  omega
set_option maxRecDepth 100000 in
set_option maxHeartbeats 8000000 in
theorem sound_c (bs : Nat → Int) (A : Option Addr) (n cap : Nat) (g : Nat → Nat → Int) (mo tl : Int) (x s : Nat) (w : World) (hv : VecsR w w.heap.size A n g) (hP : BP w) (hn : n ≤ 4) (hx1 : 1 ≤ x) (hx : x ≤ 16) (hs : s ≤ 15)
    (hb : ∀ i, i < 6 → -576 ≤ bs i ∧ bs i ≤ 576) (hg : ∀ k, k < n → ∀ i, i < 6 → -576 ≤ g k i ∧ g k i ≤ 576) :
    Calls Tryd.prog 79 #[.agg #[.int .i64 (bs 0), .int .i64 (bs 1), .int .i64 (bs 2), .int .i64 (bs 3), .int .i64 (bs 4), .int .i64 (bs 5), .slice A n cap, .int .i64 mo, .int .i64 tl], .agg #[.int .i64 (x : Int), .int .i64 (s : Int)]] w (Ret (.agg (cell6 (sdF bs g n x s))) w) := by
  have HV := Lib.hid hv
  have HP := Lib.hid hP
  have HB := Lib.hid hb
  have HG := Lib.hid hg
  have HX := Lib.hid (fun i h w => idx_prm i h w)
  clear hv hP hb hg
  go_enter Tryd.func79, Tryd.ntmps79
  go_upto_region 1 with fail
  refine wp_letter ?_
  intro W1 hW1
  have B1 : Below w.heap.size w W1 := by rw [hW1]; (repeat (first | (with_reducible exact bl_refl _) | (with_reducible refine bl_drew ?_) | (with_reducible refine bl_alloc ?_ _) | (with_reducible refine bl_set' ?_ ?_; · (first | omega | (simp; done) | (simp; omega))) | (with_reducible refine bl_last (by assumption) ?_) | (with_reducible refine bl_drewN ?_ _)))
  have H1 : Blk W1 w.heap.size 75 #[.int .i64 (bs 0), .int .i64 (bs 1), .int .i64 (bs 2), .int .i64 (bs 3), .int .i64 (bs 4), .int .i64 (bs 5), .slice A n cap, .int .i64 mo, .int .i64 tl] := by rw [hW1]; exact ((Blk.new _ _ _).alloc _).alloc _
  have L1 : Blk W1 (w.heap.size + 1) 79 #[.int .i64 (x : Int), .int .i64 (s : Int)] := by rw [hW1]; exact (blkAt _ _ _ _ (by simp)).alloc _
  have Z1 : Blk W1 (w.heap.size + 1 + 1) 72 #[.int .i64 0, .int .i64 0, .int .i64 0, .int .i64 0, .int .i64 0, .int .i64 0] := by rw [hW1]; exact blkAt _ _ _ _ (by simp)
  have HB1 := Lib.hid B1
  have HL1 := Lib.hid L1
  have HZ1 := Lib.hid Z1
  have HH1 := Lib.hid H1
  have g0 := H1.cell 0
  have g1 := H1.cell 1
  have g2 := H1.cell 2
  have g3 := H1.cell 3
  have g4 := H1.cell 4
  have g5 := H1.cell 5
  have g6 := H1.cell 6
  have g7 := L1.cell 0
  have zh := H1.lt
  have zl := L1.lt
  simp only [List.getElem?_toArray, List.getElem?_cons_zero, List.getElem?_cons_succ] at g0 g1 g2 g3 g4 g5 g6 g7
  clear hW1 B1 H1 L1 Z1
  go_region
  refine br_letter ?_
  intro W2 hW2
  have b2 : Below W1.heap.size W1 W2 := by rw [hW2]; (repeat (first | (with_reducible exact bl_refl _) | (with_reducible refine bl_drew ?_) | (with_reducible refine bl_alloc ?_ _) | (with_reducible refine bl_set' ?_ ?_; · (first | omega | (simp; done) | (simp; omega))) | (with_reducible refine bl_last (by assumption) ?_) | (with_reducible refine bl_drewN ?_ _)))
  have HB2 := Lib.hid (bl_trans HB1.out b2)
  have HH2 := Lib.hid (HH1.out.below b2 HH1.out.lt)
  have HL2 := Lib.hid (HL1.out.below b2 HL1.out.lt)
  have HZ2 := Lib.hid (HZ1.out.below b2 HZ1.out.lt)
  have HQ2 : Hid (Blk W2 W1.heap.size 72 (cell6 (sdU bs g n x s 0))) := Lib.hid (by
    rw [hW2, show cell6 (sdU bs g n x s 0) = #[.int .i64 (bs 0), .int .i64 (bs 1), .int .i64 (bs 2), .int .i64 (bs 3), .int .i64 (bs 4), .int .i64 (bs 5)] from rfl]
    exact (Blk.new _ _ _).below (bl_drew (bl_refl _)) (Blk.new _ _ _).lt)
  have hlt1 : w.heap.size + 1 + 1 < W1.heap.size := HZ1.out.lt
  have hPr := HP.out.up HB2.out
  have c0 : W2.cell? ⟨1, 0, none⟩ = some (.int .i64 2) := hPr.2 0 (by omega)
  have c1 : W2.cell? ⟨1, 1, none⟩ = some (.int .i64 3) := hPr.2 1 (by omega)
  have c2 : W2.cell? ⟨1, 2, none⟩ = some (.int .i64 5) := hPr.2 2 (by omega)
  have c3 : W2.cell? ⟨1, 3, none⟩ = some (.int .i64 7) := hPr.2 3 (by omega)
  have c4 : W2.cell? ⟨1, 4, none⟩ = some (.int .i64 11) := hPr.2 4 (by omega)
  have c5 : W2.cell? ⟨1, 5, none⟩ = some (.int .i64 13) := hPr.2 5 (by omega)
  have z0 := hPr.1
  clear hPr hW2 b2 g0 g1 g2 g3 g4 g5 g6 g7 zh zl
  generalize W1.heap.size = pb at *
  go_wp2
  clear c0 c1 c2 c3 c4 c5 z0
  go_loopw [6, 16] (fun y i wr => ∃ k : Nat, k ≤ 6 ∧ i = .int .i64 (k : Int) ∧ y = .int .i64 (chN x k : Int) ∧ Hid (Below w.heap.size w wr) ∧ Hid (Blk wr w.heap.size 75 #[.int .i64 (bs 0), .int .i64 (bs 1), .int .i64 (bs 2), .int .i64 (bs 3), .int .i64 (bs 4), .int .i64 (bs 5), .slice A n cap, .int .i64 mo, .int .i64 tl]) ∧ Hid (Blk wr (w.heap.size + 1) 79 #[.int .i64 (x : Int), .int .i64 (s : Int)]) ∧ Hid (Blk wr (w.heap.size + 1 + 1) 72 #[.int .i64 0, .int .i64 0, .int .i64 0, .int .i64 0, .int .i64 0, .int .i64 0]) ∧ Hid (Blk wr pb 72 (cell6 (sdU bs g n x s k)))) (fun _ i _ => 6 - (intOf i).toNat)
  case atStart => exact ⟨0, by omega, rfl, rfl, HB2, HH2, HL2, HZ2, HQ2⟩
  case round =>
    obtain ⟨k, hk, rfl, rfl, HBr, HHr, HLr, HZr, HQr⟩ := hrel
    clear HB2 HH2 HL2 HZ2 HQ2 HB1 HH1 HL1 HZ1
    by_cases hlt : k < 6
    · have hxx := fun w => HX.out k hlt w
      obtain ⟨p1, p2⟩ := prm_pos hlt
      obtain ⟨q1, q2⟩ := chN_pos hx1 k hk
      have hbk := HB.out k hlt
      have e8 : IntKind.i64.wrap ((k : Int) + 1) = ((k + 1 : Nat) : Int) := by rw [IntKind.wrap_i64]; omega
      have HF := Lib.hid (⟨p1, fun j m c x (h : m = c * prm k ^ j) hc => val_of (p := prm k) p1 h hc⟩ : 2 ≤ prm k ∧ ∀ (j m c x : Nat), m = c * prm k ^ j → c % prm k ≠ 0 → val (prm k) m = j ∧ cof (prm k) m = c)
      have hv16 := val16 p1 q1 (by omega : chN x k ≤ 16)
      have HS : Hid (chN x (k + 1) = cof (prm k) (chN x k) ∧ sdF bs g n x s k = bs k + 12 * (val (prm k) (chN x k) : Int) - vsF g s k n) := Lib.hid ⟨rfl, rfl⟩
      have HP2 : Hid (∀ c : Nat, 1 ≤ c → c % prm k = 0 → (c / prm k) * prm k = c ∧ 1 ≤ c / prm k ∧ c / prm k < c) := Lib.hid (fun c h1 h2 => by
        have e := Nat.div_mul_cancel (Nat.dvd_of_mod_eq_zero h2)
        refine ⟨e, ?_, Nat.div_lt_self (by omega) p1⟩
        rcases Nat.eq_zero_or_pos (c / prm k) with g | g
        · rw [g] at e; omega
        · exact g)
      have HUn : Hid (upd6 (sdU bs g n x s k) k (sdF bs g n x s k) = sdU bs g n x s (k + 1)) := Lib.hid (by
        funext i
        unfold upd6 sdU
        split
        · rename_i e
          subst e
          rw [if_pos (by omega)]
        · by_cases h : i < k
          · rw [if_pos h, if_pos (by omega)]
          · rw [if_neg h, if_neg (by omega)])
      have hU0 : upd6 (sdU bs g n x s k) k (bs k) = sdU bs g n x s k := upd6_same (by unfold sdU; rw [if_neg (by omega)])
      have HU0 := Lib.hid hU0
      have HVb := Lib.hid (vs_bd (s := s) (fun m hm => HG.out m hm k hlt))
      clear hU0
      generalize hU : sdU bs g n x s k = U at *
      generalize sdF bs g n x s k = SF at *
      clear hU
      generalize hN : chN x k = N at *
      have HNk : Hid (chN x k = N) := Lib.hid hN
      clear hN
      generalize hp : prm k = p at *
      clear hp
      generalize bs k = e at *
      have hsz := HQr.out.lt
      have hq0 : (p : Int) ≠ 0 := by omega
      have HP3 : Hid (2 ≤ p) := Lib.hid p1
      have hki : (k : Int) < 6 := by omega
      go_wp2
      go_loopw [6] (fun y wr2 => ∃ c j : Nat, y = .int .i64 (c : Int) ∧ Hid (N = c * p ^ j) ∧ 1 ≤ c ∧ c ≤ 16 ∧ Hid (Below w.heap.size w wr2) ∧ Hid (Blk wr2 w.heap.size 75 #[.int .i64 (bs 0), .int .i64 (bs 1), .int .i64 (bs 2), .int .i64 (bs 3), .int .i64 (bs 4), .int .i64 (bs 5), .slice A n cap, .int .i64 mo, .int .i64 tl]) ∧ Hid (Blk wr2 (w.heap.size + 1) 79 #[.int .i64 (x : Int), .int .i64 (s : Int)]) ∧ Hid (Blk wr2 (w.heap.size + 1 + 1) 72 #[.int .i64 0, .int .i64 0, .int .i64 0, .int .i64 0, .int .i64 0, .int .i64 0]) ∧ Hid (Blk wr2 pb 72 (cell6 (upd6 U k (e + 12 * (j : Int)))))) (fun y _ => (intOf y).toNat)
      case atStart => exact ⟨N, 0, rfl, Lib.hid (by simp), q1, by omega, HBr, HHr, HLr, HZr, Lib.hid (by rw [show e + 12 * ((0 : Nat) : Int) = e by omega, HU0.out]; exact HQr.out)⟩
      case round =>
        clear HBr HHr HLr HZr HQr hsz
        obtain ⟨c, j, rfl, HE, hc1, hc2, HBr, HHr, HLr, HZr, HQr⟩ := hrel
        have hj := val_bd HE.out HP3.out hc1
        have hN16 : N ≤ 16 := by omega
        have hsz := HQr.out.lt
        have cV := (HQr.out.cell k).trans (cell6_get _ hlt)
        rw [upd6_at] at cV
        have fV := HQr.out.frozen k
        have ht := tm_nat c p
        have hd' := td_nat c p
        by_cases hm : c % p = 0
        · obtain ⟨g1, g2, g3⟩ := HP2.out c hc1 hm
          have hst := Lib.hid (pow_step HE.out hm)
          rw [hm] at ht
          have ht : (c : Int) % (p : Int) = 0 := ht
          have wd : IntKind.i64.wrap (((c / p : Nat) : Int)) = ((c / p : Nat) : Int) := by rw [IntKind.wrap_i64]; omega
          have wj : IntKind.i64.wrap (e + 12 * (j : Int) + 12) = e + 12 * ((j + 1 : Nat) : Int) := by rw [IntKind.wrap_i64]; omega
          generalize c / p = c' at *
          clear hm
          go_wp2
          go_roundw
          case rel => exact ⟨c', j + 1, rfl, hst, g2, by omega, Lib.hid (bl_set' (by show w.heap.size ≤ pb; omega) HBr.out), Lib.hid (HHr.out.far (by show w.heap.size ≠ pb; omega) _), Lib.hid (HLr.out.far (by show w.heap.size + 1 ≠ pb; omega) _), Lib.hid (HZr.out.far (by show w.heap.size + 1 + 1 ≠ pb; omega) _), Lib.hid (by
            have h5 := HQr.out.set_ k (.int .i64 (e + 12 * ((j + 1 : Nat) : Int)))
            rw [cell6_set _ hlt, upd6_twice] at h5
            exact h5)⟩
          case measure => simp [intOf]; omega
        · obtain ⟨v1, v2⟩ := HF.out.2 j N c 0 HE.out hm
          have ht0 : ¬ (c : Int) % (p : Int) = 0 := by rw [ht]; omega
          have ht' : ((c : Int) % (p : Int) == 0) = false := by simpa using ht0
          have HT : Hid (SF = e + 12 * (j : Int) - vsF g s k n) := Lib.hid (by rw [HS.out.2, v1])
          have HC : Hid (chN x (k + 1) = c) := Lib.hid (by rw [HS.out.1, v2])
          clear ht hd' ht0 v1 v2 hm cV fV hv16
          have h6 := HHr.out.cell 6
          have zH := HHr.out.lt
          simp only [List.getElem?_toArray, List.getElem?_cons_zero, List.getElem?_cons_succ] at h6
          go_wp2
          go_loopw [35] (fun y wr3 => ∃ m : Nat, y = .int .i64 (m : Int) ∧ m ≤ n ∧ Hid (Below w.heap.size w wr3) ∧ Hid (Blk wr3 w.heap.size 75 #[.int .i64 (bs 0), .int .i64 (bs 1), .int .i64 (bs 2), .int .i64 (bs 3), .int .i64 (bs 4), .int .i64 (bs 5), .slice A n cap, .int .i64 mo, .int .i64 tl]) ∧ Hid (Blk wr3 (w.heap.size + 1) 79 #[.int .i64 (x : Int), .int .i64 (s : Int)]) ∧ Hid (Blk wr3 (w.heap.size + 1 + 1) 72 #[.int .i64 0, .int .i64 0, .int .i64 0, .int .i64 0, .int .i64 0, .int .i64 0]) ∧ Hid (Blk wr3 pb 72 (cell6 (upd6 U k (e + 12 * (j : Int) - vsF g s k m))))) (fun y _ => n - (intOf y).toNat)
          case atStart => exact ⟨0, rfl, by omega, HBr, HHr, HLr, HZr, Lib.hid (by rw [show e + 12 * (j : Int) - vsF g s k 0 = e + 12 * (j : Int) from by show _ - 0 = _; omega]; exact HQr.out)⟩
          case round =>
            clear HBr HHr HLr HZr HQr hsz ht' h6 zH
            obtain ⟨m, rfl, hmn, HBr, HHr, HLr, HZr, HQr⟩ := hrel
            by_cases hml : m < n
            · obtain ⟨bv, ov, rfl, hbv, x0, x1, x2, x3, x4, x5⟩ := VecsR.cells (HV.out.below HBr.out) hml
              have hbr := HBr.out
              have zv : bv < wr.heap.size := by have := hbr.size; omega
              have hmi : (m : Int) < (n : Int) := by omega
              have wm : IntKind.i64.wrap ((m : Int) + 1) = ((m + 1 : Nat) : Int) := by rw [IntKind.wrap_i64]; omega
              have b1 := HLr.out.cell 1
              have zb := HLr.out.lt
              simp only [List.getElem?_toArray, List.getElem?_cons_zero, List.getElem?_cons_succ] at b1
              go_upto_region 11 with fail
              refine wp_letter ?_
              intro W5 hW5
              have k5 : Below wr.heap.size wr W5 := by rw [hW5]; (repeat (first | (with_reducible exact bl_refl _) | (with_reducible refine bl_drew ?_) | (with_reducible refine bl_alloc ?_ _) | (with_reducible refine bl_set' ?_ ?_; · (first | omega | (simp; done) | (simp; omega))) | (with_reducible refine bl_last (by assumption) ?_) | (with_reducible refine bl_drewN ?_ _)))
              have V5 : Blk W5 wr.heap.size 72 (cell6 (g m)) := by
                rw [hW5]
                unfold cell6
                (repeat (first | (with_reducible assumption) | (with_reducible apply Blk.new) | (with_reducible exact blkAt _ _ _ _ (by simp; done)) | (with_reducible apply blk_st6) | (with_reducible apply Blk.alloc)))
              have hwr : pb < wr.heap.size := HQr.out.lt
              have HB5 := Lib.hid (bl_trans hbr k5)
              have HH5 := Lib.hid (HHr.out.below k5 HHr.out.lt)
              have HL5 := Lib.hid (HLr.out.below k5 HLr.out.lt)
              have HZ5 := Lib.hid (HZr.out.below k5 HZr.out.lt)
              have HQ5 := Lib.hid (HQr.out.below k5 HQr.out.lt)
              have HV5 := Lib.hid V5
              clear hW5 k5 V5 x0 x1 x2 x3 x4 x5 zv hbv hbr b1 zb HBr HHr HLr HZr HQr
              generalize wr.heap.size = vb at *
              have b1 := HL5.out.cell 1
              have zb := HL5.out.lt
              simp only [List.getElem?_toArray, List.getElem?_cons_zero, List.getElem?_cons_succ] at b1
              have hbt := bit_of s m (by omega)
              by_cases hbit : s / 2 ^ m % 2 = 1
              · rw [hbit] at hbt
                have hbt : bits .and .i64 ((s : Int) / 2 ^ m) 1 = 1 := hbt
                have hvs : Hid (vsF g s k (m + 1) = vsF g s k m + g m k) := Lib.hid (by rw [vsF, if_pos hbit])
                have cV := (HQ5.out.cell k).trans (cell6_get _ hlt)
                rw [upd6_at] at cV
                have fV := HQ5.out.frozen k
                have cG := (HV5.out.cell k).trans (cell6_get _ hlt)
                have zp := HQ5.out.lt
                have zg := HV5.out.lt
                have hb1 := HVb.out m (by omega)
                have hb2 := HVb.out (m + 1) (by omega)
                rw [hvs.out] at hb2
                have wv : IntKind.i64.wrap (e + 12 * (j : Int) - vsF g s k m - g m k) = e + 12 * (j : Int) - vsF g s k m - g m k := by rw [IntKind.wrap_i64]; omega
                generalize hgm : g m k = gm at *
                generalize vsF g s k m = vm at *
                generalize he0 : e + 12 * (j : Int) - vm = e0 at *
                clear hbit hb1 hb2 hgm
                go_wp2
                (refine wp_region_bl [0,1,2,3,4,5,6,7] [8] (by kernel_rfl) (by kernel_rfl) (by rfl) ?_
                 simp only [pickI, pick, List.getElem?_cons_succ, List.getElem?_cons_zero]
                 iterate 8 (first
                   | (refine head_val (by rfl) (by first | exact wanted_free rfl | rfl) ?_
                      apply Exists.intro
                      refine ⟨fun X hX => ?_, ?_⟩
                      · (obtain ⟨qz, qc, qf⟩ := bcl hX.out (by first | (simp; rfl) | rfl)
                         go_simp
                         first | done | rfl | exact ⟨rfl, rfl⟩)
                      simp only [Act.put, List.setIfInBounds_toArray, List.set_cons_zero, List.set_cons_succ])
                   | (refine head_pass (by rfl) ?_
                      simp only [Act.put, List.setIfInBounds_toArray, List.set_cons_zero, List.set_cons_succ]))
                 refine head_nil ?_
                 intro w' hw'
                 have hb := hw'.out
                 clear hw'
                 obtain ⟨hz, hc, hf⟩ := bcl hb (by first | (simp; rfl) | rfl))
                have HB6 := Lib.hid (bl_trans HB5.out hb)
                have HH6 := Lib.hid (HH5.out.below hb HH5.out.lt)
                have HL6 := Lib.hid (HL5.out.below hb HL5.out.lt)
                have HZ6 := Lib.hid (HZ5.out.below hb HZ5.out.lt)
                have HQ6 := Lib.hid (HQ5.out.below hb HQ5.out.lt)
                have HE0 := Lib.hid he0
                clear hb hz hc hf b1 zb cV fV cG zp zg HB5 HH5 HL5 HZ5 HQ5 HV5 hbt he0
                have fV := HQ6.out.frozen k
                have zp := HQ6.out.lt
                have cV := (HQ6.out.cell k).trans (cell6_get _ hlt)
                go_wp2
                go_roundw
                case rel => exact ⟨m + 1, by go_num, by omega, Lib.hid (bl_set' (by show w.heap.size ≤ pb; omega) HB6.out), Lib.hid (HH6.out.far (by show w.heap.size ≠ pb; omega) _), Lib.hid (HL6.out.far (by show w.heap.size + 1 ≠ pb; omega) _), Lib.hid (HZ6.out.far (by show w.heap.size + 1 + 1 ≠ pb; omega) _), Lib.hid (by
                  have h5 := HQ6.out.set_ k (.int .i64 (e0 - gm))
                  rw [cell6_set _ hlt, upd6_twice] at h5
                  rw [hvs.out, show e + 12 * (j : Int) - (vm + gm) = e0 - gm by have := HE0.out; omega]
                  exact h5)⟩
                case measure => simp [intOf]; omega
              · have hbit0 : s / 2 ^ m % 2 = 0 := by omega
                rw [hbit0] at hbt
                have hbt : bits .and .i64 ((s : Int) / 2 ^ m) 1 = 0 := hbt
                have hvs : Hid (vsF g s k (m + 1) = vsF g s k m) := Lib.hid (by rw [vsF, if_neg hbit, Int.add_zero])
                clear hbit hbit0
                go_wp2
                go_roundw
                case rel => exact ⟨m + 1, by go_num, by omega, HB5, HH5, HL5, HZ5, Lib.hid (by rw [hvs.out]; exact HQ5.out)⟩
                case measure => simp [intOf]; omega
            · obtain rfl : m = n := by omega
              have HQ8 : Hid (Blk wr pb 72 (cell6 (sdU bs g m x s (k + 1)))) := Lib.hid (by rw [← HUn.out, HT.out]; exact HQr.out)
              clear HQr
              rw [← HC.out]
              go_wp2
              go_roundw
              case rel => exact ⟨k + 1, by omega, by go_num, rfl, HBr, HHr, HLr, HZr, HQ8⟩
              case measure => simp [intOf]; omega
    · obtain rfl : k = 6 := by omega
      have HR : Hid (cell6 (sdU bs g n x s 6) = cell6 (sdF bs g n x s)) := Lib.hid (cell6_ext (fun i hi => if_pos hi))
      have hq := HQr.out
      rw [HR.out] at hq
      have hz := HZr.out
      have c0 := hq.cell 0
      have c1 := hq.cell 1
      have c2 := hq.cell 2
      have c3 := hq.cell 3
      have c4 := hq.cell 4
      have c5 := hq.cell 5
      have zq := hq.lt
      have zz := hz.lt
      have f0 := hz.frozen 0
      have f1 := hz.frozen 1
      have f2 := hz.frozen 2
      have f3 := hz.frozen 3
      have f4 := hz.frozen 4
      have f5 := hz.frozen 5
      have d0 := hz.cell 0
      have d1 := hz.cell 1
      have d2 := hz.cell 2
      have d3 := hz.cell 3
      have d4 := hz.cell 4
      have d5 := hz.cell 5
      unfold cell6 at c0 c1 c2 c3 c4 c5
      simp only [List.getElem?_toArray, List.getElem?_cons_zero, List.getElem?_cons_succ] at c0 c1 c2 c3 c4 c5 d0 d1 d2 d3 d4 d5
      have hbr := HBr.out
      clear hq hz
      have HY : Hid (cell6 (sdF bs g n x s) = #[.int .i64 (sdF bs g n x s 0), .int .i64 (sdF bs g n x s 1), .int .i64 (sdF bs g n x s 2), .int .i64 (sdF bs g n x s 3), .int .i64 (sdF bs g n x s 4), .int .i64 (sdF bs g n x s 5)]) := Lib.hid rfl
      generalize sdF bs g n x s 0 = y0 at *
      generalize sdF bs g n x s 1 = y1 at *
      generalize sdF bs g n x s 2 = y2 at *
      generalize sdF bs g n x s 3 = y3 at *
      generalize sdF bs g n x s 4 = y4 at *
      generalize sdF bs g n x s 5 = y5 at *
      go_wp2
      (refine bodyPost_ret (v := .agg #[.int .i64 y0, .int .i64 y1, .int .i64 y2, .int .i64 y3, .int .i64 y4, .int .i64 y5]) (by simp only [results, Tryd.results79]; go_simp) rfl ⟨by rw [HY.out], ?_⟩)
      (repeat (first | (with_reducible exact hbr) | (with_reducible refine bl_set' ?_ ?_; · (dsimp only; omega))))
end Go.Proofs.YtehifkdfbiebfaaDoor
