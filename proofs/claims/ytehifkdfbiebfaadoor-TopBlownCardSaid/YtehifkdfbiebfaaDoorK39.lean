/- Horns: Best. -/
import Derived.Test.YtehifkdfbiebfaaDoorK38
namespace Go.Proofs.YtehifkdfbiebfaaDoor
open Go Go.RowKit

def sndF (bs : Nat → Int) (g : Nat → Nat → Int) (n m : Nat) : Nat → Int := sdF bs g n (blwX n m) (blwS n m)
/-- One step: the best blow so far; none if a distance is out of range. -/
def bsSt (bs : Nat → Int) (g : Nat → Nat → Int) (n : Nat) (a : Nat → Int) : Option (Option Nat) → Nat → Option (Option Nat)
  | none, _ => none
  | some s, m => if dsE (sndF bs g n m) a = 0 then (match s with
    | none => some (some m)
    | some b => if pcN6 (dsF (sndF bs g n m) a) (dsF (sndF bs g n b) a) < 0 then some (some m) else some (some b)) else none
def bsFo (bs : Nat → Int) (g : Nat → Nat → Int) (n : Nat) (a : Nat → Int) (l : List Nat) : Option (Option Nat) := l.foldl (bsSt bs g n a) (some none)
theorem bsFo_none (bs : Nat → Int) (g : Nat → Nat → Int) (n : Nat) (a : Nat → Int) : ∀ l : List Nat, l.foldl (bsSt bs g n a) none = none
  | [] => rfl
  | m :: l => by
    show l.foldl (bsSt bs g n a) none = none
    exact bsFo_none bs g n a l
theorem bsSt_no {bs : Nat → Int} {g : Nat → Nat → Int} {n : Nat} {a : Nat → Int} {st : Option Nat} {m : Nat} (h : dsE (sdF bs g n (blwX n m) (blwS n m)) a ≠ 0) : bsSt bs g n a (some st) m = none := if_neg h
theorem bsSt_ok {bs : Nat → Int} {g : Nat → Nat → Int} {n : Nat} {a : Nat → Int} {st : Option Nat} {m : Nat} (h : dsE (sdF bs g n (blwX n m) (blwS n m)) a = 0) : bsSt bs g n a (some st) m = (match st with
    | none => some (some m)
    | some b => if pcN6 (dsF (sndF bs g n m) a) (dsF (sndF bs g n b) a) < 0 then some (some m) else some (some b)) := if_pos h
def bsX (n : Nat) : Option Nat → Int
  | none => 0
  | some b => (blwX n b : Int)
def bsS (n : Nat) : Option Nat → Int
  | none => 0
  | some b => (blwS n b : Int)
def bsL (bs : Nat → Int) (g : Nat → Nat → Int) (n : Nat) (a : Nat → Int) : Option Nat → Nat → Int
  | none => fun _ => 0
  | some b => dsF (sndF bs g n b) a
/-- What Best returns. -/
def bsE (bs : Nat → Int) (n : Nat) (g : Nat → Nat → Int) (mo tl : Int) (v : Nat → Int) : Int :=
  if fdG bs n g mo tl v then (if (fdL bs n g tl (at12 v) (mo.toNat * 2 ^ n)) = [] then 4 else match bsFo bs g n (at12 v) (fdL bs n g tl (at12 v) (mo.toNat * 2 ^ n)) with
    | none => 3
    | some _ => 0) else 1
def bsB (bs : Nat → Int) (n : Nat) (g : Nat → Nat → Int) (mo tl : Int) (v : Nat → Int) : Option Nat :=
  if bsE bs n g mo tl v = 0 then (bsFo bs g n (at12 v) (fdL bs n g tl (at12 v) (mo.toNat * 2 ^ n))).getD none else none
def bsV (bs : Nat → Int) (n : Nat) (g : Nat → Nat → Int) (mo tl : Int) (v : Nat → Int) : Value := .tuple #[.agg #[.int .i64 (bsX n (bsB bs n g mo tl v)), .int .i64 (bsS n (bsB bs n g mo tl v))], .int .i64 (bsE bs n g mo tl v)]
theorem bsV_bad {bs : Nat → Int} {n : Nat} {g : Nat → Nat → Int} {mo tl : Int} {v : Nat → Int} {e : Int} (h : bsE bs n g mo tl v = e) (he : e ≠ 0) : bsV bs n g mo tl v = .tuple #[.agg #[.int .i64 0, .int .i64 0], .int .i64 e] := by
  unfold bsV bsB
  rw [h, if_neg he]
  rfl
theorem fdL_mem {bs : Nat → Int} {n : Nat} {g : Nat → Nat → Int} {tl : Int} {a : Nat → Int} {K m : Nat} (h : m ∈ fdL bs n g tl a K) : m < K ∧ fdOk bs n g tl a m = true := by
  simpa [fdL] using h
theorem blw_bd {n M m : Nat} (hn : n ≤ 4) (hM : M ≤ 16) (hm : m < M * 2 ^ n) : 1 ≤ blwX n m ∧ blwX n m ≤ M ∧ blwX n m ≤ 16 ∧ blwS n m ≤ 15 := by
  have hp0 : 0 < 2 ^ n := Nat.pow_pos (by omega)
  have hq : m / 2 ^ n < M := (Nat.div_lt_iff_lt_mul hp0).2 hm
  have hr : m % 2 ^ n < 2 ^ n := Nat.mod_lt _ hp0
  have h2 := two_le hn
  unfold blwX blwS
  generalize m / 2 ^ n = q at *
  generalize m % 2 ^ n = r at *
  generalize 2 ^ n = p at *
  omega
set_option maxRecDepth 100000 in
set_option maxHeartbeats 8000000 in
theorem Best_c (bs : Nat → Int) (A : Option Addr) (n cap : Nat) (g : Nat → Nat → Int) (mo tl : Int) (v : Nat → Int) (w : World) (hv : VecsR w w.heap.size A n g) (hP : PR w) (hQ : BP w) (hL : LG w) (hn : n ≤ 9223372036854775807) :
    Calls Tryd.prog 36 #[.agg #[.int .i64 (bs 0), .int .i64 (bs 1), .int .i64 (bs 2), .int .i64 (bs 3), .int .i64 (bs 4), .int .i64 (bs 5), .slice A n cap, .int .i64 mo, .int .i64 tl], .agg #[.int .i64 (v 0), .int .i64 (v 1), .int .i64 (v 2), .int .i64 (v 3), .int .i64 (v 4), .int .i64 (v 5)]] w (Ret (bsV bs n g mo tl v) w) := by
  have HV := Lib.hid hv
  have HP := Lib.hid hP
  have HQ := Lib.hid hQ
  have HL := Lib.hid hL
  have hm := brmk
  have hOf := fun w => POf_c (v 0) (v 1) (v 2) (v 3) (v 4) (v 5) w
  unfold ofV at hOf
  clear hv hP hQ hL
  go_enter Tryd.func36, Tryd.ntmps36
  go_upto_region 1 with fail
  refine wp_letter ?_
  intro W1 hW1
  have B1 : Below w.heap.size w W1 := by rw [hW1]; (repeat (first | (with_reducible exact bl_refl _) | (with_reducible refine bl_drew ?_) | (with_reducible refine bl_alloc ?_ _) | (with_reducible refine bl_set' ?_ ?_; · (first | omega | (simp; done) | (simp; omega))) | (with_reducible refine bl_last (by assumption) ?_) | (with_reducible refine bl_drewN ?_ _)))
  have H1 : Blk W1 w.heap.size 75 #[.int .i64 (bs 0), .int .i64 (bs 1), .int .i64 (bs 2), .int .i64 (bs 3), .int .i64 (bs 4), .int .i64 (bs 5), .slice A n cap, .int .i64 mo, .int .i64 tl] := by rw [hW1]; exact ((Blk.new _ _ _).alloc _).alloc _
  have V1 : Blk W1 (w.heap.size + 1) 27 #[.int .i64 (v 0), .int .i64 (v 1), .int .i64 (v 2), .int .i64 (v 3), .int .i64 (v 4), .int .i64 (v 5)] := by rw [hW1]; exact (blkAt _ _ _ _ (by simp)).alloc _
  have R1 : Blk W1 (w.heap.size + 1 + 1) 79 #[.int .i64 0, .int .i64 0] := by rw [hW1]; exact blkAt _ _ _ _ (by simp)
  have HF := Lib.hid (Find_c bs A n cap g mo tl v W1 (HV.out.up B1) (HP.out.up B1) (HQ.out.up B1) (HL.out.up B1) hn)
  have HB1 := Lib.hid B1
  have HH1 := Lib.hid H1
  have HV1 := Lib.hid V1
  have HR1 := Lib.hid R1
  have g0 := H1.cell 0
  have g1 := H1.cell 1
  have g2 := H1.cell 2
  have g3 := H1.cell 3
  have g4 := H1.cell 4
  have g5 := H1.cell 5
  have g6 := H1.cell 6
  have g7 := H1.cell 7
  have g8 := H1.cell 8
  have zh := H1.lt
  have v0 := V1.cell 0
  have v1 := V1.cell 1
  have v2 := V1.cell 2
  have v3 := V1.cell 3
  have v4 := V1.cell 4
  have v5 := V1.cell 5
  have zv := V1.lt
  simp only [List.getElem?_toArray, List.getElem?_cons_zero, List.getElem?_cons_succ] at g0 g1 g2 g3 g4 g5 g6 g7 g8 v0 v1 v2 v3 v4 v5
  clear hW1 B1 H1 V1 R1
  go_wp2_with fail
  (with_reducible refine HF.out.mono ?_)
  rintro e W2 ⟨hb2, hways⟩
  have HB2 := Lib.hid (bl_trans HB1.out hb2)
  have HH2 := Lib.hid (HH1.out.below hb2 HH1.out.lt)
  have HV2 := Lib.hid (HV1.out.below hb2 HV1.out.lt)
  have HR2 := Lib.hid (HR1.out.below hb2 HR1.out.lt)
  clear g0 g1 g2 g3 g4 g5 g6 g7 g8 zh v0 v1 v2 v3 v4 v5 zv hb2 HB1 HH1 HV1 HR1 HF
  rcases hways with ⟨hG, rfl⟩ | ⟨hG, A2, c2, rfl, hr2⟩
  · have HE := Lib.hid (bsV_bad (show bsE bs n g mo tl v = 1 by unfold bsE; rw [hG, if_neg (by decide)]) (by decide))
    have f0 := HR2.out.frozen 0
    have f1 := HR2.out.frozen 1
    have d0 := HR2.out.cell 0
    have d1 := HR2.out.cell 1
    have zr := HR2.out.lt
    simp only [List.getElem?_toArray, List.getElem?_cons_zero, List.getElem?_cons_succ] at d0 d1
    clear hG hOf hm
    go_wp2
    (refine bodyPost_ret (v := .tuple #[.agg #[.int .i64 0, .int .i64 0], .int .i64 1]) (by simp only [results, Tryd.results36]; go_simp) rfl ⟨by rw [HE.out], ?_⟩)
    have hbb := HB2.out
    (repeat (first | (with_reducible exact hbb) | (with_reducible refine bl_set' ?_ ?_; · (dsimp only; omega))))
  · obtain ⟨hpv, hval⟩ : pV6 v 48 = true ∧ hvV (bs 0) (bs 1) (bs 2) (bs 3) (bs 4) (bs 5) n g mo tl = true := by
      unfold fdG at hG
      simpa using hG
    obtain ⟨hG2, hVv⟩ := hv_valve hval
    obtain ⟨hp0, hn4, hm1, hm2, ht1, ht2⟩ := hvG_of hG2
    obtain ⟨M, rfl⟩ : ∃ M : Nat, mo = (M : Int) := ⟨mo.toNat, by omega⟩
    rw [Int.toNat_natCast] at hr2
    have HBs : Hid (bsE bs n g (M : Int) tl v = (if (fdL bs n g tl (at12 v) (M * 2 ^ n)) = [] then 4 else match bsFo bs g n (at12 v) (fdL bs n g tl (at12 v) (M * 2 ^ n)) with
      | none => 3
      | some _ => 0)) := Lib.hid (by unfold bsE; rw [hG, if_pos rfl, Int.toNat_natCast])
    have HBb : Hid (bsE bs n g (M : Int) tl v = 0 → bsB bs n g (M : Int) tl v = (bsFo bs g n (at12 v) (fdL bs n g tl (at12 v) (M * 2 ^ n))).getD none) := Lib.hid (fun h => by unfold bsB; rw [if_pos h, Int.toNat_natCast])
    have HMem : Hid (∀ m, m ∈ fdL bs n g tl (at12 v) (M * 2 ^ n) → m < M * 2 ^ n) := Lib.hid (fun m h => (fdL_mem h).1)
    have hll := fdL_len bs n g tl (at12 v) (M * 2 ^ n)
    have h256 : M * 2 ^ n ≤ 16 * 16 := Nat.mul_le_mul (by omega) (two_le hn4)
    have HR := Lib.hid hr2
    have HVv := Lib.hid hVv
    have HP0 := Lib.hid hp0
    have HPv := Lib.hid hpv
    clear hr2 hval hVv hG hG2 hp0 hpv
    rw [Int.toNat_natCast]
    generalize fdL bs n g tl (at12 v) (M * 2 ^ n) = l at *
    by_cases hl : l = []
    · have HE := Lib.hid (bsV_bad (show bsE bs n g (M : Int) tl v = 4 by rw [HBs.out, if_pos hl]) (by decide))
      have q1 : ((l.length : Int) == 0) = true := by rw [hl]; rfl
      have f0 := HR2.out.frozen 0
      have f1 := HR2.out.frozen 1
      have d0 := HR2.out.cell 0
      have d1 := HR2.out.cell 1
      have zr := HR2.out.lt
      simp only [List.getElem?_toArray, List.getElem?_cons_zero, List.getElem?_cons_succ] at d0 d1
      clear hOf hm hl HBs HBb
      go_wp2
      (refine bodyPost_ret (v := .tuple #[.agg #[.int .i64 0, .int .i64 0], .int .i64 4]) (by simp only [results, Tryd.results36]; go_simp) rfl ⟨by rw [HE.out], ?_⟩)
      have hbb := HB2.out
      (repeat (first | (with_reducible exact hbb) | (with_reducible refine bl_set' ?_ ?_; · (dsimp only; omega))))
    · have hl0 : 0 < l.length := List.length_pos_iff.2 hl
      have q1 : ((l.length : Int) == 0) = false := by rw [beq_eq_false_iff_ne]; omega
      rw [show pV (v 0) (v 1) (v 2) (v 3) (v 4) (v 5) 48 = true from HPv.out] at hOf
      simp only [if_true] at hOf
      have HOf : Hid (∀ w, Calls Tryd.prog 34 #[.agg #[.int .i64 (v 0), .int .i64 (v 1), .int .i64 (v 2), .int .i64 (v 3), .int .i64 (v 4), .int .i64 (v 5)]] w (Ret (.tuple #[.agg #[.int .i64 (at12 v 0), .int .i64 (at12 v 1), .int .i64 (at12 v 2), .int .i64 (at12 v 3), .int .i64 (at12 v 4), .int .i64 (at12 v 5)], .int .i64 0]) w)) := Lib.hid hOf
      have HBs2 : Hid (bsE bs n g (M : Int) tl v = (match bsFo bs g n (at12 v) l with
        | none => 3
        | some _ => 0)) := Lib.hid (by rw [HBs.out, if_neg hl])
      have v0 := HV2.out.cell 0
      have v1 := HV2.out.cell 1
      have v2 := HV2.out.cell 2
      have v3 := HV2.out.cell 3
      have v4 := HV2.out.cell 4
      have v5 := HV2.out.cell 5
      have zv := HV2.out.lt
      simp only [List.getElem?_toArray, List.getElem?_cons_zero, List.getElem?_cons_succ] at v0 v1 v2 v3 v4 v5
      clear hOf hl HBs
      go_wp2_with fail
      (with_reducible refine (HOf.out _).mono ?_)
      rintro e W3 ⟨rfl, hb3⟩
      obtain ⟨hz, hc, hf⟩ := bcl hb3 (by first | (simp; rfl) | rfl)
      go_upto_region 10 with fail
      refine wp_letter ?_
      intro W4 hW4
      have b4 : Below W2.heap.size W2 W4 := by rw [hW4]; exact bl_alloc (bl_alloc (bl_alloc hb3 _) _) _
      have hw3 := hb3.size
      have HA4 : Hid (Blk W4 W3.heap.size 72 (cell6 (at12 v))) := Lib.hid (by rw [hW4]; exact ((Blk.new _ _ _).alloc _).alloc _)
      have HX4 : Hid (Blk W4 (W3.heap.size + 1) 79 #[.int .i64 0, .int .i64 0]) := Lib.hid (by rw [hW4]; exact (blkAt _ _ _ _ (by simp)).alloc _)
      have HL4 : Hid (Blk W4 (W3.heap.size + 1 + 1) 72 (cell6 (fun _ => 0))) := Lib.hid (by rw [hW4]; exact blkAt _ _ _ _ (by simp))
      have HB4 := Lib.hid (bl_trans HB2.out b4)
      have HH4 := Lib.hid (HH2.out.below b4 HH2.out.lt)
      have HR4 := Lib.hid (HR2.out.below b4 HR2.out.lt)
      have hz2 := HR2.out.lt
      obtain ⟨bl, ol, rfl, hbl, hcl⟩ := HR.out hl0
      have HC4 : Hid (∀ k, k < l.length → W4.cell? ⟨bl, ol + k * 2, none⟩ = some (.int .i64 (blwX n (l.getD k 0) : Int)) ∧ W4.cell? ⟨bl, ol + k * 2 + 1, none⟩ = some (.int .i64 (blwS n (l.getD k 0) : Int))) := Lib.hid (fun k hk => ⟨(b4.cell (p := ⟨bl, ol + k * 2, none⟩) hbl).trans (hcl k hk).1, (b4.cell (p := ⟨bl, ol + k * 2 + 1, none⟩) hbl).trans (hcl k hk).2⟩)
      have hpl : w.heap.size + 1 + 1 < W3.heap.size ∧ bl < W3.heap.size := ⟨by omega, by omega⟩
      clear hW4 b4 hb3 hz hc hf v0 v1 v2 v3 v4 v5 zv HB2 HH2 HV2 HR2 HR hcl hbl hw3 hz2 HOf hm
      generalize W3.heap.size = ab at *
      have h4z := HL4.out.lt
      go_wp2
      go_loopw [38] (fun y wr => ∃ (k : Nat) (st : Option Nat), k ≤ l.length ∧ y = .int .i64 (k : Int) ∧ Hid (bsFo bs g n (at12 v) (l.take k) = some st) ∧ Hid (Below (ab + 1) W4 wr) ∧ Hid (Blk wr (ab + 1) 79 #[.int .i64 (bsX n st), .int .i64 (bsS n st)]) ∧ Hid (Blk wr (ab + 1 + 1) 72 (cell6 (bsL bs g n (at12 v) st)))) (fun y _ => l.length - (intOf y).toNat)
      case atStart => exact ⟨0, none, Nat.zero_le _, rfl, Lib.hid rfl, Lib.hid (Below.refl _ _), HX4, HL4⟩
      case round =>
        obtain ⟨k, st, hk, rfl, HSt, HBw, HXw, HLw⟩ := hrel
        have hsz := HBw.out.size
        by_cases hlt : k < l.length
        · obtain ⟨hc1, hc2⟩ := HC4.out k hlt
          have y0 := (HBw.out.cell (p := ⟨bl, ol + k * 2, none⟩) (by show bl < ab + 1; omega)).trans hc1
          have y1 := (HBw.out.cell (p := ⟨bl, ol + k * 2 + 1, none⟩) (by show bl < ab + 1; omega)).trans hc2
          have zy : bl < wr.heap.size := by omega
          have hki : (k : Int) < (l.length : Int) := by omega
          have wk : IntKind.i64.wrap ((k : Int) + 1) = ((k + 1 : Nat) : Int) := by rw [IntKind.wrap_i64]; omega
          have hmem : l.getD k 0 ∈ l := by
            rw [List.getD_eq_getElem?_getD, List.getElem?_eq_getElem hlt]
            exact List.getElem_mem _
          have hmb := blw_bd hn4 (by omega) (HMem.out _ hmem)
          have htk : l.take (k + 1) = l.take k ++ [l.getD k 0] := by
            rw [List.take_add_one, List.getElem?_eq_getElem hlt, List.getD_eq_getElem?_getD, List.getElem?_eq_getElem hlt]
            rfl
          have hdr : l = l.take (k + 1) ++ l.drop (k + 1) := (List.take_append_drop _ _).symm
          have HFo : Hid (bsFo bs g n (at12 v) (l.take (k + 1)) = bsSt bs g n (at12 v) (some st) (l.getD k 0)) := Lib.hid (by
            have h := HSt.out
            unfold bsFo at h ⊢
            rw [htk, List.foldl_append, h]
            rfl)
          have HFn : Hid (bsSt bs g n (at12 v) (some st) (l.getD k 0) = none → bsFo bs g n (at12 v) l = none) := Lib.hid (fun h => by
            have h2 := HFo.out
            rw [h] at h2
            rw [hdr]
            unfold bsFo at h2 ⊢
            rw [List.foldl_append, h2]
            exact bsFo_none _ _ _ _ _)
          clear hc1 hc2 hmem htk hdr
          generalize l.getD k 0 = m at *
          go_upto_region 13 with fail
          refine wp_letter ?_
          intro W6 hW6
          have b6 : Below wr.heap.size wr W6 := by rw [hW6]; exact bl_alloc (bl_refl _) _
          have HM6 : Hid (Blk W6 wr.heap.size 79 #[.int .i64 (blwX n m : Int), .int .i64 (blwS n m : Int)]) := Lib.hid (by rw [hW6]; exact Blk.new _ _ _)
          have HB6 : Hid (Below (ab + 1) W4 W6) := Lib.hid (HBw.out.trans (b6.mono (by omega)))
          have HX6 := Lib.hid (HXw.out.below b6 HXw.out.lt)
          have HL6 := Lib.hid (HLw.out.below b6 HLw.out.lt)
          have hbst : (bsX n st = 0 ∧ bsS n st = 0) ∨ 1 ≤ bsX n st := by
            cases st with
            | none => exact .inl ⟨rfl, rfl⟩
            | some b => exact .inr (by show (1 : Int) ≤ (blwX n b : Int); unfold blwX; generalize b / 2 ^ n = q; omega)
          have hw6 : Below w.heap.size w W6 := HB4.out.trans (HB6.out.mono (by omega))
          have HT := Lib.hid (Try_c bs A n cap g (M : Int) tl (blwX n m) (blwS n m) (at12 v) (bsL bs g n (at12 v) st) (bsX n st) (bsS n st) w.heap.size ab (ab + 1 + 1) (ab + 1) W6 (HV.out.up hw6) (HP.out.up hw6) (HQ.out.up hw6) hn4 hmb.1 hmb.2.2.1 hmb.2.2.2 (pV_six HP0.out) (fun k hk => pV_six (HVv.out k hk)) hbst
            (HH4.out.below HB6.out (by omega)) (HA4.out.below HB6.out (by omega)) HL6.out HX6.out (by omega))
          have m0 := HM6.out.cell 0
          have m1 := HM6.out.cell 1
          have zm := HM6.out.lt
          simp only [List.getElem?_toArray, List.getElem?_cons_zero, List.getElem?_cons_succ] at m0 m1
          clear hW6 b6 hw6 hbst hmb y0 y1 zy HX6 HL6 HM6 HXw HLw HBw
          generalize wr.heap.size = nb at *
          go_wp2_with fail
          (with_reducible refine HT.out.mono ?_)
          rintro e W7 ⟨hb7, hways⟩
          have HB7 := Lib.hid (HB6.out.trans hb7)
          clear m0 m1 zm hb7 HB6 HT
          have hst2 : (∀ b, st = some b → ¬ bsX n st = 0) := fun b hb => by
            subst hb
            show ¬ ((b / 2 ^ n + 1 : Nat) : Int) = 0
            generalize b / 2 ^ n = q
            omega
          rcases hways with ⟨hE, rfl, hl7, hx7⟩ | ⟨hE, rfl, ⟨hc, hl7, hx7⟩ | ⟨hc, hl7, hx7⟩⟩
          · have hno : bsSt bs g n (at12 v) (some st) m = none := bsSt_no hE
            have HE := Lib.hid (bsV_bad (show bsE bs n g (M : Int) tl v = 3 by rw [HBs2.out, HFn.out hno]) (by decide))
            have HR7 := Lib.hid (HR4.out.below HB7.out (by omega))
            have f0 := HR7.out.frozen 0
            have f1 := HR7.out.frozen 1
            have d0 := HR7.out.cell 0
            have d1 := HR7.out.cell 1
            have zr := HR7.out.lt
            simp only [List.getElem?_toArray, List.getElem?_cons_zero, List.getElem?_cons_succ] at d0 d1
            clear hst2 hE hno hl7 hx7 HFo HFn HBs2 HBb
            go_wp2
            (refine bodyPost_ret (v := .tuple #[.agg #[.int .i64 0, .int .i64 0], .int .i64 3]) (by simp only [results, Tryd.results36]; go_simp) rfl ⟨by rw [HE.out], ?_⟩)
            have hbb := HB4.out.trans (HB7.out.mono (show w.heap.size ≤ ab + 1 by omega))
            (repeat (first | (with_reducible exact hbb) | (with_reducible refine bl_set' ?_ ?_; · (dsimp only; omega))))
          · have hyes : bsSt bs g n (at12 v) (some st) m = some (some m) := by
              rw [bsSt_ok hE]
              cases st with
              | none => rfl
              | some b => exact if_pos (hc.resolve_left (fun h => hst2 b rfl h.1))
            have HS := Lib.hid (HFo.out.trans hyes)
            have HX8 := Lib.hid hx7
            have HL8 := Lib.hid hl7
            clear hst2 hE hyes hl7 hx7 HFo HFn HBs2 HBb hc
            go_wp2
            go_roundw
            case rel => exact ⟨k + 1, some m, by omega, by go_num, HS, HB7, HX8, HL8⟩
            case measure => simp [intOf]; omega
          · have hyes : bsSt bs g n (at12 v) (some st) m = some st := by
              rw [bsSt_ok hE]
              cases st with
              | none => exact absurd ⟨rfl, rfl⟩ hc.1
              | some b => exact if_neg hc.2
            have HS := Lib.hid (HFo.out.trans hyes)
            have HX8 := Lib.hid hx7
            have HL8 := Lib.hid hl7
            clear hst2 hE hyes hl7 hx7 HFo HFn HBs2 HBb hc
            go_wp2
            go_roundw
            case rel => exact ⟨k + 1, st, by omega, by go_num, HS, HB7, HX8, HL8⟩
            case measure => simp [intOf]; omega
        · obtain rfl : k = l.length := by omega
          have hfo := HSt.out
          rw [List.take_length] at hfo
          have hE : bsE bs n g (M : Int) tl v = 0 := by rw [HBs2.out, hfo]
          have hB := HBb.out hE
          rw [hfo] at hB
          have HVal : Hid (bsV bs n g (M : Int) tl v = .tuple #[.agg #[.int .i64 (bsX n st), .int .i64 (bsS n st)], .int .i64 0]) := Lib.hid (by
            unfold bsV
            rw [hE, hB]
            rfl)
          have HR7 := Lib.hid (HR4.out.below HBw.out (by omega))
          have f0 := HR7.out.frozen 0
          have f1 := HR7.out.frozen 1
          have d0 := HR7.out.cell 0
          have d1 := HR7.out.cell 1
          have zr := HR7.out.lt
          have x0 := HXw.out.cell 0
          have x1 := HXw.out.cell 1
          have zx := HXw.out.lt
          simp only [List.getElem?_toArray, List.getElem?_cons_zero, List.getElem?_cons_succ] at d0 d1 x0 x1
          clear hfo hE hB HBs2 HBb
          generalize bsX n st = bx at *
          generalize bsS n st = by' at *
          go_wp2
          (refine bodyPost_ret (v := .tuple #[.agg #[.int .i64 bx, .int .i64 by'], .int .i64 0]) (by simp only [results, Tryd.results36]; go_simp) rfl ⟨by rw [HVal.out], ?_⟩)
          have hbb := HB4.out.trans (HBw.out.mono (show w.heap.size ≤ ab + 1 by omega))
          (repeat (first | (with_reducible exact hbb) | (with_reducible refine bl_set' ?_ ?_; · (dsimp only; omega))))
end Go.Proofs.YtehifkdfbiebfaaDoor
