/- Readings that agree: Solve, Bound; Refutes; size.Cmp. Readings that agree: Solve. Readings: Refutes of a contradiction. -/
import Derived.Test.YtehifkdfbiebfaaDoorK41
import Derived.Test.YtehifkdfbiebfaaDoorK32
import Derived.Test.YtehifkdfbiebfaaDoorK35
import Derived.Deep.Cut
namespace Go.Proofs.YtehifkdfbiebfaaDoor
open Go Go.RowKit Go.Shelf

def szc (al ah bl bh : Int) : Int := if ah < bl then -1 else if bh < al then 1 else 0
set_option maxHeartbeats 4000000 in
theorem SzCmp_c (al ah bl bh : Int) (w : World) (ha : szV al ah = true) (hb : szV bl bh = true) : Calls Tryd.prog 16 #[.agg #[.int .i64 al, .int .i64 ah], .agg #[.int .i64 bl, .int .i64 bh]] w (Ret (.tuple #[.int .i64 (szc al ah bl bh), .int .i64 0]) w) := by
  have H1 := Lib.hid (fun w => SzVal_c al ah w)
  have H2 := Lib.hid (fun w => SzVal_c bl bh w)
  rw [ha] at H1
  rw [hb] at H2
  clear ha hb
  unfold szc
  by_cases d1 : ah < bl
  · simp only [d1, if_true]
    go_enter Tryd.func16, Tryd.ntmps16
    go_wp2_with (first | (go_at_call 58; ((with_reducible refine (H1.out _).mono ?_); rintro e w' ⟨rfl, hb⟩; obtain ⟨hz, hc, hf⟩ := bcl hb (by first | (simp; rfl) | rfl))) | (go_at_call 58; ((with_reducible refine (H2.out _).mono ?_); rintro e w' ⟨rfl, hb⟩; obtain ⟨hz, hc, hf⟩ := bcl hb (by first | (simp; rfl) | rfl))))
    (refine bodyPost_ret (v := .tuple #[.int .i64 (-1), .int .i64 0]) (by simp only [results, Tryd.results16]; go_simp) rfl ⟨rfl, ?_⟩)
    (repeat (first | (with_reducible exact bl_refl _) | (with_reducible refine bl_drew ?_) | (with_reducible refine bl_alloc ?_ _) | (with_reducible refine bl_set' ?_ ?_; · (first | omega | (simp; done) | (simp; omega))) | (with_reducible refine bl_last (by assumption) ?_) | (with_reducible refine bl_drewN ?_ _)))
  · by_cases d2 : bh < al
    · simp only [d1, d2, if_true, if_false]
      go_enter Tryd.func16, Tryd.ntmps16
      go_wp2_with (first | (go_at_call 58; ((with_reducible refine (H1.out _).mono ?_); rintro e w' ⟨rfl, hb⟩; obtain ⟨hz, hc, hf⟩ := bcl hb (by first | (simp; rfl) | rfl))) | (go_at_call 58; ((with_reducible refine (H2.out _).mono ?_); rintro e w' ⟨rfl, hb⟩; obtain ⟨hz, hc, hf⟩ := bcl hb (by first | (simp; rfl) | rfl))))
      (refine bodyPost_ret (v := .tuple #[.int .i64 1, .int .i64 0]) (by simp only [results, Tryd.results16]; go_simp) rfl ⟨rfl, ?_⟩)
      (repeat (first | (with_reducible exact bl_refl _) | (with_reducible refine bl_drew ?_) | (with_reducible refine bl_alloc ?_ _) | (with_reducible refine bl_set' ?_ ?_; · (first | omega | (simp; done) | (simp; omega))) | (with_reducible refine bl_last (by assumption) ?_) | (with_reducible refine bl_drewN ?_ _)))
    · simp only [d1, d2, if_false]
      go_enter Tryd.func16, Tryd.ntmps16
      go_wp2_with (first | (go_at_call 58; ((with_reducible refine (H1.out _).mono ?_); rintro e w' ⟨rfl, hb⟩; obtain ⟨hz, hc, hf⟩ := bcl hb (by first | (simp; rfl) | rfl))) | (go_at_call 58; ((with_reducible refine (H2.out _).mono ?_); rintro e w' ⟨rfl, hb⟩; obtain ⟨hz, hc, hf⟩ := bcl hb (by first | (simp; rfl) | rfl))))
      (refine bodyPost_ret (v := .tuple #[.int .i64 0, .int .i64 0]) (by simp only [results, Tryd.results16]; go_simp) rfl ⟨rfl, ?_⟩)
      (repeat (first | (with_reducible exact bl_refl _) | (with_reducible refine bl_drew ?_) | (with_reducible refine bl_alloc ?_ _) | (with_reducible refine bl_set' ?_ ?_; · (first | omega | (simp; done) | (simp; omega))) | (with_reducible refine bl_last (by assumption) ?_) | (with_reducible refine bl_drewN ?_ _)))
def faA (s : TS) : Array Value := ((List.range 40).map fun i => Value.int .i64 (s.fa i)).toArray
theorem field_fa (s : TS) (w : World) : (Instr.field 128 (.agg (tabA s)) 1).run Tryd.prog w = .ok (.agg (faA s)) w := by kernel_rfl
theorem index_fa (s : TS) {a : Nat} (h : a < 40) (w : World) : (Instr.index 126 (.agg (faA s)) (.int .i64 (a : Int))).run Tryd.prog w = .ok (.int .i64 (s.fa a)) w := by
  have h2 : (a : Int) < 40 := by omega
  have hg : (faA s)[a]? = some (.int .i64 (s.fa a)) := by simp [faA, h]
  have hI := Tryd.underlying3
  unfold Instr.index
  go_simp
theorem rnd_still {l : List Rd} {s : TS} (R : Nat) (h : ∀ j, j < 2 * l.length → s.go (edAt l j) = false) : ∀ j, j ≤ 2 * l.length → rndK l R s j = { s with la := -1 }
  | 0, _ => rfl
  | j + 1, hj => by
    show (rndK l R s j).relax R (edAt l j) = _
    rw [rnd_still R h j (by omega)]
    unfold TS.relax
    have : ({ s with la := -1 } : TS).go (edAt l j) = false := h j (by omega)
    rw [if_neg (by rw [this]; exact Bool.false_ne_true)]
theorem sR_stop {n : Nat} {l : List Rd} (hl : RdOk n l) {kn : Nat → Bool} {r : Nat} (h : (sR l (ts0 kn) (r + 1)).la < 0) : sR l (ts0 kn) (r + 1 + 1) = sR l (ts0 kn) (r + 1) := by
  have hfe := done_feas hl h
  have hla := (rnd_la hl (r + 1) (sR l (ts0 kn) r) (2 * l.length) (Nat.le_refl _)).1
  have hla' : -1 ≤ (sR l (ts0 kn) (r + 1)).la := hla
  show rndK l (r + 1 + 1) (sR l (ts0 kn) (r + 1)) (2 * l.length) = _
  rw [rnd_still _ (fun j hj => ?_) _ (Nat.le_refl _)]
  · generalize sR l (ts0 kn) (r + 1) = s at *
    obtain ⟨a, b, c, la, d, e, f⟩ := s
    have : la = -1 := by
      simp only at h hla'
      omega
    subst this
    rfl
  · have := hfe j hj
    unfold TS.go
    generalize sR l (ts0 kn) (r + 1) = s at *
    cases hk : s.kn (edAt l j).fr with
    | false => rfl
    | true =>
      obtain ⟨h1, h2⟩ := this hk
      rw [h1, decide_eq_false (by omega)]
      rfl
/-- The table that from returns where sizes agree. -/
def tbF (n : Nat) (l : List Rd) (i : Nat) : TS := sR l (ts0 (updF (fun _ => false) i true)) (n + 2)
theorem done_tb {n : Nat} {l : List Rd} (hl : RdOk n l) {p : Nat → Int} (hp : Feas l p) {i m : Nat} (hm : Done n l (updF (fun _ => false) i true) m) : sR l (ts0 (updF (fun _ => false) i true)) (m + 1) = tbF n l i := by
  have h := done_neg hl hp hm
  have key : ∀ d, sR l (ts0 (updF (fun _ => false) i true)) (m + d + 1) = sR l (ts0 (updF (fun _ => false) i true)) (m + 1) := by
    intro d
    induction d with
    | zero => rfl
    | succ d ih =>
      show sR l _ (m + d + 1 + 1) = _
      rw [sR_stop hl (by rw [ih]; exact h), ih]
  have := key (n + 1 - m)
  have hmn := hm.1
  rw [show m + (n + 1 - m) + 1 = n + 2 by omega] at this
  exact this.symm
theorem from_u {n : Nat} {l : List Rd} (hl : RdOk n l) (hf : ∃ p, Feas l p) (A : Option Addr) (cap i : Nat) (hi : i < n) (w : World) (hr : Rds w w.heap.size A l) :
    Calls Tryd.prog 57 #[.int .i64 (n : Int), .slice A l.length cap, .int .i64 (i : Int)] w (Ret (.agg (tabA (tbF n l i))) w) := by
  obtain ⟨p, hp⟩ := hf
  refine (from_c hl A cap i hi w hr).mono ?_
  rintro e w' ⟨hb, m, hm, rfl⟩
  exact ⟨by rw [done_tb hl hp hm], hb⟩
theorem cont_nil {n : Nat} {l : List Rd} (hl : RdOk n l) (hf : ∃ p, Feas l p) (A : Option Addr) (cap : Nat) (w : World) (hr : Rds w w.heap.size A l) :
    Calls Tryd.prog 56 #[.int .i64 (n : Int), .slice A l.length cap] w (Ret (.slice none 0 0) w) := by
  obtain ⟨p, hp⟩ := hf
  refine (contradiction_c hl A cap w hr).mono ?_
  rintro e w' ⟨hb, ⟨_, rfl⟩ | ⟨c, A', cap', hok, _⟩⟩
  · exact ⟨rfl, hb⟩
  · exact (chain_no hp hok).elim
set_option maxRecDepth 100000 in
set_option maxHeartbeats 8000000 in
theorem Bound_c {n : Nat} {l : List Rd} (hl : RdOk n l) (hf : ∃ p, Feas l p) {a b : Nat} {da db : Int} (ha : a < n) (hb : b < n) (hk : (tbF n l a).kn b = true) (hda : (tbF n l a).fa b = da) (hdb : (tbF n l b).fa a = db)
    (hv : szV (-db) da = true) (A : Option Addr) (cap : Nat) (w : World) (hr : Rds w w.heap.size A l) :
    Calls Tryd.prog 12 #[.int .i64 (n : Int), .slice A l.length cap, .int .i64 (a : Int), .int .i64 (b : Int)] w (Ret (.tuple #[.agg #[.int .i64 (-db), .int .i64 da], .int .i64 0]) w) := by
  have HV := Lib.hid (fun W (hb : Below w.heap.size w W) => RdVal_c hl A cap W (hr.up hb))
  have HC := Lib.hid (fun W (hb : Below w.heap.size w W) => cont_nil hl hf A cap W (hr.up hb))
  have HFA := Lib.hid (fun W (hb : Below w.heap.size w W) => from_u hl hf A cap a ha W (hr.up hb))
  have HFB := Lib.hid (fun W (hq : Below w.heap.size w W) => from_u hl hf A cap b hb W (hr.up hq))
  have hn40 := hl.1.2
  have HZ := Lib.hid (fun w => SzVal_c (-db) da w)
  rw [hv] at HZ
  have hbd : -100000000000000 ≤ db ∧ db ≤ 100000000000000 := by
    unfold szV at hv
    simp only [Bool.and_eq_true, decide_eq_true_eq] at hv
    omega
  have a40 : a < 40 := by omega
  have b40 : b < 40 := by omega
  have ai40 : (a : Int) < 40 := by omega
  have bi40 : (b : Int) < 40 := by omega
  have q1 : decide ((a : Int) < 0) = false := decide_eq_false (by omega)
  have q2 : decide ((b : Int) < 0) = false := decide_eq_false (by omega)
  have q3 : decide ((n : Int) ≤ (a : Int)) = false := decide_eq_false (by omega)
  have q4 : decide ((n : Int) ≤ (b : Int)) = false := decide_eq_false (by omega)
  have hz : Tryd.zeroCells128 = tabA (ts0 fun _ => false) := by kernel_rfl
  clear hl hf hr hv hn40
  generalize tbF n l a = sa at *
  generalize tbF n l b = sb at *
  have hfi := field_fa sb
  have hix := fun w => index_fa sb a40 w
  rw [hdb] at hix
  have HKA := Lib.hid (fun (X : World) (g : Nat) (T : Blk X g 128 (tabA sa)) => (show X.cell? ⟨g, b, none⟩ = some (.bool true) from (T.cell b).trans (by rw [tab_kn sa b40, hk])))
  have HFo := Lib.hid (fun (X : World) (g : Nat) (T : Blk X g 128 (tabA sa)) => (show X.cell? ⟨g, 40 + b, none⟩ = some (.int .i64 da) from (T.cell (40 + b)).trans (by rw [tab_fa sa b40, hda])))
  clear hk hda hdb
  go_enter Tryd.func12, Tryd.ntmps12
  go_upto_region 1 with fail
  refine wp_letter ?_
  intro W1 hW1
  have b1 : Below w.heap.size w W1 := by rw [hW1]; (repeat (first | (with_reducible exact bl_refl _) | (with_reducible refine bl_drew ?_) | (with_reducible refine bl_alloc ?_ _) | (with_reducible refine bl_set' ?_ ?_; · (first | omega | (simp; done) | (simp; omega))) | (with_reducible refine bl_last (by assumption) ?_) | (with_reducible refine bl_drewN ?_ _)))
  have R1 : Blk W1 w.heap.size 35 #[.int .i64 0, .int .i64 0] := by rw [hW1]; exact Blk.new _ _ _
  clear hW1
  go_cut [28] from 12 (fun u W => u = .bool false ∧ Hid (Below w.heap.size w W) ∧ Hid (Blk W w.heap.size 35 #[.int .i64 0, .int .i64 0]))
  case first =>
    as_aux_lemma =>
    rcases Int.lt_trichotomy (a : Int) (b : Int) with h | h | h
    · have h2 : ¬ (b : Int) < (a : Int) := by omega
      have m1 : min (a : Int) (b : Int) = (a : Int) := by omega
      have m2 : max (a : Int) (b : Int) = (b : Int) := by omega
      have m3 : ¬ (n : Int) ≤ (b : Int) := by omega
      go_wp2_with (go_at_call 55; ((with_reducible refine (HV.out _ b1).mono ?_); rintro e w' ⟨rfl, hb⟩; obtain ⟨hz, hc, hf⟩ := bcl hb (by first | (simp; rfl) | rfl)))
      go_meet
      case rel => exact ⟨by first | rfl | (simp only [*]; done) | (simp [*]; done) | (simp; omega), bl_trans b1 hb, R1.below hb R1.lt⟩
    · have hab : a = b := by omega
      subst hab
      go_wp2_with (go_at_call 55; ((with_reducible refine (HV.out _ b1).mono ?_); rintro e w' ⟨rfl, hb⟩; obtain ⟨hz, hc, hf⟩ := bcl hb (by first | (simp; rfl) | rfl)))
      go_meet
      case rel => exact ⟨by first | rfl | (simp only [*]; done) | (simp [*]; done) | (simp; omega), bl_trans b1 hb, R1.below hb R1.lt⟩
    · have h2 : ¬ (a : Int) < (b : Int) := by omega
      have m1 : min (a : Int) (b : Int) = (b : Int) := by omega
      have m2 : max (a : Int) (b : Int) = (a : Int) := by omega
      have m3 : ¬ (n : Int) ≤ (a : Int) := by omega
      go_wp2_with (go_at_call 55; ((with_reducible refine (HV.out _ b1).mono ?_); rintro e w' ⟨rfl, hb⟩; obtain ⟨hz, hc, hf⟩ := bcl hb (by first | (simp; rfl) | rfl)))
      go_meet
      case rel => exact ⟨by first | rfl | (simp only [*]; done) | (simp [*]; done) | (simp; omega), bl_trans b1 hb, R1.below hb R1.lt⟩
  case rest =>
  obtain ⟨rfl, HB1, HR1⟩ := hcut
  clear b1 R1 q1 q2 q3 q4
  go_wp2_with fail
  ((with_reducible refine (HC.out _ HB1.out).mono ?_); rintro e w2 ⟨rfl, hb2⟩)
  have B2 := bl_trans HB1.out hb2
  have R2 := HR1.out.below hb2 HR1.out.lt
  clear hb2
  go_wp2_with fail
  ((with_reducible refine (HFA.out _ B2).mono ?_); rintro e w3 ⟨rfl, hb3⟩)
  have B3 := bl_trans B2 hb3
  have R3 := R2.below hb3 R2.lt
  have T0 : Blk (w3.alloc (.cells Tryd.zeroCells128 128)) w3.heap.size 128 (tabA (ts0 fun _ => false)) := by rw [hz]; exact Blk.new _ _ _
  have hS := storeCells_whole (P := Tryd.prog) (cs := tabA sa) T0 (by rw [tab_size, tab_size]) (tab_one sa)
  have HT0 := Lib.hid (setRow_blk (cs := tabA sa) T0)
  have hw3 := R3.lt
  clear hb3 B2 R2 T0 hz
  go_upto_region 6 with fail
  refine wp_letter ?_
  intro W4 hW4
  have b4 : Below w3.heap.size w3 W4 := by rw [hW4]; exact below_setRow (bl_alloc (bl_refl _) _) (Nat.le_refl _) _
  have T4 : Blk W4 w3.heap.size 128 (tabA sa) := by rw [hW4]; exact HT0.out
  have R4 := R3.below b4 hw3
  have B4 := bl_trans B3 b4
  have hn : w.heap.size ≠ w3.heap.size := by omega
  clear hW4 hS HT0 B3 R3 hw3 b4
  have c1 := HKA.out _ _ T4
  have zT := T4.lt
  have HT4 := Lib.hid T4
  have HR4 := Lib.hid R4
  generalize w3.heap.size = g at *
  clear T4 R4
  go_wp2
  have c2 := HFo.out _ _ HT4.out
  (refine wp_region_alloc [0,1,2,3,4,5,6,7,8,9,10,11,12] [] [14] 13 35 #[.int .i64 0, .int .i64 0] _ (by kernel_rfl) (by kernel_rfl) (by kernel_rfl) (by rfl) (by repeat (first | (with_reducible refine panic_then ?_) | (with_reducible refine panic_block ?_) | (with_reducible exact panic_body) | exact panic_body | refine panic_then ?_ | refine panic_block ?_)) rfl (fun _ _ => by go_simp) ?_
   simp only [pickI, pick, List.getElem?_cons_succ, List.getElem?_cons_zero]
   iterate 13 (first
     | (refine headZ_val (by rfl) (by first | exact wanted_free rfl | rfl) ?_
        apply Exists.intro
        refine ⟨fun X hX => ?_, ?_⟩
        · (obtain ⟨qz, qc, qf⟩ := bcl hX.out (by first | (simp; rfl) | rfl)
           go_simp
           first | done | (go_at_call 57; ((with_reducible refine (HFB.out _ (bl_trans B4 hX.out)).mono ?_); rintro e w2 ⟨rfl, hb2⟩; exact ⟨rfl, hb2⟩)) | rfl | exact ⟨rfl, rfl⟩)
        simp only [Act.put, List.setIfInBounds_toArray, List.set_cons_zero, List.set_cons_succ])
     | (refine headZ_pure (by rfl) (by first | exact wanted_free rfl | rfl) ?_
        apply Exists.intro
        refine ⟨fun X => ?_, ?_⟩
        · (go_simp
           first | done | rfl)
        simp only [Act.put, List.setIfInBounds_toArray, List.set_cons_zero, List.set_cons_succ])
     | (refine headZ_pass (by rfl) ?_
        simp only [Act.put, List.setIfInBounds_toArray, List.set_cons_zero, List.set_cons_succ]))
   refine headZ_nil ?_
   intro w' Bq hw' hBq hBk
   have hb := hw'.out
   clear hw'
   try simp only [List.setIfInBounds_toArray, List.set_cons_zero, List.set_cons_succ]
   obtain ⟨hz, hc, hf⟩ := bcl hb (by first | (simp; rfl) | rfl))
  have u0 := hBk.cell 0
  have u1 := hBk.cell 1
  have v0 := hBk.frozen 0
  have v1 := hBk.frozen 1
  have vz := hBk.lt
  simp only [List.getElem?_toArray, List.getElem?_cons_zero, List.getElem?_cons_succ] at u0 u1
  have B5 := bl_trans B4 hb
  have R5 := HR4.out.below hb HR4.out.lt
  have g0 : w.heap.size ≤ Bq := Nat.le_trans B4.size hBq
  have g1 : w.heap.size ≠ Bq := by have := HR4.out.lt; omega
  clear hz hc hf hb c1 c2 zT HT4 HR4 B4
  go_upto_region 9 with fail
  refine wp_letter ?_
  intro W6 hW6
  have B6 : Below w.heap.size w W6 := by rw [hW6]; exact bl_set' g0 (bl_set' g0 B5)
  have R6 : Blk W6 w.heap.size 35 #[.int .i64 0, .int .i64 0] := by rw [hW6]; exact (R5.far g1 _).far g1 _
  have S6 : Blk W6 Bq 35 #[.int .i64 (-db), .int .i64 da] := by rw [hW6]; exact (hBk.set_ 0 _).set_ 1 _
  clear hW6 B5 R5 u0 u1 v0 v1 vz hBk
  have c1 := S6.cell 0
  have c2 := S6.cell 1
  have zS := S6.lt
  simp only [List.getElem?_toArray, List.getElem?_cons_zero, List.getElem?_cons_succ] at c1 c2
  have HR6 := Lib.hid R6
  have HS6 := Lib.hid S6
  clear R6 S6
  go_wp2_with fail
  ((with_reducible refine (HZ.out _).mono ?_); rintro e w7 ⟨rfl, hb7⟩)
  have R7 := HR6.out.below hb7 HR6.out.lt
  have S7 := HS6.out.below hb7 HS6.out.lt
  have B7 := bl_trans B6 hb7
  clear c1 c2 zS hb7 B6
  have c1 := S7.cell 0
  have c2 := S7.cell 1
  have zS := S7.lt
  have r1 := R7.cell 0
  have r2 := R7.cell 1
  have f1 := R7.frozen 0
  have f2 := R7.frozen 1
  have zR := R7.lt
  simp only [List.getElem?_toArray, List.getElem?_cons_zero, List.getElem?_cons_succ] at c1 c2 r1 r2
  clear S7 R7
  go_wp2
  (refine bodyPost_ret (v := .tuple #[.agg #[.int .i64 (-db), .int .i64 da], .int .i64 0]) (by simp only [results, Tryd.results12]; go_simp) rfl ⟨rfl, ?_⟩)
  exact bl_set' (Nat.le_refl _) (bl_set' (Nat.le_refl _) B7)
end Go.Proofs.YtehifkdfbiebfaaDoor
namespace Go.Proofs.YtehifkdfbiebfaaDoor
open Go Go.RowKit Go.Shelf

theorem infoBool' : (Tryd.prog.info? 4).map (fun i => (i.zero, i.size, i.bytes)) = some (some (.bool false), 1, 1) := by kernel_rfl
theorem make_boolsR (N : Nat) (h : N ≤ 1000000) (W : World) : (Instr.makeSlice 124 (.int .i64 (N : Int)) (.int .i64 (N : Int))).run Tryd.prog W = .ok (.slice (some ⟨W.heap.size, 0, none⟩) N N) (W.alloc (.cells (Array.replicate N (.bool false)) 4)) := by
  obtain ⟨i, hi, hz0, hz1, hz2⟩ := info_parts infoBool'
  have := run_make (P := Tryd.prog) (w := W) 124 4 i (.bool false) Tryd.underlying124 hi hz0 .i64 .i64 (N : Int) (N : Int) (by omega) (by omega) (by rw [hz2]; omega) (by omega)
  rw [this, hz1]
  simp only [Int.toNat_natCast, Nat.mul_one]
  rw [show (Value.bool false).cells = #[.bool false] from rfl, made_one]

def arrF (n : Nat) (f : Nat → Value) : Array Value := ((List.range n).map f).toArray
theorem arrF_get {n : Nat} (f : Nat → Value) {i : Nat} (h : i < n) : (arrF n f)[i]? = some (f i) := by simp [arrF, h]
theorem arrF_set {n : Nat} (f : Nat → Value) (i : Nat) (v : Value) : (arrF n f).setIfInBounds i v = arrF n (updF f i v) := by
  apply Array.ext
  · simp [arrF]
  · intro j h1 h2
    have hj : j < n := by simpa [arrF] using h2
    rw [Array.getElem_setIfInBounds (by simpa [arrF] using hj)]
    simp only [arrF, List.getElem_toArray, List.getElem_map, List.getElem_range]
    unfold updF
    by_cases e : i = j
    · rw [if_pos e, if_pos e.symm]
    · rw [if_neg e, if_neg (fun q => e q.symm)]
theorem arrF_rep (n : Nat) (v : Value) : Array.replicate n v = arrF n (fun _ => v) := by
  apply Array.ext
  · simp [arrF]
  · intro j h1 h2
    simp [arrF]
def AllB (f : Nat → Value) : Prop := ∀ i, ∃ b : Bool, f i = .bool b
theorem AllB.set {f : Nat → Value} (h : AllB f) (i : Nat) : AllB (updF f i (.bool true)) := fun j => by
  unfold updF
  split
  · exact ⟨true, rfl⟩
  · exact h j
set_option maxRecDepth 100000 in
set_option maxHeartbeats 8000000 in
theorem Solve_ok {n : Nat} {l : List Rd} (hl : RdOk n l) (hf : ∃ p, Feas l p) (A : Option Addr) (cap : Nat) (w : World) (hr : Rds w w.heap.size A l) :
    Calls Tryd.prog 11 #[.int .i64 (n : Int), .slice A l.length cap] w (fun e w' => Below w.heap.size w w' ∧ ∃ x : Nat, e = .returned (.tuple #[.slice (some ⟨x, 0, none⟩) n n, .slice none 0 0, .int .i64 0])) := by
  have HV := Lib.hid (RdVal_c hl A cap w hr)
  have HC := Lib.hid (fun W (hb : Below w.heap.size w W) => cont_nil hl hf A cap W (hr.up hb))
  have HF := Lib.hid (fun i (hi : i < n) W (hb : Below w.heap.size w W) => from_u hl hf A cap i hi W (hr.up hb))
  have hn40 := hl.1.2
  have hn1 := hl.1.1
  have hmi := make_ints n (by omega)
  have hmb := make_boolsR n (by omega)
  have hzc : Tryd.zeroCells128 = tabA (ts0 fun _ => false) := by kernel_rfl
  clear hl hf hr
  go_enter Tryd.func11, Tryd.ntmps11
  go_upto_region 6 with (first | (go_at_call 55; ((with_reducible refine (HV.out).mono ?_); rintro e w' ⟨rfl, hb⟩; obtain ⟨hz, hc, hf⟩ := bcl hb (by first | (simp; rfl) | rfl))) | (go_at_call 56; ((with_reducible refine (HC.out _ hb).mono ?_); rintro e w2 ⟨rfl, hb2⟩)))
  have B2 := bl_trans hb hb2
  clear hb hb2 hz hc hf
  go_cut [8, 9] from 13 (fun u v W => ∃ x y : Nat, u = .slice (some ⟨x, 0, none⟩) n n ∧ v = .slice (some ⟨y, 0, none⟩) n n ∧ w.heap.size ≤ x ∧ w.heap.size ≤ y ∧ x ≠ y ∧ Hid (Below w.heap.size w W) ∧ Hid (Blk W x 3 (arrF n (fun _ => .int .i64 0))) ∧ Hid (Blk W y 4 (arrF n (fun _ => .bool false))))
  case first =>
    as_aux_lemma =>
    go_region
    all_goals
      have hw2 := B2.size
      go_wp2
      go_meet
      case rel =>
        refine ⟨_, _, rfl, rfl, by (first | (simp; omega) | omega), by (first | (simp; omega) | omega), by (first | (simp; done) | (simp; omega) | omega), ?_, ?_, ?_⟩
        · exact Lib.hid (by (repeat (first | (with_reducible exact bl_refl _) | (with_reducible refine bl_drew ?_) | (with_reducible refine bl_alloc ?_ _) | (with_reducible refine bl_set' ?_ ?_; · (first | omega | (simp; done) | (simp; omega))) | (with_reducible refine bl_last (by assumption) ?_) | (with_reducible refine bl_drewN ?_ _))))
        · rw [← arrF_rep]
          exact Lib.hid (by first | exact blkAt _ _ _ _ (by simp) | exact (blkAt _ _ _ _ (by simp)).alloc _)
        · rw [← arrF_rep]
          exact Lib.hid (by first | exact blkAt _ _ _ _ (by simp) | exact (blkAt _ _ _ _ (by simp)).alloc _)
  case rest =>
  obtain ⟨x, y, rfl, rfl, hx, hy, hxy, HB0, HX0, HY0⟩ := hcut
  clear B2 hmi hmb
  go_wp2
  go_loopw [28] (fun i wr => ∃ (k : Nat) (sf df : Nat → Value), k ≤ n ∧ i = .int .i64 (k : Int) ∧ Hid (Below w.heap.size w wr) ∧ Hid (Blk wr x 3 (arrF n sf)) ∧ Hid (Blk wr y 4 (arrF n df)) ∧ Hid (AllB df)) (fun i _ => n - (intOf i).toNat)
  case atStart => exact ⟨0, _, _, Nat.zero_le _, rfl, HB0, HX0, HY0, Lib.hid (fun i => ⟨false, rfl⟩)⟩
  case round =>
    obtain ⟨k, sf, df, hk, rfl, HB, HX, HY, HA⟩ := hrel
    by_cases hlt : k < n
    · have hki : (k : Int) < (n : Int) := by omega
      have w1 : IntKind.i64.wrap ((k : Int) + 1) = (k : Int) + 1 := by rw [IntKind.wrap_i64]; omega
      obtain ⟨b, hb⟩ := HA.out k
      have c1 := (HY.out.cell k).trans (arrF_get df hlt)
      rw [hb] at c1
      have zy := HY.out.lt
      clear hb
      cases b
      · go_wp2_with fail
        ((with_reducible refine (HF.out k hlt _ HB.out).mono ?_); rintro e w3 ⟨rfl, hb3⟩)
        have B3 := bl_trans HB.out hb3
        have X3 := HX.out.below hb3 HX.out.lt
        have Y3 := HY.out.below hb3 HY.out.lt
        have T0 : Blk (w3.alloc (.cells (tabA (ts0 fun _ => false)) 128)) w3.heap.size 128 (tabA (ts0 fun _ => false)) := Blk.new _ _ _
        have hS := storeCells_whole (P := Tryd.prog) (cs := tabA (tbF n l k)) T0 (by rw [tab_size, tab_size]) (tab_one _)
        have HT0 := Lib.hid (setRow_blk (cs := tabA (tbF n l k)) T0)
        have hw3 := B3.size
        have hx3 := X3.lt
        have hy3 := Y3.lt
        generalize tbF n l k = s at *
        clear hb3 c1 zy HB HX HY T0
        go_upto_region 12 with fail
        refine wp_letter ?_
        intro W4 hW4
        have b4 : Below w3.heap.size w3 W4 := by rw [hW4]; exact below_setRow (bl_alloc (bl_refl _) _) (Nat.le_refl _) _
        have T4 : Blk W4 w3.heap.size 128 (tabA s) := by rw [hW4]; exact HT0.out
        have HT4 := Lib.hid T4
        have HX4 := Lib.hid (X3.below b4 hx3)
        have HY4 := Lib.hid (Y3.below b4 hy3)
        have HB4 := Lib.hid (bl_trans B3 b4)
        have nx : x ≠ w3.heap.size := by omega
        have ny : y ≠ w3.heap.size := by omega
        have gg : w.heap.size ≤ w3.heap.size := by omega
        clear hW4 hS HT0 b4 T4 B3 X3 Y3 hw3 hx3 hy3
        generalize w3.heap.size = g at *
        go_wp2
        go_loopw [40] (fun i wr => ∃ (j : Nat) (sf df : Nat → Value), j ≤ n ∧ i = .int .i64 (j : Int) ∧ Hid (Below w.heap.size w wr) ∧ Hid (Blk wr x 3 (arrF n sf)) ∧ Hid (Blk wr y 4 (arrF n df)) ∧ Hid (Blk wr g 128 (tabA s)) ∧ Hid (AllB df)) (fun i _ => n - (intOf i).toNat)
        case atStart => exact ⟨0, _, _, Nat.zero_le _, rfl, HB4, HX4, HY4, HT4, HA⟩
        case round =>
          obtain ⟨j, sf, df, hj, rfl, HB, HX, HY, HT, HA⟩ := hrel
          by_cases hlt : j < n
          · have hji : (j : Int) < (n : Int) := by omega
            have j40 : j < 40 := by omega
            have ji40 : (j : Int) < 40 := by omega
            have w2 : IntKind.i64.wrap ((j : Int) + 1) = (j : Int) + 1 := by rw [IntKind.wrap_i64]; omega
            have c1 := (HT.out.cell j).trans (tab_kn s j40)
            have c2 := (HT.out.cell (40 + j)).trans (tab_fa s j40)
            have zt := HT.out.lt
            have zx := HX.out.lt
            have zy := HY.out.lt
            have d1 := (HX.out.cell j).trans (arrF_get sf hlt)
            have d2 := (HY.out.cell j).trans (arrF_get df hlt)
            have f1 := HX.out.frozen j
            have f2 := HY.out.frozen j
            cases hkn : s.kn j with
            | false =>
              rw [hkn] at c1
              go_wp2
              go_roundw
              case rel => exact ⟨j + 1, _, _, by omega, by go_num, HB, HX, HY, HT, HA⟩
              case measure => simp [intOf]; omega
            | true =>
              rw [hkn] at c1
              go_wp2
              go_roundw
              case rel =>
                refine ⟨j + 1, _, _, by omega, by go_num, Lib.hid (bl_set' hy (bl_set' hx HB.out)), Lib.hid ((arrF_set sf j _ ▸ HX.out.set_ j _).far hxy _), Lib.hid (arrF_set df j _ ▸ ((HY.out.far (fun e => hxy e.symm) _).set_ j _)), Lib.hid ((HT.out.far (fun e => nx e.symm) _).far (fun e => ny e.symm) _), Lib.hid (HA.out.set j)⟩
              case measure => simp [intOf]; omega
          · obtain rfl : j = n := by omega
            go_wp2
            go_roundw
            case rel => exact ⟨k + 1, _, _, by omega, by go_num, HB, HX, HY, HA⟩
            case measure => simp [intOf]; omega
      · go_wp2
        go_roundw
        case rel => exact ⟨k + 1, _, _, by omega, by go_num, HB, HX, HY, HA⟩
        case measure => simp [intOf]; omega
    · obtain rfl : k = n := by omega
      have hb9 := HB.out
      go_wp2
      refine bodyPost_ret (v := .tuple #[.slice (some ⟨x, 0, none⟩) k k, .slice none 0 0, .int .i64 0]) (by simp only [results, Tryd.results11]; go_simp) rfl ⟨hb9, x, rfl⟩
end Go.Proofs.YtehifkdfbiebfaaDoor
namespace Go.Proofs.YtehifkdfbiebfaaDoor
open Go Go.RowKit Go.Shelf

theorem st_bd (l : List Rd) {j : Nat} (h : j < 2 * l.length) : (edAt l j).st ≠ 0 ∧ -(l.length : Int) ≤ (edAt l j).st ∧ (edAt l j).st ≤ l.length := by
  refine ⟨st_ne l j, ?_⟩
  unfold edAt
  split
  · show -(l.length : Int) ≤ ((j / 2 : Nat) : Int) + 1 ∧ ((j / 2 : Nat) : Int) + 1 ≤ l.length; omega
  · show -(l.length : Int) ≤ -((j / 2 : Nat) : Int) - 1 ∧ -((j / 2 : Nat) : Int) - 1 ≤ l.length; omega
def sumT (l : List Rd) (c : List Int) (i : Nat) : Int := sumC l (c.take i)
theorem sumT_succ (l : List Rd) (c : List Int) {i : Nat} (h : i < c.length) : sumT l c (i + 1) = sumT l c i + (edOf l (c.getD i 0)).mo := by
  unfold sumT
  have e : c.take (i + 1) = c.take i ++ [c.getD i 0] := by
    rw [List.take_add_one, List.getD_eq_getElem?_getD, List.getElem?_eq_getElem h]
    rfl
  rw [e]
  unfold sumC
  rw [List.map_append, List.sum_append]
  simp
theorem sumT_bd {n : Nat} {l : List Rd} (hl : RdOk n l) {c : List Int} (h : ChainOk n l c) : ∀ i, i ≤ c.length → -(i * 100000000000000) ≤ sumT l c i ∧ sumT l c i ≤ i * 100000000000000
  | 0, _ => by simp [sumT, sumC]
  | i + 1, hi => by
    have ih := sumT_bd hl h i (by omega)
    obtain ⟨_, _, _, b1, b2⟩ := ed_ok hl (h.ed i (by omega)).1
    rw [sumT_succ l c (by omega)]
    have b1' : -100000000000000 ≤ (edOf l (c.getD i 0)).mo := b1
    have b2' : (edOf l (c.getD i 0)).mo ≤ 100000000000000 := b2
    push_cast
    omega
set_option maxRecDepth 100000 in
set_option maxHeartbeats 8000000 in
theorem Refutes_c {n : Nat} {l : List Rd} (hl : RdOk n l) {c : List Int} (h : ChainOk n l c) (A : Option Addr) (cap : Nat) (Ac : Option Addr) (capc : Nat) (w : World) (hr : Rds w w.heap.size A l) (hc : IntsR w w.heap.size Ac c) :
    Calls Tryd.prog 17 #[.int .i64 (n : Int), .slice A l.length cap, .slice Ac c.length capc] w (Ret (.tuple #[.bool true, .int .i64 0]) w) := by
  have HV := Lib.hid (RdVal_c hl A cap w hr)
  have HFd := Lib.hid (fun k (hk : k < c.length) W (hb : Below w.heap.size w W) => by
    have := find_c hl (h.ed k hk).1 A cap W (hr.up hb)
    have e : (edAt l (edIx (c.getD k 0))).st = c.getD k 0 := (h.ed k hk).2
    rw [e] at this
    exact this)
  have HBd := Lib.hid (fun k (hk : k < c.length) => by
    have := st_bd l (h.ed k hk).1
    have e : (edAt l (edIx (c.getD k 0))).st = c.getD k 0 := (h.ed k hk).2
    rw [e] at this
    exact this)
  have HNx := Lib.hid (fun k (hk : k < c.length) => h.nx k hk)
  have HSb := Lib.hid (sumT_bd hl h)
  have HSs := Lib.hid (fun i (hi : i < c.length) => sumT_succ l c hi)
  have hneg : sumT l c c.length < 0 := by unfold sumT; rw [List.take_length]; exact h.neg
  have HNeg := Lib.hid hneg
  have hm0 := h.pos
  have hm1 := h.len
  have hn40 := hl.1.2
  have h200 := hl.2.1
  have HCh := Lib.hid (fun k (hk : k < c.length) => hc (by omega))
  have HCi := Lib.hid hc
  have HGet : Hid (∀ k, k < c.length → c[k]? = some (c.getD k 0)) := Lib.hid (fun k hk => by rw [List.getD_eq_getElem?_getD, List.getElem?_eq_getElem hk]; rfl)
  clear hl h hr hc hneg HCh
  obtain ⟨bc, oc, rfl, hbc, hcc⟩ := HCi.out hm0
  have HCC := Lib.hid hcc
  clear hcc HCi
  generalize hM : c.length = m at *
  generalize hLL : l.length = L at *
  have d1 : ((m : Int) == 0) = false := by rw [beq_eq_false_iff_ne]; omega
  have d2 : decide ((40 : Int) < (m : Int)) = false := decide_eq_false (by omega)
  clear hM
  have hfd : ∀ (a b c : Value) (w : World), (Instr.field 137 (.agg #[a, b, c]) 0).run Tryd.prog w = .ok a w := fun _ _ _ _ => by kernel_rfl
  go_enter Tryd.func17, Tryd.ntmps17
  go_wp2_with (go_at_call 55; ((with_reducible refine (HV.out).mono ?_); rintro e w' ⟨rfl, hb⟩; obtain ⟨hz, hc, hf⟩ := bcl hb (by first | (simp; rfl) | rfl)))
  have HB0 := Lib.hid hb
  have hs0 : sumT l c 0 = 0 := rfl
  clear hb hz hc hf d1 d2
  go_loopw [8, 29] (fun s i wr => ∃ k : Nat, k ≤ m ∧ i = .int .i64 (k : Int) ∧ s = .int .i64 (sumT l c k) ∧ Hid (Below w.heap.size w wr)) (fun _ i _ => m - (intOf i).toNat)
  case atStart => exact ⟨0, Nat.zero_le _, rfl, by rw [hs0], HB0⟩
  case round =>
    obtain ⟨k, hk, rfl, rfl, HB⟩ := hrel
    by_cases hlt : k < m
    · have hki : (k : Int) < (m : Int) := by omega
      have w1 : IntKind.i64.wrap ((k : Int) + 1) = (k : Int) + 1 := by rw [IntKind.wrap_i64]; omega
      have hq : (k + 1) % m < m := Nat.mod_lt _ hm0
      have w2 : ((k : Int) + 1).tmod (m : Int) = (((k + 1) % m : Nat) : Int) := by
        rw [Int.tmod_eq_emod_of_nonneg (by omega)]
        simp
      have hx := HSs.out k hlt
      have hsb := HSb.out k (by omega)
      have hsb2 := HSb.out (k + 1) (by omega)
      have hnx := HNx.out k hlt
      have HF1 := Lib.hid (HFd.out k hlt)
      have HF2 := Lib.hid (HFd.out ((k + 1) % m) hq)
      obtain ⟨e1, e2, e3⟩ := HBd.out k hlt
      obtain ⟨e4, e5, e6⟩ := HBd.out ((k + 1) % m) hq
      have g1 := (HB.out.cell (p := ⟨bc, oc + k, none⟩) hbc).trans (HCC.out k _ (HGet.out k hlt))
      have g2 := (HB.out.cell (p := ⟨bc, oc + (k + 1) % m, none⟩) hbc).trans (HCC.out _ _ (HGet.out _ hq))
      have zb : bc < wr.heap.size := by have := HB.out.size; omega
      have hmi : ¬ ((m : Int) = 0) := by omega
      have hqi : (((k + 1) % m : Nat) : Int) < (m : Int) := by omega
      generalize (k + 1) % m = q at *
      generalize c.getD k 0 = s1 at *
      generalize c.getD q 0 = s2 at *
      generalize sumT l c k = sm at *
      rw [hx] at hsb2
      have w3 : IntKind.i64.wrap (sm + (edOf l s1).mo) = sm + (edOf l s1).mo := by rw [IntKind.wrap_i64]; omega
      have w4 : IntKind.i64.wrap (-(L : Int)) = -(L : Int) := by rw [IntKind.wrap_i64]; omega
      have q1 : (s1 == 0) = false := by rw [beq_eq_false_iff_ne]; exact e1
      have q2 : decide (s1 < -(L : Int)) = false := decide_eq_false (by omega)
      have q3 : decide ((L : Int) < s1) = false := decide_eq_false (by omega)
      have q4 : (s2 == 0) = false := by rw [beq_eq_false_iff_ne]; exact e4
      have q5 : decide (s2 < -(L : Int)) = false := decide_eq_false (by omega)
      have q6 : decide ((L : Int) < s2) = false := decide_eq_false (by omega)
      have HSx := Lib.hid hx
      have HE := Lib.hid hnx
      clear hx hnx hsb hsb2 e1 e2 e3 e4 e5 e6
      go_wp2
      refine wp_letter ?_
      intro W5 hW5
      have b5 : Below wr.heap.size wr W5 := by rw [hW5]; (repeat (first | (with_reducible exact bl_refl _) | (with_reducible refine bl_drew ?_) | (with_reducible refine bl_alloc ?_ _) | (with_reducible refine bl_set' ?_ ?_; · (first | omega | (simp; done) | (simp; omega))) | (with_reducible refine bl_last (by assumption) ?_) | (with_reducible refine bl_drewN ?_ _)))
      have P5 : Blk W5 wr.heap.size 3 #[.int .i64 s1, .int .i64 s2] := by
        rw [hW5]
        (repeat (first | (with_reducible assumption) | (with_reducible apply Blk.new) | (with_reducible exact blkAt _ _ _ _ (by simp; done)) | (with_reducible apply blk_st2) | (with_reducible apply Blk.alloc)))
      have c0 := P5.cell 0
      have c1 := P5.cell 1
      have z5 := P5.lt
      simp only [List.getElem?_toArray, List.getElem?_cons_zero, List.getElem?_cons_succ] at c0 c1
      have HB5 := Lib.hid (bl_trans HB.out b5)
      clear hW5 b5 P5 g1 g2 zb
      go_loopw [46] (fun i wx => ∃ t : Nat, t ≤ 2 ∧ i = .int .i64 (t : Int) ∧ wx = W5) (fun i _ => 2 - (intOf i).toNat)
      case atStart => exact ⟨0, by omega, rfl, rfl⟩
      case round =>
        obtain ⟨t, ht, rfl, rfl⟩ := hrel
        rcases (show t = 0 ∨ t = 1 ∨ t = 2 by omega) with rfl | rfl | rfl
        · go_wp2
          go_roundw
          case rel => exact ⟨1, by omega, rfl, trivial⟩
          case measure => simp [intOf]
        · go_wp2
          go_roundw
          case rel => exact ⟨2, by omega, rfl, trivial⟩
          case measure => simp [intOf]
        · go_wp2_with fail
          ((with_reducible refine (HF1.out _ HB5.out).mono ?_); rintro e w6 ⟨rfl, hb6⟩)
          have HB6 := Lib.hid (bl_trans HB5.out hb6)
          have hw6 := HB6.out.size
          unfold Ed.val
          clear hb6 c0 c1 z5 q1 q2 q3 q4 q5 q6
          go_upto_region 17 with fail
          refine wp_letter ?_
          intro W7 hW7
          have b7 : Below w6.heap.size w6 W7 := by rw [hW7]; (repeat (first | (with_reducible exact bl_refl _) | (with_reducible refine bl_drew ?_) | (with_reducible refine bl_alloc ?_ _) | (with_reducible refine bl_set' ?_ ?_; · (first | omega | (simp; done) | (simp; omega))) | (with_reducible refine bl_last (by assumption) ?_) | (with_reducible refine bl_drewN ?_ _)))
          have E7 : Blk W7 w6.heap.size 137 #[.int .i64 ((edAt l (edIx s1)).fr : Int), .int .i64 ((edAt l (edIx s1)).to : Int), .int .i64 (edAt l (edIx s1)).mo] := by
            rw [hW7]
            (repeat (first | (with_reducible assumption) | (with_reducible apply Blk.new) | (with_reducible exact blkAt _ _ _ _ (by simp; done)) | (with_reducible apply Blk.alloc)))
          have HB7 := Lib.hid (bl_trans HB6.out b7)
          have e1 := HE.out
          have e2 : (edOf l s1).to = (edAt l (edIx s1)).to := rfl
          have e3 : (edOf l s2).fr = (edAt l (edIx s2)).fr := rfl
          have e4 : (edOf l s1).mo = (edAt l (edIx s1)).mo := rfl
          rw [e4] at w3 HSx
          have hne : (((edAt l (edIx s1)).to : Int) != ((edAt l (edIx s2)).fr : Int)) = false := by rw [← e2, ← e3, e1]; simp
          clear hW7 b7 e1 e2 e3 e4 HE
          generalize (edAt l (edIx s1)).fr = a1 at *
          generalize (edAt l (edIx s1)).to = a2 at *
          generalize (edAt l (edIx s1)).mo = a3 at *
          have HF3 := Lib.hid (fun W hb => HF2.out W hb)
          unfold Ed.val at HF3
          generalize (edAt l (edIx s2)).fr = b1 at *
          generalize (edAt l (edIx s2)).to = b2 at *
          generalize (edAt l (edIx s2)).mo = b3 at *
          have c1 := E7.cell 1
          have z7 := E7.lt
          simp only [List.getElem?_toArray, List.getElem?_cons_zero, List.getElem?_cons_succ] at c1
          have HE7 := Lib.hid E7
          clear E7 HF2
          (refine wp_region_bl [0,1,2,3,4,5,6] [] (by kernel_rfl) (by kernel_rfl) (by rfl) ?_
           simp only [pickI, pick, List.getElem?_cons_succ, List.getElem?_cons_zero]
           iterate 7 (first
             | (refine head_val (by rfl) (by first | exact wanted_free rfl | rfl) ?_
                apply Exists.intro
                refine ⟨fun X hX => ?_, ?_⟩
                · (obtain ⟨qz, qc, qf⟩ := bcl hX.out (by first | (simp; rfl) | rfl)
                   go_simp
                   first | done | (go_at_call 62; ((with_reducible refine (HF3.out _ (bl_trans HB7.out hX.out)).mono ?_); rintro e w2 ⟨rfl, hb2⟩; exact ⟨rfl, hX.trans hb2⟩)) | rfl | exact ⟨rfl, rfl⟩)
                simp only [Act.put, List.setIfInBounds_toArray, List.set_cons_zero, List.set_cons_succ])
             | (refine head_pass (by rfl) ?_
                simp only [Act.put, List.setIfInBounds_toArray, List.set_cons_zero, List.set_cons_succ]))
           refine head_nil ?_
           intro w' hw'
           have hb := hw'.out
           clear hw'
           obtain ⟨hz, hc, hf⟩ := bcl hb (by first | (simp; rfl) | rfl))
          have E8 := HE7.out.below hb HE7.out.lt
          have HB8 := Lib.hid (bl_trans HB7.out hb)
          clear c1 z7 hz hc hf hb
          have c2 := E8.cell 2
          have z8 := E8.lt
          simp only [List.getElem?_toArray, List.getElem?_cons_zero, List.getElem?_cons_succ] at c2
          clear E8
          go_wp2
          go_roundw
          case rel => exact ⟨k + 1, by omega, by go_num, by rw [HSx.out], HB8⟩
          case measure => simp [intOf]; omega
    · obtain rfl : k = m := by omega
      have hb9 := HB.out
      have q1 : decide (sumT l c k < 0) = true := decide_eq_true HNeg.out
      go_wp2
      (refine bodyPost_ret (v := .tuple #[.bool true, .int .i64 0]) (by simp only [results, Tryd.results17]; go_simp) rfl ⟨rfl, ?_⟩)
      exact hb9
end Go.Proofs.YtehifkdfbiebfaaDoor
