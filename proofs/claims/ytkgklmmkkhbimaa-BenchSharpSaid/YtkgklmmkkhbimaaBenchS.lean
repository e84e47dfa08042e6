/- Bench: Suspects. -/
import Derived.Test.YtkgklmmkkhbimaaBenchT
import Derived.Test.YtkgklmmkkhbimaaRegionIn
namespace Go.Proofs.Ytkgklmmkkhbimaa
open Go Go.RowKit Go.Shelf
attribute [local go_sem] Oper.semAt_some

set_option maxRecDepth 100000 in
set_option maxHeartbeats 4000000 in
theorem Susp_c (n : Int) (l : List Bt) (cs : List (Int × Int)) (fs : List Bool) (A Ac Af : Option Addr) (cap capc capf : Nat) (w : World) (hl : Lst w w.heap.size A l) (hcs : ChkR w w.heap.size Ac cs) (hfs : BoolsR w w.heap.size Af fs)
    (hlen : l.length ≤ 9223372036854775807) (hlc : cs.length ≤ 9223372036854775807) (hlf : fs.length ≤ 9223372036854775807) :
    Calls Try.prog 25 #[.int .i64 n, .slice A l.length cap, .slice Ac cs.length capc, .slice Af fs.length capf] w (SusP n l cs fs w) := by
  have hmf : ∀ (fn : Fn) (first cap : Array Value) (w : World), (Instr.makeFunc fn first cap).run Try.prog w = .ok (.func fn first cap) w := fun _ _ _ _ => rfl
  have HN := Lib.hid (newPlan_c n l A cap w hl hlen)
  have HL := Lib.hid hl
  have HC := Lib.hid hcs
  have HF := Lib.hid hfs
  clear hl hcs hfs
  generalize hLL : l.length = L at *
  generalize hCC : cs.length = C at *
  generalize hFF : fs.length = M at *
  have HLL := Lib.hid hLL
  have HCC := Lib.hid hCC
  have HFF := Lib.hid hFF
  clear hLL hCC hFF
  refine calls_of_marks Try.func25 rfl ?_
  simp only [Try.ntmps25, List.size_toArray, List.length_cons, List.length_nil, Nat.reduceAdd, Nat.reduceSub, Array.replicate_succ, Array.replicate_zero, List.push_toArray, List.append_toArray, List.nil_append, List.cons_append]
  go_wp2_with fail
  ((with_reducible refine (HN.out).mono ?_); rintro e w1 ⟨hb1, ⟨hv, rfl⟩ | ⟨hv, rfl, hs1⟩⟩)
  · have hp : susG n l cs fs = false := by simp [susG, hv]
    have HP := Lib.hid hp
    clear hv hp
    go_wp2
    refine leaves_marks (B := w.heap.size) [] _ trivial (by simp) (fun w' hb _ => ⟨.tuple #[.slice none 0 0, .int .i64 1], by simp only [results, Try.results25]; go_simp, ?_, Or.inl ⟨HP.out, rfl⟩⟩)
    refine Below.trans ?_ hb
    (repeat (first | (with_reducible exact bl_refl _) | (with_reducible refine bl_drew ?_) | (with_reducible refine bl_alloc ?_ _) | (with_reducible refine bl_set' ?_ ?_; · (first | omega | (simp; done) | (simp; omega))) | (with_reducible refine bl_last (by assumption) ?_) | (with_reducible refine bl_drewN ?_ _)))
  by_cases hcf : ¬ C = M ∨ (C = M ∧ 200 < C)
  · have hp : susG n l cs fs = false := by
      have h1 := HCC.out
      have h2 := HFF.out
      unfold susG
      rw [decide_eq_false (by omega)]
      simp
    have HP := Lib.hid hp
    clear hv hs1 hp
    rcases hcf with h1 | ⟨h1, h2⟩
    · have h1' : ((C : Int) != (M : Int)) = true := by simp; omega
      clear h1
      go_wp2
      refine leaves_marks (B := w.heap.size) [] _ trivial (by simp) (fun w' hb _ => ⟨.tuple #[.slice none 0 0, .int .i64 1], by simp only [results, Try.results25]; go_simp, ?_, Or.inl ⟨HP.out, rfl⟩⟩)
      refine Below.trans ?_ hb
      (repeat (first | (with_reducible exact bl_refl _) | (with_reducible refine bl_drew ?_) | (with_reducible refine bl_alloc ?_ _) | (with_reducible refine bl_set' ?_ ?_; · (first | omega | (simp; done) | (simp; omega))) | (with_reducible refine bl_last (by assumption) ?_) | (with_reducible refine bl_drewN ?_ _)))
    · subst h1
      go_wp2
      refine leaves_marks (B := w.heap.size) [] _ trivial (by simp) (fun w' hb _ => ⟨.tuple #[.slice none 0 0, .int .i64 1], by simp only [results, Try.results25]; go_simp, ?_, Or.inl ⟨HP.out, rfl⟩⟩)
      refine Below.trans ?_ hb
      (repeat (first | (with_reducible exact bl_refl _) | (with_reducible refine bl_drew ?_) | (with_reducible refine bl_alloc ?_ _) | (with_reducible refine bl_set' ?_ ?_; · (first | omega | (simp; done) | (simp; omega))) | (with_reducible refine bl_last (by assumption) ?_) | (with_reducible refine bl_drewN ?_ _)))
  have hCM : M = C := by omega
  have hC2 : C ≤ 200 := by omega
  clear hcf
  subst hCM
  have hvl := vld_len hv
  have hL39 : L ≤ 39 := by have := HLL.out; omega
  obtain ⟨N, rfl⟩ : ∃ N : Nat, n = N := ⟨n.toNat, by omega⟩
  have hmk := make_bools L (by omega)
  rw [← bA_zero L] at hmk
  have HV := Lib.hid hv
  have HS := Lib.hid hs1
  have HVL := Lib.hid hvl
  clear hv hs1 hvl
  have hz1 := hb1.size
  have hz2 := HS.out.lt
  go_wp2
  obtain ⟨w2, hw2⟩ : ∃ w2 : World, ((w1.alloc (.cells #[.slice A L cap, .slice (some ⟨w.heap.size + 2, 0, none⟩) N N] 65)).alloc (.cells (bA L fun _ => false) 4)).alloc (.cells #[.slice (some ⟨w1.heap.size + 1, 0, none⟩) L L] 28) = w2 := ⟨_, rfl⟩
  have hbw2 : Below w.heap.size w w2 := by rw [← hw2]; (repeat (first | (with_reducible exact bl_refl _) | (with_reducible refine bl_drew ?_) | (with_reducible refine bl_alloc ?_ _) | (with_reducible refine bl_set' ?_ ?_; · (first | omega | (simp; done) | (simp; omega))) | (with_reducible refine bl_last (by assumption) ?_) | (with_reducible refine bl_drewN ?_ _)))
  have hsz2 : w2.heap.size = w1.heap.size + 3 := by rw [← hw2]; simp
  have B10 : Blk w2 w1.heap.size 65 #[.slice A L cap, .slice (some ⟨w.heap.size + 2, 0, none⟩) N N] := by rw [← hw2]; exact ((Blk.new w1 _ _).alloc _).alloc _
  have BCl : Blk w2 (w1.heap.size + 1) 4 (bA L fun _ => false) := by rw [← hw2]; exact (Blk.new' _ _ _ _ (by simp)).alloc _
  have B12 : Blk w2 (w1.heap.size + 1 + 1) 28 #[.slice (some ⟨w1.heap.size + 1, 0, none⟩) L L] := by rw [← hw2]; exact Blk.new' _ _ _ _ (by simp)
  have BSt : Blk w2 (w.heap.size + 2) 3 (stA N l) := by rw [← hw2]; exact ((HS.out.alloc _).alloc _).alloc _
  rw [hw2]
  have HB10 := Lib.hid B10
  have HB12 := Lib.hid B12
  have HBSt := Lib.hid BSt
  have HBCl := Lib.hid BCl
  have HSZ2 := Lib.hid hsz2
  have hsz2' : w1.heap.size + 3 ≤ w2.heap.size := by omega
  clear hw2 B10 B12 BSt BCl hsz2
  refine wp_loop_over [13,14,15,16,17,18,19,20,46,47,48,49,50,51,52,53,54,55,56,57,58,59,60,61,62,63,64,65,66,67,68,69,70,71,72,73,74,75,76,77,78,79,80,81,82,83,84,85,86,87,88,89,90,91,92,93,94,95,96,97,98,99,100,101] (fun f D wr => ∃ (k : Nat) (Ds : List Nat), k ≤ M ∧ f 46 = .int .i64 k ∧ D = marks Ds ∧ Hid (Marked wr Ds) ∧ Hid (∀ d ∈ Ds, w2.heap.size ≤ d ∧ d < wr.heap.size) ∧ Hid (okC N (cs.take k) = true) ∧ Hid (But (w1.heap.size + 1) (w1.heap.size + 1) w2 wr) ∧ Hid (Blk wr (w1.heap.size + 1) 4 (bA L (clF l cs fs k)))) (fun f => M - (intOf (f 46)).toNat) ?_ ?_
  · exact ⟨0, [], Nat.zero_le _, rfl, rfl, trivial, fun _ h => absurd h (by simp), rfl, But.refl _, HBCl.out⟩
  rintro f D wr ⟨k, Ds, hk, h46, rfl, HMk, HDs, HOk, HBut, HCl⟩
  simp only [overlay, List.foldl_cons, List.foldl_nil, List.setIfInBounds_toArray, List.set_cons_zero, List.set_cons_succ]
  rw [h46]
  clear h46
  have hzr : w2.heap.size ≤ wr.heap.size := HBut.out.size
  have hbwr : Below w.heap.size w wr := hbw2.trans (HBut.out.below hbw2.size (by omega) (by omega))
  by_cases hlt : k < M
  · obtain ⟨c, hc⟩ : ∃ c, cs[k]? = some c := ⟨cs[k]'(by have := HCC.out; omega), by simp⟩
    obtain ⟨bl, o, rfl, hbl, hcl⟩ := HC.out (by have := HCC.out; omega)
    obtain ⟨u1, u2⟩ := hcl k c hc
    have cx := (hbwr.cell (p := ⟨bl, o + k * 2, none⟩) hbl).trans u1
    have cy := (hbwr.cell (p := ⟨bl, o + k * 2 + 1, none⟩) hbl).trans u2
    have hbl' : bl < wr.heap.size := by omega
    have HCK := Lib.hid hc
    clear hc hcl u1 u2
    obtain ⟨x, y⟩ := c
    simp only at cx cy
    go_wp2
    obtain ⟨w3, hw3⟩ : ∃ w3 : World, ((wr.alloc (.cells #[.int .i64 x, .int .i64 y] 53)).alloc (.cells (bA L fun _ => false) 4)).alloc (.cells #[.slice (some ⟨wr.heap.size + 1, 0, none⟩) L L] 28) = w3 := ⟨_, rfl⟩
    have hb3 : Below wr.heap.size wr w3 := by rw [← hw3]; (repeat (first | (with_reducible exact bl_refl _) | (with_reducible refine bl_drew ?_) | (with_reducible refine bl_alloc ?_ _) | (with_reducible refine bl_set' ?_ ?_; · (first | omega | (simp; done) | (simp; omega))) | (with_reducible refine bl_last (by assumption) ?_) | (with_reducible refine bl_drewN ?_ _)))
    have hsz3 : w3.heap.size = wr.heap.size + 3 := by rw [← hw3]; simp
    have BOn : Blk w3 (wr.heap.size + 1) 4 (bA L fun _ => false) := by rw [← hw3]; exact (Blk.new' _ _ _ _ (by simp)).alloc _
    have B15 : Blk w3 (wr.heap.size + 1 + 1) 28 #[.slice (some ⟨wr.heap.size + 1, 0, none⟩) L L] := by rw [← hw3]; exact Blk.new' _ _ _ _ (by simp)
    rw [hw3]
    have HOn := Lib.hid BOn
    have H15 := Lib.hid B15
    have hsz3' : wr.heap.size + 3 ≤ w3.heap.size := by omega
    have HMk3 : Hid (Marked w3 Ds) := HMk.out.same fun d hd => hb3.block d (HDs.out d hd).2
    have H3 := Lib.hid hb3
    have hbw3 : Below w.heap.size w w3 := bl_trans hbwr hb3
    have HBut3 : Hid (But (w1.heap.size + 1) (w1.heap.size + 1) w2 w3) := HBut.out.trans (But.of_below hb3)
    clear hw3 BOn B15 hsz3 hb3 cx cy
    refine wp_loop_over [17,18,55,56,57,58,59,60,61,62,63,64,65,66,67,68,69,70,71,72,73,74,75,76,77] (fun f' D wi => ∃ (i : Nat) (Di : List Nat), i ≤ 2 ∧ f' 55 = .int .i64 i ∧ D = marks Di ∧ Hid (Marked wi Di) ∧ Hid (∀ d ∈ Di, w2.heap.size ≤ d ∧ d < wi.heap.size) ∧ Hid ((0 < i → 0 ≤ x ∧ x < N) ∧ (1 < i → 0 ≤ y ∧ y < N)) ∧ Hid (But (wr.heap.size + 1) (wr.heap.size + 1) w3 wi) ∧ Hid (Blk wi (wr.heap.size + 1) 4 (bA L (onI l (x, y) i)))) (fun f' => 2 - (intOf (f' 55)).toNat) ?_ ?_
    · exact ⟨0, Ds, by omega, rfl, rfl, HMk3, fun d hd => ⟨(HDs.out d hd).1, by have := (HDs.out d hd).2; omega⟩, ⟨fun h => absurd h (by omega), fun h => absurd h (by omega)⟩, But.refl _, HOn.out⟩
    rintro f' D wi ⟨i, Di, hi, h55, rfl, HMi, HDi, HIt, HBi, HOi⟩
    simp only [overlay, List.foldl_cons, List.foldl_nil, List.setIfInBounds_toArray, List.set_cons_zero, List.set_cons_succ]
    rw [h55]
    clear h55
    have hzi : w3.heap.size ≤ wi.heap.size := HBi.out.size
    have hbwi : Below w.heap.size w wi := hbw3.trans (HBi.out.below hbw3.size (by omega) (by omega))
    have hi3 : i = 0 ∨ i = 1 ∨ i = 2 := by omega
    have c10a := (HB10.out.but HBut3.out (by omega) (by omega)).but HBi.out (by omega) (by omega)
    have c100 := c10a.cell 0
    have c101 := c10a.cell 1
    have c15 := (H15.out.but HBi.out (by omega) (by omega)).cell 0
    simp only [List.getElem?_toArray, List.getElem?_cons_zero, List.getElem?_cons_succ] at c100 c101 c15
    clear c10a
    by_cases hlt2 : i < 2
    · obtain ⟨q, hq, hstep⟩ : ∃ q : Int, ((i = 0 ∧ q = x) ∨ (i = 1 ∧ q = y)) ∧ ∀ j, onI l (x, y) (i + 1) j = (onI l (x, y) i j != tgW l q j) := by
        rcases hi3 with rfl | rfl | rfl
        · exact ⟨x, Or.inl ⟨rfl, rfl⟩, fun j => rfl⟩
        · exact ⟨y, Or.inr ⟨rfl, rfl⟩, fun j => rfl⟩
        · omega
      have hix : ∀ w : World, (Instr.index 53 (.agg #[.int .i64 x, .int .i64 y]) (.int .i64 (i : Int))).run Try.prog w = .ok (.int .i64 q) w := fun w => by
        rcases hq with ⟨rfl, rfl⟩ | ⟨rfl, rfl⟩
        · kernel_rfl
        · kernel_rfl
      have HQ := Lib.hid hq
      have HST := Lib.hid hstep
      clear hq hstep hi3
      by_cases hqr : q < 0 ∨ (0 ≤ q ∧ (N : Int) ≤ q)
      · have hp : susG N l cs fs = false := by
          have : okC N cs = false := by
            cases ho : okC N cs with
            | false => rfl
            | true =>
              unfold okC at ho
              have := List.all_eq_true.1 ho (x, y) (List.mem_of_getElem? HCK.out)
              simp only [decide_eq_true_eq] at this
              rcases HQ.out with ⟨_, rfl⟩ | ⟨_, rfl⟩ <;> omega
          simp [susG, this]
        have HP := Lib.hid hp
        clear hp
        rcases hqr with h1 | ⟨h1, h2⟩
        all_goals
          go_wp2
          refine leaves_marks (B := w.heap.size) Di _ HMi.out (fun d hd => by have := (HDi.out d hd).1; have := hbw2.size; omega) (fun w' hb _ => ⟨.tuple #[.slice none 0 0, .int .i64 1], by simp only [results, Try.results25]; go_simp, hbwi.trans hb, Or.inl ⟨HP.out, rfl⟩⟩)
      · have hq0 : 0 ≤ q := by omega
        have hqN : q < N := by omega
        go_wp2_with (go_at_call 48; ((with_reducible refine (way_c _ _ _ _).mono ?_); rintro e w' ⟨rfl, rfl⟩))
        have hW : ∀ o1 o2, Below wi.heap.size wi ((wi.alloc o1).alloc o2) := fun o1 o2 => by (repeat (first | (with_reducible exact bl_refl _) | (with_reducible refine bl_drew ?_) | (with_reducible refine bl_alloc ?_ _) | (with_reducible refine bl_set' ?_ ?_; · (first | omega | (simp; done) | (simp; omega))) | (with_reducible refine bl_last (by assumption) ?_) | (with_reducible refine bl_drewN ?_ _)))
        have hlW : ∀ o1 o2, Lst ((wi.alloc o1).alloc o2) w.heap.size A l := fun o1 o2 => HL.out.below (hbwi.trans ((hW o1 o2).mono hbwi.size))
        have hstl := HBSt.out.lt
        have BStw : Blk wi (w.heap.size + 2) 3 (stA N l) := (HBSt.out.but HBut3.out (by omega) (by omega)).but HBi.out (by omega) (by omega)
        refine wp_range rfl (enters_of Try.func64 (by kernel_rfl) rfl)
          (way1_c HV.out hq0 hqN A cap N (wi.heap.size + 1) wi.heap.size (w.heap.size + 2) w.heap.size (wr.heap.size + 1) rfl _ (hlW _ _) (by omega) (by omega) (by simp; omega)
            (by rw [HLL.out]; exact (Blk.new' _ _ _ _ (by simp)).alloc _) ((BStw.alloc _).alloc _) (by omega) (by omega) (by omega) (by omega))
          4 (fun k => bA L fun j => onI l (x, y) i j != tgK l q k j) #[] False (fun _ => True) trivial 3 (Blk.new' _ _ _ _ (by simp)) (by omega) (Eq.trans ((HOi.out.alloc _).alloc _) (by rw [bA_congr]; intro j _; simp [tgK])) rfl ?hround ?hdone ?hstop
        case hround =>
          intro ll kk W hk _
          obtain ⟨q1, q2⟩ := way_spec HV.out hq0 hqN
          obtain ⟨t1, t2⟩ := q2 kk hk
          have hst := all_set HV.out t1 t2
          have hslt := stF_lt l (itL l q kk)
          have hsl : stF l (itL l q kk) < L := by have := HLL.out; omega
          have hget := bA_get L (fun j => onI l (x, y) i j != tgK l q kk j) (i := (stF l (itL l q kk)).toNat) (by omega)
          have hset := bA_set L (fun j => onI l (x, y) i j != tgK l q kk j) (stF l (itL l q kk)).toNat (!(onI l (x, y) i (stF l (itL l q kk)).toNat != tgK l q kk (stF l (itL l q kk)).toNat))
          have hcon : bA L (fun j => if j = (stF l (itL l q kk)).toNat then (!(onI l (x, y) i (stF l (itL l q kk)).toNat != tgK l q kk (stF l (itL l q kk)).toNat)) else (onI l (x, y) i j != tgK l q kk j)) = bA L (fun j => onI l (x, y) i j != tgK l q (kk + 1) j) := by
            refine bA_congr fun j _ => ?_
            by_cases e : j = (stF l (itL l q kk)).toNat
            · rw [if_pos e]
              have e' : (stF l (itL l q kk) == (j : Int)) = true := by simp; omega
              simp only [tgK, e', ← e]
              cases onI l (x, y) i j <;> cases tgK l q kk j <;> rfl
            · rw [if_neg e]
              have e' : (stF l (itL l q kk) == (j : Int)) = false := by rw [beq_eq_false_iff_ne]; omega
              simp only [tgK, e']
              cases onI l (x, y) i j <;> cases tgK l q kk j <;> rfl
          have HSET := Lib.hid (hset.trans hcon)
          have HGET := Lib.hid hget
          clear q1 q2 t1 t2 hslt hset hget hcon
          generalize (onI l (x, y) i (stF l (itL l q kk)).toNat != tgK l q kk (stF l (itL l q kk)).toNat) = bv at *
          generalize stF l (itL l q kk) = st at *
          gi_wp2
          refine ⟨trivial, fun W2 hB2 hr2 => ?_⟩
          have d1 : W2.cell? ⟨wr.heap.size + 1 + 1, 0, none⟩ = some (.slice (some ⟨wr.heap.size + 1, 0, none⟩) L L) := by
            rw [hB2.cell (p := ⟨wr.heap.size + 1 + 1, 0, none⟩) (by simp; omega) (by simp; omega) (by simp), (hW _ _).cell (p := ⟨wr.heap.size + 1 + 1, 0, none⟩) (by show wr.heap.size + 1 + 1 < _; omega)]
            exact c15
          have d2 := (hr2.cell st.toNat).trans HGET.out
          have f2 := hr2.frozen st.toNat
          have HR2 := Lib.hid hr2
          clear hr2
          have hrw : wr.heap.size + 1 < W2.heap.size := HR2.out.lt
          have hrw2 : wr.heap.size + 1 + 1 < W2.heap.size := by
            have := hB2.size
            simp at this
            omega
          gi_wp2
          (refine wpIn_region_bl [0,1,2,3,4,5,6] [7,8] (by kernel_rfl) (by kernel_rfl) (by kernel_rfl) (by rintro ⟨_, _, h⟩; exact h) (by rfl) ?_
           simp only [pickI, pick, List.getElem?_cons_succ, List.getElem?_cons_zero]
           iterate 7 (first
             | (refine head_val (by rfl) (by rfl) ?_
                apply Exists.intro
                refine ⟨fun X hX => ?_, ?_⟩
                · (obtain ⟨qz, qc, qf⟩ := bcl hX.out (by first | (simp; rfl) | rfl)
                   go_simp
                   first | done | rfl | exact ⟨rfl, rfl⟩)
                simp only [Act.put, List.setIfInBounds_toArray, List.set_cons_zero, List.set_cons_succ])
             | (refine head_pass (by rfl) ?_
                simp only [Act.put, List.setIfInBounds_toArray, List.set_cons_zero, List.set_cons_succ]))
           refine head_nil ?_
           intro w' hw'
           have hb := hw'.out
           clear hw'
           obtain ⟨hz, hc, hf⟩ := bcl hb (by first | (simp; rfl) | rfl))
          go_wp2
          have hgB : But (wr.heap.size + 1) (wr.heap.size + 1) W2 w' := But.of_below hb
          have hrB := HR2.out.below hb hrw
          refine ⟨⟨hb.os, hb.tape, hb.output, by simp only [World.setCell, Array.size_modify]; exact hb.size, fun g hg hne => (Below.heap_setCell _ _ _ _ (fun e => hne (by rw [e]))).trans (hb.block g hg)⟩, ?_, trivial⟩
          rw [← HSET.out]
          exact hrB.set_ _ _
        case hdone =>
          intro W hBW hsz hr _ hD
          simp only [World.size_alloc] at hsz hD
          have HR := Lib.hid hr
          have HD := Lib.hid hD
          have HBW := Lib.hid hBW
          clear hr hD hBW
          have hBF : But (wr.heap.size + 1) (wr.heap.size + 1) w3 W := ((HBi.out.trans (But.of_below (hW _ _)))).comp HBW.out (by omega)
          have hMW : Marked W Di := HMi.out.same fun d hd => (HBW.out.block d (by simp; have := (HDi.out d hd).2; omega) (by have := (HDi.out d hd).2; omega) (HMi.out.ne hd HOi.out)).trans ((hW _ _).block d (HDi.out d hd).2)
          go_wp2
          simp only [World.size_alloc]
          refine ⟨⟨⟨i + 1, (wi.heap.size + 1 + 1) :: Di, by omega, (by show Value.int IntKind.i64 ((i : Int) + 1) = _; go_num), rfl, ⟨HD.out, fun d hd => by have := (HDi.out d hd).2; omega, hMW⟩, ?_, ?_, hBF, ?_⟩, ?_⟩, ?_⟩
          · intro d hd
            rcases List.mem_cons.1 hd with rfl | hd
            · exact ⟨by omega, hsz⟩
            · have := HDi.out d hd
              have h2 := HBW.out.size
              simp at h2
              exact ⟨this.1, by omega⟩
          · rcases HQ.out with ⟨e1, e2⟩ | ⟨e1, e2⟩
            · subst e1 e2
              exact ⟨fun _ => ⟨hq0, hqN⟩, fun h => absurd h (by omega)⟩
            · subst e1 e2
              exact ⟨fun _ => HIt.out.1 (by omega), fun _ => ⟨hq0, hqN⟩⟩
          · refine HR.out.trans ?_
            rw [bA_congr (c := onI l (x, y) (i + 1))]
            intro j _
            rw [HST.out]
            rfl
          · rfl
          · show 2 - (intOf (Value.int IntKind.i64 ((i : Int) + 1))).toNat < 2 - (intOf (Value.int IntKind.i64 (i : Int))).toNat
            simp [intOf]
            omega
        case hstop =>
          intro W _ _ _ hx _
          exact hx.elim
    · have hi2 : i = 2 := by omega
      subst hi2
      obtain ⟨it1, it2⟩ := HIt.out
      obtain ⟨hx0, hxN⟩ := it1 (by omega)
      obtain ⟨hy0, hyN⟩ := it2 (by omega)
      obtain ⟨fk, hfk⟩ : ∃ c, fs[k]? = some c := ⟨fs[k]'(by have := HFF.out; omega), by simp⟩
      obtain ⟨bf, of, rfl, hbf, hcf⟩ := HF.out (by have := HFF.out; omega)
      have cfk := (hbwi.cell (p := ⟨bf, of + k, none⟩) hbf).trans (hcf k fk hfk)
      have hbfi : bf < wi.heap.size := by have := hbwi.size; omega
      have HFK := Lib.hid hfk
      have hclS : ∀ j, clF l cs fs (k + 1) j = (clF l cs fs k j || (onI l (x, y) 2 j != fk)) := fun j => by
        show (clF l cs fs k j || (onI l (cs.getD k (0, 0)) 2 j != fs.getD k false)) = _
        rw [List.getD_eq_getElem?_getD, List.getD_eq_getElem?_getD, HCK.out, HFK.out]
        rfl
      have HCS := Lib.hid hclS
      have hOk1 : okC N (cs.take (k + 1)) = true := by
        have h1 := HOk.out
        unfold okC at h1 ⊢
        rw [List.take_add_one, HCK.out, List.all_append, h1]
        simp
        omega
      have HOk1 := Lib.hid hOk1
      have c12a := ((HB12.out.but HBut3.out (by omega) (by omega)).but HBi.out (by omega) (by omega))
      have c12 := c12a.cell 0
      simp only [List.getElem?_toArray, List.getElem?_cons_zero] at c12
      have BCi : Blk wi (w1.heap.size + 1) 4 (bA L (clF l cs fs k)) := (HCl.out.below H3.out HCl.out.lt).but HBi.out (by omega) (by omega)
      have HBCi := Lib.hid BCi
      clear hi3 it1 it2 hcf hfk hclS hOk1 c12a BCi
      go_wp2
      go_loopw [80] (fun j wj => ∃ m : Nat, m ≤ L ∧ j = .int .i64 m ∧ Hid (But (w1.heap.size + 1) (w1.heap.size + 1) wi wj) ∧ Hid (Blk wj (w1.heap.size + 1) 4 (bA L fun j => if j < m then clF l cs fs (k + 1) j else clF l cs fs k j))) (fun j _ => L - (intOf j).toNat)
      case atStart => exact ⟨0, Nat.zero_le _, rfl, But.refl _, HBCi.out.trans (by rw [bA_congr]; intro j _; rw [if_neg (by omega)])⟩
      case round =>
        rename World => wj
        obtain ⟨m, hm, rfl, HBj, HCj⟩ := hrel
        have hzj : wi.heap.size ≤ wj.heap.size := HBj.out.size
        by_cases hltj : m < L
        · have g1 := (HBj.out.cell (p := ⟨wr.heap.size + 1, m, none⟩) (by show wr.heap.size + 1 < _; omega) (by show wr.heap.size + 1 ≠ _; omega) (by show wr.heap.size + 1 ≠ _; omega)).trans ((HOi.out.cell m).trans (bA_get L _ hltj))
          have g2 := (HBj.out.cell (p := ⟨w1.heap.size + 1 + 1, 0, none⟩) (by show w1.heap.size + 1 + 1 < _; omega) (by show w1.heap.size + 1 + 1 ≠ _; omega) (by show w1.heap.size + 1 + 1 ≠ _; omega)).trans c12
          have g3 := (HCj.out.cell m).trans (bA_get L _ hltj)
          rw [if_neg (Nat.lt_irrefl m)] at g3
          have fg3 := HCj.out.frozen m
          have hbj : bf ≠ w1.heap.size + 1 := by
            have := hbw2.size
            have := HN
            omega
          have g4 := (HBj.out.cell (p := ⟨bf, of + k, none⟩) hbfi hbj hbj).trans cfk
          have hset := bA_set L (fun j => if j < m then clF l cs fs (k + 1) j else clF l cs fs k j) m (clF l cs fs k m || (onI l (x, y) 2 m != fk))
          have hcon : bA L (fun j => if j = m then (clF l cs fs k m || (onI l (x, y) 2 m != fk)) else (if j < m then clF l cs fs (k + 1) j else clF l cs fs k j)) = bA L (fun j => if j < m + 1 then clF l cs fs (k + 1) j else clF l cs fs k j) := by
            refine bA_congr fun j _ => ?_
            by_cases e : j = m
            · rw [if_pos e, if_pos (by omega), HCS.out, e]
            · rw [if_neg e]
              by_cases e2 : j < m
              · rw [if_pos e2, if_pos (by omega)]
              · rw [if_neg e2, if_neg (by omega)]
          have HSET := Lib.hid (hset.trans hcon)
          have hmj : w1.heap.size + 1 < wj.heap.size := by omega
          clear hset hcon
          generalize clF l cs fs k m = b1 at *
          generalize onI l (x, y) 2 m = b2 at *
          cases b1
          all_goals
            go_wp2
            (refine wp_region_bl [0,1,2,3,4,5,6,7,8,9,10,11,12,13] [14,15] (by kernel_rfl) (by kernel_rfl) (by rfl) ?_
             simp only [pickI, pick, List.getElem?_cons_succ, List.getElem?_cons_zero]
             iterate 14 (first
               | (refine head_val (by rfl) (by rfl) ?_
                  apply Exists.intro
                  refine ⟨fun X hX => ?_, ?_⟩
                  · (obtain ⟨qz, qc, qf⟩ := bcl hX.out (by first | (simp; rfl) | rfl)
                     go_simp
                     first | done | rfl | exact ⟨rfl, rfl⟩)
                  simp only [Act.put, List.setIfInBounds_toArray, List.set_cons_zero, List.set_cons_succ])
               | (refine head_pass (by rfl) ?_
                  simp only [Act.put, List.setIfInBounds_toArray, List.set_cons_zero, List.set_cons_succ]))
             refine head_nil ?_
             intro w' hw'
             have hb := hw'.out
             clear hw'
             obtain ⟨hz, hc, hf⟩ := bcl hb (by first | (simp; rfl) | rfl))
            go_wp2
            go_roundw
            case rel => exact ⟨m + 1, by omega, by go_num, (HBj.out.trans (But.of_below hb)).setX _ _, ((HCj.out.below hb hmj).set_ m _).trans (congrArg some (congrArg (fun a => Obj.cells a 4 (0, 0)) HSET.out))⟩
            case measure => simp [intOf]; omega
        · have hmL : m = L := by omega
          subst hmL
          have HCf : Hid (Blk wj (w1.heap.size + 1) 4 (bA m (clF l cs fs (k + 1)))) := HCj.out.trans (by rw [bA_congr]; intro j hj; rw [if_pos hj])
          have hMj : Marked wj Di := HMi.out.same fun d hd => HBj.out.block d (HDi.out d hd).2 (HMi.out.ne hd HBCi.out) (HMi.out.ne hd HBCi.out)
          have HMj := Lib.hid hMj
          have hBF : But (w1.heap.size + 1) (w1.heap.size + 1) w2 wj := by
            refine But.trans ?_ HBj.out
            have h1 := HBut3.out
            have h2 := HBi.out
            exact ⟨h2.os.trans h1.os, h2.tape.trans h1.tape, h2.output.trans h1.output, Nat.le_trans h1.size h2.size, fun g hg hg1 hg2 => (h2.block g (by have := h1.size; omega) (by omega) (by omega)).trans (h1.block g hg hg1 hg2)⟩
          have HBF := Lib.hid hBF
          clear hMj hBF HCj
          go_wp2
          refine ⟨⟨⟨k + 1, Di, by omega, (by show Value.int IntKind.i64 ((k : Int) + 1) = _; go_num), rfl, HMj.out, fun d hd => ⟨(HDi.out d hd).1, by have := (HDi.out d hd).2; omega⟩, HOk1.out, HBF.out, HCf.out⟩, ?_⟩, ?_⟩
          · rfl
          · show M - (intOf (Value.int IntKind.i64 ((k : Int) + 1))).toNat < M - (intOf (Value.int IntKind.i64 (k : Int))).toNat
            simp [intOf]
            omega
  · have hkM : k = M := by omega
    subst hkM
    have hfin : cs.take k = cs := by rw [← HCC.out, List.take_length]
    have hp : susG N l cs fs = true := by
      unfold susG
      have h1 := HOk.out
      rw [hfin] at h1
      rw [HV.out, h1, decide_eq_true (by rw [HCC.out, HFF.out]; exact ⟨rfl, hC2⟩)]
      rfl
    have HP := Lib.hid hp
    have c10a := HB10.out.but HBut.out (by omega) (by omega)
    have c100 := c10a.cell 0
    have c101 := c10a.cell 1
    have c12 := (HB12.out.but HBut.out (by omega) (by omega)).cell 0
    simp only [List.getElem?_toArray, List.getElem?_cons_zero, List.getElem?_cons_succ] at c100 c101 c12
    have hG : ∀ (i : Nat) (W : World), i < L → Below wr.heap.size wr W → Calls Try.prog 52 #[.int .i64 i, .pointer (some ⟨w1.heap.size + 1 + 1, 0, none⟩)] W (Ret (.bool (susS l cs fs i)) W) := fun i W hi h3 => by
      have := susp1_c i L (w1.heap.size + 1 + 1) (w1.heap.size + 1) (clF l cs fs k i) W ((h3.cell (p := ⟨w1.heap.size + 1 + 1, 0, none⟩) (by show w1.heap.size + 1 + 1 < _; omega)).trans c12) ((h3.cell (p := ⟨w1.heap.size + 1, i, none⟩) (by show w1.heap.size + 1 < _; omega)).trans ((HCl.out.cell i).trans (bA_get L _ hi))) hi (by omega)
      have e : susS l cs fs i = !(clF l cs fs k i) := by unfold susS; rw [HCC.out]
      rw [e]
      exact ret_of_same this
    have HM := Lib.hid (marked_susp L (by omega) A cap (.slice (some ⟨w.heap.size + 2, 0, none⟩) N N) (susS l cs fs) ⟨w1.heap.size + 1 + 1, 0, none⟩ wr hG)
    clear hG hp hfin c10a c12
    go_wp2_with fail
    ((with_reducible refine (HM.out).mono ?_); rintro e W4 ⟨hb4, A4, cap4, rfl, hi4⟩)
    have HI4 := Lib.hid hi4
    clear hi4
    go_wp2
    refine leaves_marks (B := w.heap.size) Ds _ (HMk.out.same fun d hd => hb4.block d (HDs.out d hd).2) (fun d hd => by have := (HDs.out d hd).1; have := hbw2.size; omega) (fun w' hb hc => ⟨.tuple #[.slice A4 (selF (susS l cs fs) L).length cap4, .int .i64 0], by simp only [results, Try.results25]; go_simp, (bl_trans hbwr hb4).trans hb, Or.inr ⟨HP.out, A4, cap4, by rw [HLL.out], ?_⟩⟩)
    rw [HLL.out]
    exact (HI4.out.kept hc).more hb.size
end Go.Proofs.Ytkgklmmkkhbimaa
