/- Bench: play: the frequencies of all items. -/
import Derived.Test.YtehifkdfbiebfaaDoorK30
import Derived.Test.YtehifkdfbiebfaaDoorK35
namespace Go.Proofs.YtehifkdfbiebfaaDoor
open Go.RowKit

/-- The frequencies behind k steps, by item; none if a step is out of range. -/
def plO (l : List Bt) (f0 : Int × Int) (off : Nat → Int × Int) : Nat → Option (Nat → Int × Int)
  | 0 => some fun x => if x = 0 then f0 else (0, 0)
  | k + 1 => (plO l f0 off k).bind fun g =>
      let b := l.getD k default
      if moE (g b.fr.toNat).1 (g b.fr.toNat).2 b.p b.q (sgn b.ab b.rn) b.rd (off k).1 (off k).2 = 0 then
        some fun x => if x = b.to.toNat then (moX (g b.fr.toNat).1 (g b.fr.toNat).2 b.p b.q (sgn b.ab b.rn) b.rd (off k).1 (off k).2, moY (g b.fr.toNat).1 (g b.fr.toNat).2 b.p b.q (sgn b.ab b.rn) b.rd (off k).1 (off k).2) else g x
      else none
theorem plO_mono {l : List Bt} {f0 : Int × Int} {off : Nat → Int × Int} {j : Nat} (h : plO l f0 off j = none) : ∀ {k : Nat}, j ≤ k → plO l f0 off k = none
  | 0, hk => by rw [Nat.le_zero.1 hk] at h; exact h
  | k + 1, hk => by
    by_cases e : j = k + 1
    · rw [← e]; exact h
    · simp only [plO, plO_mono h (k := k) (by omega), Option.bind_none]
/-- The array of N frequencies. -/
def ratA (N : Nat) (g : Nat → Int × Int) : Array Value := ((List.range (N * 2)).map fun i => Value.int .i64 (if i % 2 = 0 then (g (i / 2)).1 else (g (i / 2)).2)).toArray
theorem ratA_size (N : Nat) (g : Nat → Int × Int) : (ratA N g).size = N * 2 := by simp [ratA]
theorem ratA_0 (N : Nat) (g : Nat → Int × Int) {x : Nat} (h : x < N) : (ratA N g)[x * 2]? = some (.int .i64 (g x).1) := by
  have h1 : x * 2 < N * 2 := by omega
  have h2 : x * 2 % 2 = 0 := by omega
  have h3 : x * 2 / 2 = x := by omega
  simp [ratA, h1]
theorem ratA_1 (N : Nat) (g : Nat → Int × Int) {x : Nat} (h : x < N) : (ratA N g)[x * 2 + 1]? = some (.int .i64 (g x).2) := by
  have h1 : x * 2 + 1 < N * 2 := by omega
  have h2 : (x * 2 + 1) % 2 = 1 := by omega
  have h3 : (x * 2 + 1) / 2 = x := by omega
  simp [ratA, h1, h2, h3]
theorem ratA_set (N : Nat) (g : Nat → Int × Int) (x : Nat) (u v : Int) : ((ratA N g).setIfInBounds (x * 2) (.int .i64 u)).setIfInBounds (x * 2 + 1) (.int .i64 v) = ratA N (fun y => if y = x then (u, v) else g y) := by
  apply Array.ext
  · simp [ratA]
  · intro i h1 h2
    have hi : i < N * 2 := by simpa [ratA] using h2
    rw [Array.getElem_setIfInBounds (by simpa [ratA] using hi), Array.getElem_setIfInBounds (by simpa [ratA] using hi)]
    simp only [ratA, List.getElem_toArray, List.getElem_map, List.getElem_range]
    by_cases e1 : x * 2 + 1 = i
    · rw [if_pos e1]
      have m1 : i % 2 = 1 := by omega
      have m2 : i / 2 = x := by omega
      simp [m1, m2]
    · rw [if_neg e1]
      by_cases e2 : x * 2 = i
      · rw [if_pos e2]
        have m1 : i % 2 = 0 := by omega
        have m2 : i / 2 = x := by omega
        simp [m1, m2]
      · rw [if_neg e2]
        have m2 : ¬ i / 2 = x := by omega
        simp [m2]
theorem ratA_zero (N : Nat) : ratA N (fun _ => (0, 0)) = Array.replicate (N * 2) (.int .i64 0) := by
  apply Array.ext <;> simp [ratA]
theorem ratA_congr {N : Nat} {g g' : Nat → Int × Int} (h : ∀ x, x < N → g x = g' x) : ratA N g = ratA N g' := by
  apply Array.ext
  · simp [ratA]
  · intro i h1 h2
    have hi : i < N * 2 := by simpa [ratA] using h2
    simp only [ratA, List.getElem_toArray, List.getElem_map, List.getElem_range]
    rw [h (i / 2) (by omega)]

theorem Tryd.infoRat : (Tryd.prog.info? 25).map (fun i => (i.zero, i.size, i.bytes)) = some (some (.agg #[.int .i64 0, .int .i64 0]), 2, 16) := by kernel_rfl
theorem make_rats (N : Nat) (h : N ≤ 1000000) (W : World) : (Instr.makeSlice 32 (.int .i64 (N : Int)) (.int .i64 (N : Int))).run Tryd.prog W = .ok (.slice (some ⟨W.heap.size, 0, none⟩) N N) (W.alloc (.cells (ratA N (fun _ => (0, 0))) 25)) := by
  obtain ⟨i, hi, hz0, hz1, hz2⟩ := info_parts Tryd.infoRat
  have := run_make (P := Tryd.prog) (w := W) 32 25 i (.agg #[.int .i64 0, .int .i64 0]) Tryd.underlying32 hi hz0 .i64 .i64 (N : Int) (N : Int) (by omega) (by omega) (by rw [hz2]; omega) (by omega)
  rw [this, hz1]
  simp only [Int.toNat_natCast]
  rw [show (Value.agg #[.int IntKind.i64 0, .int .i64 0]).cells = #[.int .i64 0, .int .i64 0] from rfl, made_two, ratA_zero]

/-- What play leaves. -/
def PlayP (N : Nat) (l : List Bt) (f0 : Int × Int) (off : Nat → Int × Int) (w : World) (e : Ending) (w' : World) : Prop :=
  Below w.heap.size w w' ∧ ((plO l f0 off l.length = none ∧ e = .returned (.tuple #[.slice none 0 0, .int .i64 3])) ∨
    ∃ g, plO l f0 off l.length = some g ∧ e = .returned (.tuple #[.slice (some ⟨w.heap.size + 2, 0, none⟩) N N, .int .i64 0]) ∧ Blk w' (w.heap.size + 2) 25 (ratA N g))


set_option maxRecDepth 100000 in
set_option maxHeartbeats 4000000 in
theorem play_run1 (N : Nat) {l : List Bt} (hv : vld N l = true) (A : Option Addr) (cap Bs : Nat) (f1 f2 : Int) (off : Nat → Int × Int) (a : Addr) (w : World) (hl : Lst w w.heap.size A l)
    (hG : ∀ (i : Nat) (W : World), i < l.length → Below w.heap.size w W → Calls Tryd.prog 64 #[.int .i64 i, .pointer (some a)] W (Ret (.agg #[.int .i64 (off i).1, .int .i64 (off i).2]) W)) :
    Calls Tryd.prog 53 #[.agg #[.slice A l.length cap, .slice (some ⟨Bs, 0, none⟩) N N], .agg #[.int .i64 f1, .int .i64 f2], .func (.func 64) #[] #[.pointer (some a)]] w (PlayP N l (f1, f2) off w) := by
  have hlen := vld_len hv
  have hN1 : 1 ≤ N := by omega
  have hN2 : N ≤ 40 := by omega
  have hmk := make_rats N (by omega)
  have HG := Lib.hid hG
  have HV := Lib.hid hv
  have HL := Lib.hid hl
  have HLen := Lib.hid hlen
  clear hG hv hl hlen
  generalize hLL : l.length = L at *
  have HLL := Lib.hid hLL
  have hL39 : L + 1 = N := by have := HLen.out.2.2; omega
  clear hLL
  have hz0 := ratA_0 N (fun _ => (0, 0)) (x := 0) (by omega)
  have hz1 := ratA_1 N (fun _ => (0, 0)) (x := 0) (by omega)
  simp only [Nat.zero_mul, Nat.zero_add] at hz0 hz1
  go_enter Tryd.func53, Tryd.ntmps53
  go_wp2
  go_loopw [23] (fun i wr => ∃ (k : Nat) (g : Nat → Int × Int), k ≤ L ∧ i = .int .i64 k ∧ Hid (plO l (f1, f2) off k = some g) ∧ Below w.heap.size w wr ∧ w.heap.size + 3 ≤ wr.heap.size ∧ Hid (Blk wr (w.heap.size + 2) 25 (ratA N g))) (fun i _ => L - (intOf i).toNat)
  case atStart =>
    refine ⟨0, _, Nat.zero_le _, rfl, rfl, ?_, by simp, ?_⟩
    · (repeat (first | (with_reducible exact bl_refl _) | (with_reducible refine bl_drew ?_) | (with_reducible refine bl_alloc ?_ _) | (with_reducible refine bl_set' ?_ ?_; · (first | omega | (simp; done) | (simp; omega))) | (with_reducible refine bl_last (by assumption) ?_) | (with_reducible refine bl_drewN ?_ _)))
    · show Blk _ _ _ _
      refine Eq.trans (Blk.new' _ _ _ _ (by simp)) ?_
      rw [show (1 : Nat) = 0 * 2 + 1 from rfl, show (0 : Nat) = 0 * 2 from rfl, ratA_set]
  case round =>
    obtain ⟨k, g, hk, rfl, HU, hbw, hzw, B2⟩ := hrel
    by_cases hlt : k < L
    · obtain ⟨x, hx⟩ : ∃ x, l[k]? = some x := ⟨l[k]'(by have := HLL.out; omega), by simp⟩
      obtain ⟨bl, o, rfl, hbl, hcl⟩ := HL.out (by have := HLL.out; omega)
      obtain ⟨x0, x1, x2, x3, x4, x5, x6⟩ := (hcl k x hx).same (fun j => hbw.cell (p := ⟨bl, j, none⟩) hbl)
      have hok := ok_parts (vld_at HV.out hx)
      have hxD : l.getD k default = x := by rw [List.getD_eq_getElem?_getD, hx]; rfl
      have hrn := rt_of hok.2.2.1
      have ht0 : 0 < x.to := hok.2.2.2.1
      have htn : x.to < N := hok.2.2.2.2.1
      have hfr : 0 ≤ x.fr ∧ x.fr < N := by
        have := hok.2.2.2.2.2.2
        omega
      have hst : plO l (f1, f2) off (k + 1) = if moE (g x.fr.toNat).1 (g x.fr.toNat).2 x.p x.q (sgn x.ab x.rn) x.rd (off k).1 (off k).2 = 0 then
          some fun y => if y = x.to.toNat then (moX (g x.fr.toNat).1 (g x.fr.toNat).2 x.p x.q (sgn x.ab x.rn) x.rd (off k).1 (off k).2, moY (g x.fr.toNat).1 (g x.fr.toNat).2 x.p x.q (sgn x.ab x.rn) x.rd (off k).1 (off k).2) else g y
          else none := by
        show (plO l (f1, f2) off k).bind _ = _
        rw [HU.out, Option.bind_some]
        simp only [hxD]
      have hM := fun W => move_c (g x.fr.toNat).1 (g x.fr.toNat).2 x.fr x.to x.p x.q x.rn x.rd (off k).1 (off k).2 x.ab W (by have := hrn.1; omega) hrn.2.1
      have hOff := HG.out k
      have cf1 := (B2.out.cell (x.fr.toNat * 2)).trans (ratA_0 N g (x := x.fr.toNat) (by omega))
      have cf2 := (B2.out.cell (x.fr.toNat * 2 + 1)).trans (ratA_1 N g (x := x.fr.toNat) (by omega))
      have ct1 := (B2.out.cell (x.to.toNat * 2)).trans (ratA_0 N g (x := x.to.toNat) (by omega))
      have ct2 := (B2.out.cell (x.to.toNat * 2 + 1)).trans (ratA_1 N g (x := x.to.toNat) (by omega))
      have ft1 := B2.out.frozen (x.to.toNat * 2)
      have ft2 := B2.out.frozen (x.to.toNat * 2 + 1)
      have hways : (moE (g x.fr.toNat).1 (g x.fr.toNat).2 x.p x.q (sgn x.ab x.rn) x.rd (off k).1 (off k).2 = 0 ∧ (moE (g x.fr.toNat).1 (g x.fr.toNat).2 x.p x.q (sgn x.ab x.rn) x.rd (off k).1 (off k).2 != 0) = false) ∨
          (moE (g x.fr.toNat).1 (g x.fr.toNat).2 x.p x.q (sgn x.ab x.rn) x.rd (off k).1 (off k).2 = 3 ∧ (moE (g x.fr.toNat).1 (g x.fr.toNat).2 x.p x.q (sgn x.ab x.rn) x.rd (off k).1 (off k).2 != 0) = true) := by
        unfold moE
        split
        · exact Or.inl ⟨rfl, rfl⟩
        · exact Or.inr ⟨rfl, rfl⟩
      clear hcl hx hok hxD hrn
      obtain ⟨xfr, xto, xp, xq, xrn, xrd, xab⟩ := x
      simp only at x0 x1 x2 x3 x4 x5 x6 ht0 htn hfr hst hM cf1 cf2 ct1 ct2 ft1 ft2 hways
      unfold moV at hM
      obtain ⟨hf0, hfn⟩ := hfr
      generalize moX (g xfr.toNat).1 (g xfr.toNat).2 xp xq (sgn xab xrn) xrd (off k).1 (off k).2 = mx at *
      generalize moY (g xfr.toNat).1 (g xfr.toNat).2 xp xq (sgn xab xrn) xrd (off k).1 (off k).2 = my at *
      generalize moE (g xfr.toNat).1 (g xfr.toNat).2 xp xq (sgn xab xrn) xrd (off k).1 (off k).2 = me at *
      have HST := Lib.hid hst
      have HM := Lib.hid hM
      have HO := Lib.hid (fun W h => hOff W hlt h)
      clear hst hM hOff
      generalize (g xfr.toNat).1 = gx at *
      generalize (g xfr.toNat).2 = gy at *
      generalize (g xto.toNat).1 = tx at *
      generalize (g xto.toNat).2 = ty at *
      generalize (off k).1 = ox at *
      generalize (off k).2 = oy at *
      rcases hways with ⟨rfl, hm⟩ | ⟨rfl, hm⟩
      · go_wp2
        (refine wp_region_alloc [0,1,2,3,4,5,6,7,8,9,10,11,12] [12] [14,15] 13 25 #[.int .i64 0, .int .i64 0] _ (by kernel_rfl) (by kernel_rfl) (by kernel_rfl) (by rfl) (by repeat (first | (with_reducible refine panic_then ?_) | (with_reducible refine panic_block ?_) | (with_reducible exact panic_body) | exact panic_body | refine panic_then ?_ | refine panic_block ?_)) rfl (fun _ _ => by go_simp) ?_
         simp only [pickI, pick, List.getElem?_cons_succ, List.getElem?_cons_zero]
         iterate 13 (first
           | (refine headZ_val (by rfl) (by first | exact wanted_free rfl | rfl) ?_
              apply Exists.intro
              refine ⟨fun X hX => ?_, ?_⟩
              · (obtain ⟨qz, qc, qf⟩ := bcl hX.out (by first | (simp; rfl) | rfl)
                 go_simp
                 first | done | (go_at_call 64; ((with_reducible refine (HO.out _ (hbw.trans ((Below.refl w.heap.size wr).alloc (by omega) _ |>.trans (hX.out.mono (by simp; omega))))).mono ?_); rintro e w2 ⟨rfl, hb2⟩; exact ⟨rfl, hb2⟩)) | (go_at_call 109; ((with_reducible refine (HM.out _).mono ?_); rintro e w2 ⟨rfl, hb2⟩; exact ⟨rfl, hb2⟩)) | rfl | exact ⟨rfl, rfl⟩)
              simp only [Act.put, List.setIfInBounds_toArray, List.set_cons_zero, List.set_cons_succ])
           | (refine headZ_pure (by rfl) (by first | exact wanted_free rfl | rfl) ?_
              apply Exists.intro
              refine ⟨fun X => ?_, ?_⟩
              · (go_simp
                 first | done | rfl)
              simp only [Act.put, List.setIfInBounds_toArray, List.set_cons_zero, List.set_cons_succ])
           | (refine headZ_pass (by rfl) ?_
              simp only [Act.put, List.setIfInBounds_toArray, List.set_cons_zero, List.set_cons_succ]))
         refine headZ_nil ?_
         intro w' Bq hw' hBq hBk
         have hb := hw'.out
         clear hw'
         try simp only [List.setIfInBounds_toArray, List.set_cons_zero, List.set_cons_succ]
         obtain ⟨hz, hc, hf⟩ := bcl hb (by first | (simp; rfl) | rfl))
        simp only [World.size_alloc] at hBq
        have cq0 := hBk.cell 0
        have cq1 := hBk.cell 1
        have fq0 := hBk.frozen 0
        have fq1 := hBk.frozen 1
        simp only [List.getElem?_toArray, List.getElem?_cons_zero, List.getElem?_cons_succ] at cq0 cq1
        have HBK := Lib.hid hBk
        clear hBk
        go_wp2
        go_roundw
        case rel =>
          have hbA : Below w.heap.size w w' := hbw.trans (((Below.refl w.heap.size wr).alloc (by omega) _).trans (hb.mono (by simp; omega)))
          refine ⟨k + 1, _, hlt, by go_num, HST.out.trans (if_pos (by trivial)), ?_, ?_, ?_⟩
          · refine Below.setCell (Below.setCell (Below.setCell (Below.setCell hbA ?_ _) ?_ _) ?_ _) ?_ _
            · show w.heap.size ≤ Bq; omega
            · show w.heap.size ≤ Bq; omega
            · show w.heap.size ≤ w.heap.size + 2; omega
            · show w.heap.size ≤ w.heap.size + 2; omega
          · simp only [World.setCell, Array.size_modify]
            omega
          · have h1 : Blk w' (w.heap.size + 2) 25 (ratA N g) := (B2.out.alloc _).below hb (B2.out.alloc _).lt
            show Blk _ _ _ _
            have h2 := (((h1.far (p := ⟨Bq, 0, none⟩) (by show w.heap.size + 2 ≠ Bq; omega) (.int .i64 mx)).far (p := ⟨Bq, 1, none⟩) (by show w.heap.size + 2 ≠ Bq; omega) (.int .i64 my)).set_ (xto.toNat * 2) (.int .i64 mx)).set_ (xto.toNat * 2 + 1) (.int .i64 my)
            rw [ratA_set] at h2
            exact h2
        case measure => simp [intOf]; omega
      · have hN : plO l (f1, f2) off l.length = none := by
          refine plO_mono (j := k + 1) ?_ (by have := HLL.out; omega)
          rw [HST.out, if_neg (by omega)]
        have HNo := Lib.hid hN
        clear hN
        go_wp2
        (refine wp_region_alloc [0,1,2,3,4,5,6,7,8,9,10,11,12] [12] [14,15] 13 25 #[.int .i64 0, .int .i64 0] _ (by kernel_rfl) (by kernel_rfl) (by kernel_rfl) (by rfl) (by repeat (first | (with_reducible refine panic_then ?_) | (with_reducible refine panic_block ?_) | (with_reducible exact panic_body) | exact panic_body | refine panic_then ?_ | refine panic_block ?_)) rfl (fun _ _ => by go_simp) ?_
         simp only [pickI, pick, List.getElem?_cons_succ, List.getElem?_cons_zero]
         iterate 13 (first
           | (refine headZ_val (by rfl) (by first | exact wanted_free rfl | rfl) ?_
              apply Exists.intro
              refine ⟨fun X hX => ?_, ?_⟩
              · (obtain ⟨qz, qc, qf⟩ := bcl hX.out (by first | (simp; rfl) | rfl)
                 go_simp
                 first | done | (go_at_call 64; ((with_reducible refine (HO.out _ (hbw.trans ((Below.refl w.heap.size wr).alloc (by omega) _ |>.trans (hX.out.mono (by simp; omega))))).mono ?_); rintro e w2 ⟨rfl, hb2⟩; exact ⟨rfl, hb2⟩)) | (go_at_call 109; ((with_reducible refine (HM.out _).mono ?_); rintro e w2 ⟨rfl, hb2⟩; exact ⟨rfl, hb2⟩)) | rfl | exact ⟨rfl, rfl⟩)
              simp only [Act.put, List.setIfInBounds_toArray, List.set_cons_zero, List.set_cons_succ])
           | (refine headZ_pure (by rfl) (by first | exact wanted_free rfl | rfl) ?_
              apply Exists.intro
              refine ⟨fun X => ?_, ?_⟩
              · (go_simp
                 first | done | rfl)
              simp only [Act.put, List.setIfInBounds_toArray, List.set_cons_zero, List.set_cons_succ])
           | (refine headZ_pass (by rfl) ?_
              simp only [Act.put, List.setIfInBounds_toArray, List.set_cons_zero, List.set_cons_succ]))
         refine headZ_nil ?_
         intro w' Bq hw' hBq hBk
         have hb := hw'.out
         clear hw'
         try simp only [List.setIfInBounds_toArray, List.set_cons_zero, List.set_cons_succ]
         obtain ⟨hz, hc, hf⟩ := bcl hb (by first | (simp; rfl) | rfl))
        simp only [World.size_alloc] at hBq
        have cq0 := hBk.cell 0
        have cq1 := hBk.cell 1
        have fq0 := hBk.frozen 0
        have fq1 := hBk.frozen 1
        simp only [List.getElem?_toArray, List.getElem?_cons_zero, List.getElem?_cons_succ] at cq0 cq1
        clear hBk
        go_wp2
        refine bodyPost_ret (v := .tuple #[.slice none 0 0, .int .i64 3]) (by simp only [results, Tryd.results53]; go_simp) rfl ⟨?_, Or.inl ⟨HNo.out, rfl⟩⟩
        have hbA : Below w.heap.size w w' := hbw.trans (((Below.refl w.heap.size wr).alloc (by omega) _).trans (hb.mono (by simp; omega)))
        refine Below.setCell (Below.setCell hbA ?_ _) ?_ _
        · show w.heap.size ≤ Bq; omega
        · show w.heap.size ≤ Bq; omega
    · have hkL : k = L := by omega
      subst hkL
      go_wp2
      refine bodyPost_ret (v := .tuple #[.slice (some ⟨w.heap.size + 2, 0, none⟩) N N, .int .i64 0]) (by simp only [results, Tryd.results53]; go_simp) rfl ⟨hbw, Or.inr ⟨g, by rw [HLL.out]; exact HU.out, rfl, B2.out⟩⟩

set_option maxRecDepth 100000 in
set_option maxHeartbeats 4000000 in
theorem play_run2 (N : Nat) {l : List Bt} (hv : vld N l = true) (A : Option Addr) (cap Bs : Nat) (f1 f2 : Int) (off : Nat → Int × Int) (a : Addr) (w : World) (hl : Lst w w.heap.size A l)
    (hG : ∀ (i : Nat) (W : World), i < l.length → Below w.heap.size w W → Calls Tryd.prog 65 #[.int .i64 i, .pointer (some a)] W (Ret (.agg #[.int .i64 (off i).1, .int .i64 (off i).2]) W)) :
    Calls Tryd.prog 53 #[.agg #[.slice A l.length cap, .slice (some ⟨Bs, 0, none⟩) N N], .agg #[.int .i64 f1, .int .i64 f2], .func (.func 65) #[] #[.pointer (some a)]] w (PlayP N l (f1, f2) off w) := by
  have hlen := vld_len hv
  have hN1 : 1 ≤ N := by omega
  have hN2 : N ≤ 40 := by omega
  have hmk := make_rats N (by omega)
  have HG := Lib.hid hG
  have HV := Lib.hid hv
  have HL := Lib.hid hl
  have HLen := Lib.hid hlen
  clear hG hv hl hlen
  generalize hLL : l.length = L at *
  have HLL := Lib.hid hLL
  have hL39 : L + 1 = N := by have := HLen.out.2.2; omega
  clear hLL
  have hz0 := ratA_0 N (fun _ => (0, 0)) (x := 0) (by omega)
  have hz1 := ratA_1 N (fun _ => (0, 0)) (x := 0) (by omega)
  simp only [Nat.zero_mul, Nat.zero_add] at hz0 hz1
  go_enter Tryd.func53, Tryd.ntmps53
  go_wp2
  go_loopw [23] (fun i wr => ∃ (k : Nat) (g : Nat → Int × Int), k ≤ L ∧ i = .int .i64 k ∧ Hid (plO l (f1, f2) off k = some g) ∧ Below w.heap.size w wr ∧ w.heap.size + 3 ≤ wr.heap.size ∧ Hid (Blk wr (w.heap.size + 2) 25 (ratA N g))) (fun i _ => L - (intOf i).toNat)
  case atStart =>
    refine ⟨0, _, Nat.zero_le _, rfl, rfl, ?_, by simp, ?_⟩
    · (repeat (first | (with_reducible exact bl_refl _) | (with_reducible refine bl_drew ?_) | (with_reducible refine bl_alloc ?_ _) | (with_reducible refine bl_set' ?_ ?_; · (first | omega | (simp; done) | (simp; omega))) | (with_reducible refine bl_last (by assumption) ?_) | (with_reducible refine bl_drewN ?_ _)))
    · show Blk _ _ _ _
      refine Eq.trans (Blk.new' _ _ _ _ (by simp)) ?_
      rw [show (1 : Nat) = 0 * 2 + 1 from rfl, show (0 : Nat) = 0 * 2 from rfl, ratA_set]
  case round =>
    obtain ⟨k, g, hk, rfl, HU, hbw, hzw, B2⟩ := hrel
    by_cases hlt : k < L
    · obtain ⟨x, hx⟩ : ∃ x, l[k]? = some x := ⟨l[k]'(by have := HLL.out; omega), by simp⟩
      obtain ⟨bl, o, rfl, hbl, hcl⟩ := HL.out (by have := HLL.out; omega)
      obtain ⟨x0, x1, x2, x3, x4, x5, x6⟩ := (hcl k x hx).same (fun j => hbw.cell (p := ⟨bl, j, none⟩) hbl)
      have hok := ok_parts (vld_at HV.out hx)
      have hxD : l.getD k default = x := by rw [List.getD_eq_getElem?_getD, hx]; rfl
      have hrn := rt_of hok.2.2.1
      have ht0 : 0 < x.to := hok.2.2.2.1
      have htn : x.to < N := hok.2.2.2.2.1
      have hfr : 0 ≤ x.fr ∧ x.fr < N := by
        have := hok.2.2.2.2.2.2
        omega
      have hst : plO l (f1, f2) off (k + 1) = if moE (g x.fr.toNat).1 (g x.fr.toNat).2 x.p x.q (sgn x.ab x.rn) x.rd (off k).1 (off k).2 = 0 then
          some fun y => if y = x.to.toNat then (moX (g x.fr.toNat).1 (g x.fr.toNat).2 x.p x.q (sgn x.ab x.rn) x.rd (off k).1 (off k).2, moY (g x.fr.toNat).1 (g x.fr.toNat).2 x.p x.q (sgn x.ab x.rn) x.rd (off k).1 (off k).2) else g y
          else none := by
        show (plO l (f1, f2) off k).bind _ = _
        rw [HU.out, Option.bind_some]
        simp only [hxD]
      have hM := fun W => move_c (g x.fr.toNat).1 (g x.fr.toNat).2 x.fr x.to x.p x.q x.rn x.rd (off k).1 (off k).2 x.ab W (by have := hrn.1; omega) hrn.2.1
      have hOff := HG.out k
      have cf1 := (B2.out.cell (x.fr.toNat * 2)).trans (ratA_0 N g (x := x.fr.toNat) (by omega))
      have cf2 := (B2.out.cell (x.fr.toNat * 2 + 1)).trans (ratA_1 N g (x := x.fr.toNat) (by omega))
      have ct1 := (B2.out.cell (x.to.toNat * 2)).trans (ratA_0 N g (x := x.to.toNat) (by omega))
      have ct2 := (B2.out.cell (x.to.toNat * 2 + 1)).trans (ratA_1 N g (x := x.to.toNat) (by omega))
      have ft1 := B2.out.frozen (x.to.toNat * 2)
      have ft2 := B2.out.frozen (x.to.toNat * 2 + 1)
      have hways : (moE (g x.fr.toNat).1 (g x.fr.toNat).2 x.p x.q (sgn x.ab x.rn) x.rd (off k).1 (off k).2 = 0 ∧ (moE (g x.fr.toNat).1 (g x.fr.toNat).2 x.p x.q (sgn x.ab x.rn) x.rd (off k).1 (off k).2 != 0) = false) ∨
          (moE (g x.fr.toNat).1 (g x.fr.toNat).2 x.p x.q (sgn x.ab x.rn) x.rd (off k).1 (off k).2 = 3 ∧ (moE (g x.fr.toNat).1 (g x.fr.toNat).2 x.p x.q (sgn x.ab x.rn) x.rd (off k).1 (off k).2 != 0) = true) := by
        unfold moE
        split
        · exact Or.inl ⟨rfl, rfl⟩
        · exact Or.inr ⟨rfl, rfl⟩
      clear hcl hx hok hxD hrn
      obtain ⟨xfr, xto, xp, xq, xrn, xrd, xab⟩ := x
      simp only at x0 x1 x2 x3 x4 x5 x6 ht0 htn hfr hst hM cf1 cf2 ct1 ct2 ft1 ft2 hways
      unfold moV at hM
      obtain ⟨hf0, hfn⟩ := hfr
      generalize moX (g xfr.toNat).1 (g xfr.toNat).2 xp xq (sgn xab xrn) xrd (off k).1 (off k).2 = mx at *
      generalize moY (g xfr.toNat).1 (g xfr.toNat).2 xp xq (sgn xab xrn) xrd (off k).1 (off k).2 = my at *
      generalize moE (g xfr.toNat).1 (g xfr.toNat).2 xp xq (sgn xab xrn) xrd (off k).1 (off k).2 = me at *
      have HST := Lib.hid hst
      have HM := Lib.hid hM
      have HO := Lib.hid (fun W h => hOff W hlt h)
      clear hst hM hOff
      generalize (g xfr.toNat).1 = gx at *
      generalize (g xfr.toNat).2 = gy at *
      generalize (g xto.toNat).1 = tx at *
      generalize (g xto.toNat).2 = ty at *
      generalize (off k).1 = ox at *
      generalize (off k).2 = oy at *
      rcases hways with ⟨rfl, hm⟩ | ⟨rfl, hm⟩
      · go_wp2
        (refine wp_region_alloc [0,1,2,3,4,5,6,7,8,9,10,11,12] [12] [14,15] 13 25 #[.int .i64 0, .int .i64 0] _ (by kernel_rfl) (by kernel_rfl) (by kernel_rfl) (by rfl) (by repeat (first | (with_reducible refine panic_then ?_) | (with_reducible refine panic_block ?_) | (with_reducible exact panic_body) | exact panic_body | refine panic_then ?_ | refine panic_block ?_)) rfl (fun _ _ => by go_simp) ?_
         simp only [pickI, pick, List.getElem?_cons_succ, List.getElem?_cons_zero]
         iterate 13 (first
           | (refine headZ_val (by rfl) (by first | exact wanted_free rfl | rfl) ?_
              apply Exists.intro
              refine ⟨fun X hX => ?_, ?_⟩
              · (obtain ⟨qz, qc, qf⟩ := bcl hX.out (by first | (simp; rfl) | rfl)
                 go_simp
                 first | done | (go_at_call 65; ((with_reducible refine (HO.out _ (hbw.trans ((Below.refl w.heap.size wr).alloc (by omega) _ |>.trans (hX.out.mono (by simp; omega))))).mono ?_); rintro e w2 ⟨rfl, hb2⟩; exact ⟨rfl, hb2⟩)) | (go_at_call 109; ((with_reducible refine (HM.out _).mono ?_); rintro e w2 ⟨rfl, hb2⟩; exact ⟨rfl, hb2⟩)) | rfl | exact ⟨rfl, rfl⟩)
              simp only [Act.put, List.setIfInBounds_toArray, List.set_cons_zero, List.set_cons_succ])
           | (refine headZ_pure (by rfl) (by first | exact wanted_free rfl | rfl) ?_
              apply Exists.intro
              refine ⟨fun X => ?_, ?_⟩
              · (go_simp
                 first | done | rfl)
              simp only [Act.put, List.setIfInBounds_toArray, List.set_cons_zero, List.set_cons_succ])
           | (refine headZ_pass (by rfl) ?_
              simp only [Act.put, List.setIfInBounds_toArray, List.set_cons_zero, List.set_cons_succ]))
         refine headZ_nil ?_
         intro w' Bq hw' hBq hBk
         have hb := hw'.out
         clear hw'
         try simp only [List.setIfInBounds_toArray, List.set_cons_zero, List.set_cons_succ]
         obtain ⟨hz, hc, hf⟩ := bcl hb (by first | (simp; rfl) | rfl))
        simp only [World.size_alloc] at hBq
        have cq0 := hBk.cell 0
        have cq1 := hBk.cell 1
        have fq0 := hBk.frozen 0
        have fq1 := hBk.frozen 1
        simp only [List.getElem?_toArray, List.getElem?_cons_zero, List.getElem?_cons_succ] at cq0 cq1
        have HBK := Lib.hid hBk
        clear hBk
        go_wp2
        go_roundw
        case rel =>
          have hbA : Below w.heap.size w w' := hbw.trans (((Below.refl w.heap.size wr).alloc (by omega) _).trans (hb.mono (by simp; omega)))
          refine ⟨k + 1, _, hlt, by go_num, HST.out.trans (if_pos (by trivial)), ?_, ?_, ?_⟩
          · refine Below.setCell (Below.setCell (Below.setCell (Below.setCell hbA ?_ _) ?_ _) ?_ _) ?_ _
            · show w.heap.size ≤ Bq; omega
            · show w.heap.size ≤ Bq; omega
            · show w.heap.size ≤ w.heap.size + 2; omega
            · show w.heap.size ≤ w.heap.size + 2; omega
          · simp only [World.setCell, Array.size_modify]
            omega
          · have h1 : Blk w' (w.heap.size + 2) 25 (ratA N g) := (B2.out.alloc _).below hb (B2.out.alloc _).lt
            show Blk _ _ _ _
            have h2 := (((h1.far (p := ⟨Bq, 0, none⟩) (by show w.heap.size + 2 ≠ Bq; omega) (.int .i64 mx)).far (p := ⟨Bq, 1, none⟩) (by show w.heap.size + 2 ≠ Bq; omega) (.int .i64 my)).set_ (xto.toNat * 2) (.int .i64 mx)).set_ (xto.toNat * 2 + 1) (.int .i64 my)
            rw [ratA_set] at h2
            exact h2
        case measure => simp [intOf]; omega
      · have hN : plO l (f1, f2) off l.length = none := by
          refine plO_mono (j := k + 1) ?_ (by have := HLL.out; omega)
          rw [HST.out, if_neg (by omega)]
        have HNo := Lib.hid hN
        clear hN
        go_wp2
        (refine wp_region_alloc [0,1,2,3,4,5,6,7,8,9,10,11,12] [12] [14,15] 13 25 #[.int .i64 0, .int .i64 0] _ (by kernel_rfl) (by kernel_rfl) (by kernel_rfl) (by rfl) (by repeat (first | (with_reducible refine panic_then ?_) | (with_reducible refine panic_block ?_) | (with_reducible exact panic_body) | exact panic_body | refine panic_then ?_ | refine panic_block ?_)) rfl (fun _ _ => by go_simp) ?_
         simp only [pickI, pick, List.getElem?_cons_succ, List.getElem?_cons_zero]
         iterate 13 (first
           | (refine headZ_val (by rfl) (by first | exact wanted_free rfl | rfl) ?_
              apply Exists.intro
              refine ⟨fun X hX => ?_, ?_⟩
              · (obtain ⟨qz, qc, qf⟩ := bcl hX.out (by first | (simp; rfl) | rfl)
                 go_simp
                 first | done | (go_at_call 65; ((with_reducible refine (HO.out _ (hbw.trans ((Below.refl w.heap.size wr).alloc (by omega) _ |>.trans (hX.out.mono (by simp; omega))))).mono ?_); rintro e w2 ⟨rfl, hb2⟩; exact ⟨rfl, hb2⟩)) | (go_at_call 109; ((with_reducible refine (HM.out _).mono ?_); rintro e w2 ⟨rfl, hb2⟩; exact ⟨rfl, hb2⟩)) | rfl | exact ⟨rfl, rfl⟩)
              simp only [Act.put, List.setIfInBounds_toArray, List.set_cons_zero, List.set_cons_succ])
           | (refine headZ_pure (by rfl) (by first | exact wanted_free rfl | rfl) ?_
              apply Exists.intro
              refine ⟨fun X => ?_, ?_⟩
              · (go_simp
                 first | done | rfl)
              simp only [Act.put, List.setIfInBounds_toArray, List.set_cons_zero, List.set_cons_succ])
           | (refine headZ_pass (by rfl) ?_
              simp only [Act.put, List.setIfInBounds_toArray, List.set_cons_zero, List.set_cons_succ]))
         refine headZ_nil ?_
         intro w' Bq hw' hBq hBk
         have hb := hw'.out
         clear hw'
         try simp only [List.setIfInBounds_toArray, List.set_cons_zero, List.set_cons_succ]
         obtain ⟨hz, hc, hf⟩ := bcl hb (by first | (simp; rfl) | rfl))
        simp only [World.size_alloc] at hBq
        have cq0 := hBk.cell 0
        have cq1 := hBk.cell 1
        have fq0 := hBk.frozen 0
        have fq1 := hBk.frozen 1
        simp only [List.getElem?_toArray, List.getElem?_cons_zero, List.getElem?_cons_succ] at cq0 cq1
        clear hBk
        go_wp2
        refine bodyPost_ret (v := .tuple #[.slice none 0 0, .int .i64 3]) (by simp only [results, Tryd.results53]; go_simp) rfl ⟨?_, Or.inl ⟨HNo.out, rfl⟩⟩
        have hbA : Below w.heap.size w w' := hbw.trans (((Below.refl w.heap.size wr).alloc (by omega) _).trans (hb.mono (by simp; omega)))
        refine Below.setCell (Below.setCell hbA ?_ _) ?_ _
        · show w.heap.size ≤ Bq; omega
        · show w.heap.size ≤ Bq; omega
    · have hkL : k = L := by omega
      subst hkL
      go_wp2
      refine bodyPost_ret (v := .tuple #[.slice (some ⟨w.heap.size + 2, 0, none⟩) N N, .int .i64 0]) (by simp only [results, Tryd.results53]; go_simp) rfl ⟨hbw, Or.inr ⟨g, by rw [HLL.out]; exact HU.out, rfl, B2.out⟩⟩

set_option maxRecDepth 100000 in
set_option maxHeartbeats 4000000 in
theorem play_play1 (N : Nat) {l : List Bt} (hv : vld N l = true) (A : Option Addr) (cap Bs : Nat) (f1 f2 : Int) (off : Nat → Int × Int) (a : Addr) (w : World) (hl : Lst w w.heap.size A l)
    (hG : ∀ (i : Nat) (W : World), i < l.length → Below w.heap.size w W → Calls Tryd.prog 54 #[.int .i64 i, .pointer (some a)] W (Ret (.agg #[.int .i64 (off i).1, .int .i64 (off i).2]) W)) :
    Calls Tryd.prog 53 #[.agg #[.slice A l.length cap, .slice (some ⟨Bs, 0, none⟩) N N], .agg #[.int .i64 f1, .int .i64 f2], .func (.func 54) #[] #[.pointer (some a)]] w (PlayP N l (f1, f2) off w) := by
  have hlen := vld_len hv
  have hN1 : 1 ≤ N := by omega
  have hN2 : N ≤ 40 := by omega
  have hmk := make_rats N (by omega)
  have HG := Lib.hid hG
  have HV := Lib.hid hv
  have HL := Lib.hid hl
  have HLen := Lib.hid hlen
  clear hG hv hl hlen
  generalize hLL : l.length = L at *
  have HLL := Lib.hid hLL
  have hL39 : L + 1 = N := by have := HLen.out.2.2; omega
  clear hLL
  have hz0 := ratA_0 N (fun _ => (0, 0)) (x := 0) (by omega)
  have hz1 := ratA_1 N (fun _ => (0, 0)) (x := 0) (by omega)
  simp only [Nat.zero_mul, Nat.zero_add] at hz0 hz1
  go_enter Tryd.func53, Tryd.ntmps53
  go_wp2
  go_loopw [23] (fun i wr => ∃ (k : Nat) (g : Nat → Int × Int), k ≤ L ∧ i = .int .i64 k ∧ Hid (plO l (f1, f2) off k = some g) ∧ Below w.heap.size w wr ∧ w.heap.size + 3 ≤ wr.heap.size ∧ Hid (Blk wr (w.heap.size + 2) 25 (ratA N g))) (fun i _ => L - (intOf i).toNat)
  case atStart =>
    refine ⟨0, _, Nat.zero_le _, rfl, rfl, ?_, by simp, ?_⟩
    · (repeat (first | (with_reducible exact bl_refl _) | (with_reducible refine bl_drew ?_) | (with_reducible refine bl_alloc ?_ _) | (with_reducible refine bl_set' ?_ ?_; · (first | omega | (simp; done) | (simp; omega))) | (with_reducible refine bl_last (by assumption) ?_) | (with_reducible refine bl_drewN ?_ _)))
    · show Blk _ _ _ _
      refine Eq.trans (Blk.new' _ _ _ _ (by simp)) ?_
      rw [show (1 : Nat) = 0 * 2 + 1 from rfl, show (0 : Nat) = 0 * 2 from rfl, ratA_set]
  case round =>
    obtain ⟨k, g, hk, rfl, HU, hbw, hzw, B2⟩ := hrel
    by_cases hlt : k < L
    · obtain ⟨x, hx⟩ : ∃ x, l[k]? = some x := ⟨l[k]'(by have := HLL.out; omega), by simp⟩
      obtain ⟨bl, o, rfl, hbl, hcl⟩ := HL.out (by have := HLL.out; omega)
      obtain ⟨x0, x1, x2, x3, x4, x5, x6⟩ := (hcl k x hx).same (fun j => hbw.cell (p := ⟨bl, j, none⟩) hbl)
      have hok := ok_parts (vld_at HV.out hx)
      have hxD : l.getD k default = x := by rw [List.getD_eq_getElem?_getD, hx]; rfl
      have hrn := rt_of hok.2.2.1
      have ht0 : 0 < x.to := hok.2.2.2.1
      have htn : x.to < N := hok.2.2.2.2.1
      have hfr : 0 ≤ x.fr ∧ x.fr < N := by
        have := hok.2.2.2.2.2.2
        omega
      have hst : plO l (f1, f2) off (k + 1) = if moE (g x.fr.toNat).1 (g x.fr.toNat).2 x.p x.q (sgn x.ab x.rn) x.rd (off k).1 (off k).2 = 0 then
          some fun y => if y = x.to.toNat then (moX (g x.fr.toNat).1 (g x.fr.toNat).2 x.p x.q (sgn x.ab x.rn) x.rd (off k).1 (off k).2, moY (g x.fr.toNat).1 (g x.fr.toNat).2 x.p x.q (sgn x.ab x.rn) x.rd (off k).1 (off k).2) else g y
          else none := by
        show (plO l (f1, f2) off k).bind _ = _
        rw [HU.out, Option.bind_some]
        simp only [hxD]
      have hM := fun W => move_c (g x.fr.toNat).1 (g x.fr.toNat).2 x.fr x.to x.p x.q x.rn x.rd (off k).1 (off k).2 x.ab W (by have := hrn.1; omega) hrn.2.1
      have hOff := HG.out k
      have cf1 := (B2.out.cell (x.fr.toNat * 2)).trans (ratA_0 N g (x := x.fr.toNat) (by omega))
      have cf2 := (B2.out.cell (x.fr.toNat * 2 + 1)).trans (ratA_1 N g (x := x.fr.toNat) (by omega))
      have ct1 := (B2.out.cell (x.to.toNat * 2)).trans (ratA_0 N g (x := x.to.toNat) (by omega))
      have ct2 := (B2.out.cell (x.to.toNat * 2 + 1)).trans (ratA_1 N g (x := x.to.toNat) (by omega))
      have ft1 := B2.out.frozen (x.to.toNat * 2)
      have ft2 := B2.out.frozen (x.to.toNat * 2 + 1)
      have hways : (moE (g x.fr.toNat).1 (g x.fr.toNat).2 x.p x.q (sgn x.ab x.rn) x.rd (off k).1 (off k).2 = 0 ∧ (moE (g x.fr.toNat).1 (g x.fr.toNat).2 x.p x.q (sgn x.ab x.rn) x.rd (off k).1 (off k).2 != 0) = false) ∨
          (moE (g x.fr.toNat).1 (g x.fr.toNat).2 x.p x.q (sgn x.ab x.rn) x.rd (off k).1 (off k).2 = 3 ∧ (moE (g x.fr.toNat).1 (g x.fr.toNat).2 x.p x.q (sgn x.ab x.rn) x.rd (off k).1 (off k).2 != 0) = true) := by
        unfold moE
        split
        · exact Or.inl ⟨rfl, rfl⟩
        · exact Or.inr ⟨rfl, rfl⟩
      clear hcl hx hok hxD hrn
      obtain ⟨xfr, xto, xp, xq, xrn, xrd, xab⟩ := x
      simp only at x0 x1 x2 x3 x4 x5 x6 ht0 htn hfr hst hM cf1 cf2 ct1 ct2 ft1 ft2 hways
      unfold moV at hM
      obtain ⟨hf0, hfn⟩ := hfr
      generalize moX (g xfr.toNat).1 (g xfr.toNat).2 xp xq (sgn xab xrn) xrd (off k).1 (off k).2 = mx at *
      generalize moY (g xfr.toNat).1 (g xfr.toNat).2 xp xq (sgn xab xrn) xrd (off k).1 (off k).2 = my at *
      generalize moE (g xfr.toNat).1 (g xfr.toNat).2 xp xq (sgn xab xrn) xrd (off k).1 (off k).2 = me at *
      have HST := Lib.hid hst
      have HM := Lib.hid hM
      have HO := Lib.hid (fun W h => hOff W hlt h)
      clear hst hM hOff
      generalize (g xfr.toNat).1 = gx at *
      generalize (g xfr.toNat).2 = gy at *
      generalize (g xto.toNat).1 = tx at *
      generalize (g xto.toNat).2 = ty at *
      generalize (off k).1 = ox at *
      generalize (off k).2 = oy at *
      rcases hways with ⟨rfl, hm⟩ | ⟨rfl, hm⟩
      · go_wp2
        (refine wp_region_alloc [0,1,2,3,4,5,6,7,8,9,10,11,12] [12] [14,15] 13 25 #[.int .i64 0, .int .i64 0] _ (by kernel_rfl) (by kernel_rfl) (by kernel_rfl) (by rfl) (by repeat (first | (with_reducible refine panic_then ?_) | (with_reducible refine panic_block ?_) | (with_reducible exact panic_body) | exact panic_body | refine panic_then ?_ | refine panic_block ?_)) rfl (fun _ _ => by go_simp) ?_
         simp only [pickI, pick, List.getElem?_cons_succ, List.getElem?_cons_zero]
         iterate 13 (first
           | (refine headZ_val (by rfl) (by first | exact wanted_free rfl | rfl) ?_
              apply Exists.intro
              refine ⟨fun X hX => ?_, ?_⟩
              · (obtain ⟨qz, qc, qf⟩ := bcl hX.out (by first | (simp; rfl) | rfl)
                 go_simp
                 first | done | (go_at_call 54; ((with_reducible refine (HO.out _ (hbw.trans ((Below.refl w.heap.size wr).alloc (by omega) _ |>.trans (hX.out.mono (by simp; omega))))).mono ?_); rintro e w2 ⟨rfl, hb2⟩; exact ⟨rfl, hb2⟩)) | (go_at_call 109; ((with_reducible refine (HM.out _).mono ?_); rintro e w2 ⟨rfl, hb2⟩; exact ⟨rfl, hb2⟩)) | rfl | exact ⟨rfl, rfl⟩)
              simp only [Act.put, List.setIfInBounds_toArray, List.set_cons_zero, List.set_cons_succ])
           | (refine headZ_pure (by rfl) (by first | exact wanted_free rfl | rfl) ?_
              apply Exists.intro
              refine ⟨fun X => ?_, ?_⟩
              · (go_simp
                 first | done | rfl)
              simp only [Act.put, List.setIfInBounds_toArray, List.set_cons_zero, List.set_cons_succ])
           | (refine headZ_pass (by rfl) ?_
              simp only [Act.put, List.setIfInBounds_toArray, List.set_cons_zero, List.set_cons_succ]))
         refine headZ_nil ?_
         intro w' Bq hw' hBq hBk
         have hb := hw'.out
         clear hw'
         try simp only [List.setIfInBounds_toArray, List.set_cons_zero, List.set_cons_succ]
         obtain ⟨hz, hc, hf⟩ := bcl hb (by first | (simp; rfl) | rfl))
        simp only [World.size_alloc] at hBq
        have cq0 := hBk.cell 0
        have cq1 := hBk.cell 1
        have fq0 := hBk.frozen 0
        have fq1 := hBk.frozen 1
        simp only [List.getElem?_toArray, List.getElem?_cons_zero, List.getElem?_cons_succ] at cq0 cq1
        have HBK := Lib.hid hBk
        clear hBk
        go_wp2
        go_roundw
        case rel =>
          have hbA : Below w.heap.size w w' := hbw.trans (((Below.refl w.heap.size wr).alloc (by omega) _).trans (hb.mono (by simp; omega)))
          refine ⟨k + 1, _, hlt, by go_num, HST.out.trans (if_pos (by trivial)), ?_, ?_, ?_⟩
          · refine Below.setCell (Below.setCell (Below.setCell (Below.setCell hbA ?_ _) ?_ _) ?_ _) ?_ _
            · show w.heap.size ≤ Bq; omega
            · show w.heap.size ≤ Bq; omega
            · show w.heap.size ≤ w.heap.size + 2; omega
            · show w.heap.size ≤ w.heap.size + 2; omega
          · simp only [World.setCell, Array.size_modify]
            omega
          · have h1 : Blk w' (w.heap.size + 2) 25 (ratA N g) := (B2.out.alloc _).below hb (B2.out.alloc _).lt
            show Blk _ _ _ _
            have h2 := (((h1.far (p := ⟨Bq, 0, none⟩) (by show w.heap.size + 2 ≠ Bq; omega) (.int .i64 mx)).far (p := ⟨Bq, 1, none⟩) (by show w.heap.size + 2 ≠ Bq; omega) (.int .i64 my)).set_ (xto.toNat * 2) (.int .i64 mx)).set_ (xto.toNat * 2 + 1) (.int .i64 my)
            rw [ratA_set] at h2
            exact h2
        case measure => simp [intOf]; omega
      · have hN : plO l (f1, f2) off l.length = none := by
          refine plO_mono (j := k + 1) ?_ (by have := HLL.out; omega)
          rw [HST.out, if_neg (by omega)]
        have HNo := Lib.hid hN
        clear hN
        go_wp2
        (refine wp_region_alloc [0,1,2,3,4,5,6,7,8,9,10,11,12] [12] [14,15] 13 25 #[.int .i64 0, .int .i64 0] _ (by kernel_rfl) (by kernel_rfl) (by kernel_rfl) (by rfl) (by repeat (first | (with_reducible refine panic_then ?_) | (with_reducible refine panic_block ?_) | (with_reducible exact panic_body) | exact panic_body | refine panic_then ?_ | refine panic_block ?_)) rfl (fun _ _ => by go_simp) ?_
         simp only [pickI, pick, List.getElem?_cons_succ, List.getElem?_cons_zero]
         iterate 13 (first
           | (refine headZ_val (by rfl) (by first | exact wanted_free rfl | rfl) ?_
              apply Exists.intro
              refine ⟨fun X hX => ?_, ?_⟩
              · (obtain ⟨qz, qc, qf⟩ := bcl hX.out (by first | (simp; rfl) | rfl)
                 go_simp
                 first | done | (go_at_call 54; ((with_reducible refine (HO.out _ (hbw.trans ((Below.refl w.heap.size wr).alloc (by omega) _ |>.trans (hX.out.mono (by simp; omega))))).mono ?_); rintro e w2 ⟨rfl, hb2⟩; exact ⟨rfl, hb2⟩)) | (go_at_call 109; ((with_reducible refine (HM.out _).mono ?_); rintro e w2 ⟨rfl, hb2⟩; exact ⟨rfl, hb2⟩)) | rfl | exact ⟨rfl, rfl⟩)
              simp only [Act.put, List.setIfInBounds_toArray, List.set_cons_zero, List.set_cons_succ])
           | (refine headZ_pure (by rfl) (by first | exact wanted_free rfl | rfl) ?_
              apply Exists.intro
              refine ⟨fun X => ?_, ?_⟩
              · (go_simp
                 first | done | rfl)
              simp only [Act.put, List.setIfInBounds_toArray, List.set_cons_zero, List.set_cons_succ])
           | (refine headZ_pass (by rfl) ?_
              simp only [Act.put, List.setIfInBounds_toArray, List.set_cons_zero, List.set_cons_succ]))
         refine headZ_nil ?_
         intro w' Bq hw' hBq hBk
         have hb := hw'.out
         clear hw'
         try simp only [List.setIfInBounds_toArray, List.set_cons_zero, List.set_cons_succ]
         obtain ⟨hz, hc, hf⟩ := bcl hb (by first | (simp; rfl) | rfl))
        simp only [World.size_alloc] at hBq
        have cq0 := hBk.cell 0
        have cq1 := hBk.cell 1
        have fq0 := hBk.frozen 0
        have fq1 := hBk.frozen 1
        simp only [List.getElem?_toArray, List.getElem?_cons_zero, List.getElem?_cons_succ] at cq0 cq1
        clear hBk
        go_wp2
        refine bodyPost_ret (v := .tuple #[.slice none 0 0, .int .i64 3]) (by simp only [results, Tryd.results53]; go_simp) rfl ⟨?_, Or.inl ⟨HNo.out, rfl⟩⟩
        have hbA : Below w.heap.size w w' := hbw.trans (((Below.refl w.heap.size wr).alloc (by omega) _).trans (hb.mono (by simp; omega)))
        refine Below.setCell (Below.setCell hbA ?_ _) ?_ _
        · show w.heap.size ≤ Bq; omega
        · show w.heap.size ≤ Bq; omega
    · have hkL : k = L := by omega
      subst hkL
      go_wp2
      refine bodyPost_ret (v := .tuple #[.slice (some ⟨w.heap.size + 2, 0, none⟩) N N, .int .i64 0]) (by simp only [results, Tryd.results53]; go_simp) rfl ⟨hbw, Or.inr ⟨g, by rw [HLL.out]; exact HU.out, rfl, B2.out⟩⟩

end Go.Proofs.YtehifkdfbiebfaaDoor
