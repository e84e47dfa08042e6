/- Pitch: the primes lie as the text lays them (picked). Pitch: Ratio. -/
import Derived.Test.YtehifkdfbiebfaaDoorK17
import Derived.Test.YtehifkdfbiebfaaDoorK01
import Derived.Test.YtehifkdfbiebfaaDoorK18
namespace Go.Proofs.YtehifkdfbiebfaaDoor
open Go Go.RowKit

/-- The primes lie as the program's text lays them. -/
def PR (w : World) : Prop := 0 < w.heap.size ∧ ∀ i, i < 6 → w.cell? ⟨0, i, none⟩ = some (.int .i64 (prm i : Int))
theorem PR.up {w w' : World} (h : PR w) (hb : Below w.heap.size w w') : PR w' :=
  ⟨Nat.lt_of_lt_of_le h.1 hb.size, fun i hi => (hb.cell (p := ⟨0, i, none⟩) h.1).trans (h.2 i hi)⟩
theorem PR.under {w w' : World} {B : Nat} (h : PR w) (hb : Below B w w') (hB : 0 < B) : PR w' :=
  ⟨Nat.lt_of_lt_of_le h.1 hb.size, fun i hi => (hb.cell (p := ⟨0, i, none⟩) hB).trans (h.2 i hi)⟩
end Go.Proofs.YtehifkdfbiebfaaDoor
namespace Go.Proofs.YtehifkdfbiebfaaDoor
open Go Go.RowKit

def rtG (n d : Int) : Bool := decide (1 ≤ n) && (decide (n ≤ 1000000000) && (decide (1 ≤ d) && decide (d ≤ 1000000000)))
def raC (n d : Nat) : List Value := (List.range 6).map fun i => .int .i64 (raE3 n d i)
/-- What Ratio returns. -/
def raP (n d : Int) : Value := if rtG n d then (if chN n.toNat 6 = chN d.toNat 6 then .tuple #[.agg #[.int .i64 (raE3 n.toNat d.toNat 0), .int .i64 (raE3 n.toNat d.toNat 1), .int .i64 (raE3 n.toNat d.toNat 2), .int .i64 (raE3 n.toNat d.toNat 3), .int .i64 (raE3 n.toNat d.toNat 4), .int .i64 (raE3 n.toNat d.toNat 5)], .int .i64 0] else .tuple #[.agg #[.int .i64 0, .int .i64 0, .int .i64 0, .int .i64 0, .int .i64 0, .int .i64 0], .int .i64 9]) else .tuple #[.agg #[.int .i64 0, .int .i64 0, .int .i64 0, .int .i64 0, .int .i64 0, .int .i64 0], .int .i64 1]
theorem rtG_ways {n d : Int} (h : rtG n d = false) : n < 1 ∨ (1 ≤ n ∧ 1000000000 < n) ∨ (1 ≤ n ∧ n ≤ 1000000000 ∧ d < 1) ∨ (1 ≤ n ∧ n ≤ 1000000000 ∧ 1 ≤ d ∧ 1000000000 < d) := by
  unfold rtG at h
  simp at h
  omega
theorem rtG_of {n d : Int} (h : rtG n d = true) : 1 ≤ n ∧ n ≤ 1000000000 ∧ 1 ≤ d ∧ d ≤ 1000000000 := by simpa [rtG] using h
/-- The exponents of the first k primes, the others 0. -/
def raU (n d k i : Nat) : Int := if i < k then raE3 n d i else 0
theorem raU_lt {n d k i : Nat} (h : i < k) : raU n d k i = raE3 n d i := if_pos h
theorem raU_ge {n d k i : Nat} (h : ¬ i < k) : raU n d k i = 0 := if_neg h
/-- The six cells of f, the one at k put to x. -/
def cell6 (f : Nat → Int) : Array Value := #[.int .i64 (f 0), .int .i64 (f 1), .int .i64 (f 2), .int .i64 (f 3), .int .i64 (f 4), .int .i64 (f 5)]
def upd6 (f : Nat → Int) (k : Nat) (x : Int) : Nat → Int := fun i => if i = k then x else f i
theorem cell6_get (f : Nat → Int) {k : Nat} (h : k < 6) : (cell6 f)[k]? = some (.int .i64 (f k)) := by
  rcases lt6 h with rfl | rfl | rfl | rfl | rfl | rfl <;> rfl
theorem cell6_set (f : Nat → Int) {k : Nat} (h : k < 6) (x : Int) : (cell6 f).setIfInBounds k (.int .i64 x) = cell6 (upd6 f k x) := by
  rcases lt6 h with rfl | rfl | rfl | rfl | rfl | rfl <;> rfl
theorem cell6_ext {f g : Nat → Int} (h : ∀ i, i < 6 → f i = g i) : cell6 f = cell6 g := by
  unfold cell6
  rw [h 0 (by omega), h 1 (by omega), h 2 (by omega), h 3 (by omega), h 4 (by omega), h 5 (by omega)]
theorem upd6_at (f : Nat → Int) (k : Nat) (x : Int) : upd6 f k x k = x := if_pos rfl
theorem upd6_twice (f : Nat → Int) (k : Nat) (x y : Int) : upd6 (upd6 f k x) k y = upd6 f k y := by
  funext i
  unfold upd6
  split <;> rfl
theorem upd6_same {f : Nat → Int} {k : Nat} {x : Int} (h : f k = x) : upd6 f k x = f := by
  funext i
  unfold upd6
  split
  · subst h; rename_i e; rw [e]
  · rfl
theorem raU_next (n d k : Nat) : upd6 (raU n d k) k (raE3 n d k) = raU n d (k + 1) := by
  funext i
  unfold upd6 raU
  split
  · rename_i e
    subst e
    rw [if_pos (by omega)]
  · by_cases h : i < k
    · rw [if_pos h, if_pos (by omega)]
    · rw [if_neg h, if_neg (by omega)]
theorem raU_six (n d : Nat) : cell6 (raU n d 6) = cell6 (raE3 n d) := cell6_ext (fun _ hi => raU_lt hi)
theorem tm_nat (c p : Nat) : (c : Int) % (p : Int) = ((c % p : Nat) : Int) := rfl
theorem td_nat (c p : Nat) : (c : Int) / (p : Int) = ((c / p : Nat) : Int) := rfl
theorem val_bd {N c p j : Nat} (h : N = c * p ^ j) (hp : 2 ≤ p) (hc : 1 ≤ c) : j < N := by
  have h1 : j < p ^ j := Nat.lt_pow_self (by omega)
  have h2 : p ^ j ≤ N := by rw [h]; exact Nat.le_mul_of_pos_left _ hc
  omega
theorem pow_step {N c p j : Nat} (h : N = c * p ^ j) (hd : c % p = 0) : N = (c / p) * p ^ (j + 1) := by
  rw [h, Nat.pow_succ, Nat.mul_comm (p ^ j) p, ← Nat.mul_assoc, Nat.div_mul_cancel (Nat.dvd_of_mod_eq_zero hd)]
set_option maxRecDepth 100000 in
set_option maxHeartbeats 8000000 in
theorem ratio_bad (n d : Int) (w : World) (h : rtG n d = false) : Calls Tryd.prog 14 #[.int .i64 n, .int .i64 d] w (Ret (.tuple #[.agg #[.int .i64 0, .int .i64 0, .int .i64 0, .int .i64 0, .int .i64 0, .int .i64 0], .int .i64 1]) w) := by
  rcases rtG_ways h with h1 | ⟨h1, h2⟩ | ⟨h1, h2, h3⟩ | ⟨h1, h2, h3, h4⟩
  all_goals
    clear h
    go_enter Tryd.func14, Tryd.ntmps14
    go_wp2
    (refine bodyPost_ret (v := .tuple #[.agg #[.int .i64 0, .int .i64 0, .int .i64 0, .int .i64 0, .int .i64 0, .int .i64 0], .int .i64 1]) (by simp only [results, Tryd.results14]; go_simp) rfl ⟨rfl, ?_⟩)
    (repeat (first | (with_reducible exact bl_refl _) | (with_reducible refine bl_drew ?_) | (with_reducible refine bl_alloc ?_ _) | (with_reducible refine bl_set' ?_ ?_; · (first | omega | (simp; done) | (simp; omega))) | (with_reducible refine bl_last (by assumption) ?_) | (with_reducible refine bl_drewN ?_ _)))
set_option maxRecDepth 100000 in
set_option maxHeartbeats 8000000 in
theorem ratio_good (n d : Int) (w : World) (h1 : 1 ≤ n) (h2 : n ≤ 1000000000) (h3 : 1 ≤ d) (h4 : d ≤ 1000000000) (hP : PR w) : Calls Tryd.prog 14 #[.int .i64 n, .int .i64 d] w (Ret (if chN n.toNat 6 = chN d.toNat 6 then .tuple #[.agg (cell6 (raE3 n.toNat d.toNat)), .int .i64 0] else .tuple #[.agg #[.int .i64 0, .int .i64 0, .int .i64 0, .int .i64 0, .int .i64 0, .int .i64 0], .int .i64 9]) w) := by
  have HX := Lib.hid (fun i h w => idx_prm i h w)
  have c0 : w.cell? ⟨0, 0, none⟩ = some (.int .i64 2) := hP.2 0 (by omega)
  have c1 : w.cell? ⟨0, 1, none⟩ = some (.int .i64 3) := hP.2 1 (by omega)
  have c2 : w.cell? ⟨0, 2, none⟩ = some (.int .i64 5) := hP.2 2 (by omega)
  have c3 : w.cell? ⟨0, 3, none⟩ = some (.int .i64 7) := hP.2 3 (by omega)
  have c4 : w.cell? ⟨0, 4, none⟩ = some (.int .i64 11) := hP.2 4 (by omega)
  have c5 : w.cell? ⟨0, 5, none⟩ = some (.int .i64 13) := hP.2 5 (by omega)
  have z0 := hP.1
  have n1 : ¬ n < 1 := by omega
  have n2 : ¬ 1000000000 < n := by omega
  have n3 : ¬ d < 1 := by omega
  have n4 : ¬ 1000000000 < d := by omega
  obtain ⟨nn, hnn⟩ : ∃ nn : Nat, nn = n.toNat := ⟨_, rfl⟩
  obtain ⟨dd, hdd⟩ : ∃ dd : Nat, dd = d.toNat := ⟨_, rfl⟩
  have en : n = (nn : Int) := by omega
  have ed : d = (dd : Int) := by omega
  have b1 : 1 ≤ nn := by omega
  have b2 : nn ≤ 1000000000 := by omega
  have b3 : 1 ≤ dd := by omega
  have b4 : dd ≤ 1000000000 := by omega
  rw [← hnn, ← hdd]
  clear hP h1 h2 h3 h4 hnn hdd
  have EN := Lib.hid en
  have ED := Lib.hid ed
  clear en ed
  have HN := Lib.hid (fun k (hk : k ≤ 6) => chN_pos b1 k hk)
  have HD := Lib.hid (fun k (hk : k ≤ 6) => chN_pos b3 k hk)
  generalize hVV : (if chN nn 6 = chN dd 6 then (Value.tuple #[.agg (cell6 (raE3 nn dd)), .int .i64 0]) else .tuple #[.agg #[.int .i64 0, .int .i64 0, .int .i64 0, .int .i64 0, .int .i64 0, .int .i64 0], .int .i64 9]) = VV
  have HVV := Lib.hid hVV
  clear hVV
  go_enter Tryd.func14, Tryd.ntmps14
  go_wp2
  go_loopw [0, 1, 25] (fun x y i wr => ∃ k : Nat, k ≤ 6 ∧ i = .int .i64 (k : Int) ∧ x = .int .i64 (chN nn k : Int) ∧ y = .int .i64 (chN dd k : Int) ∧ Below w.heap.size w wr ∧ Hid (Blk wr w.heap.size 27 #[.int .i64 0, .int .i64 0, .int .i64 0, .int .i64 0, .int .i64 0, .int .i64 0]) ∧ Hid (Blk wr (w.heap.size + 1) 27 (cell6 (raU nn dd k)))) (fun _ _ i _ => 6 - (intOf i).toNat)
  case atStart => exact ⟨0, by omega, rfl, by rw [EN.out]; rfl, by rw [ED.out]; rfl, by (repeat (first | (with_reducible exact bl_refl _) | (with_reducible refine bl_drew ?_) | (with_reducible refine bl_alloc ?_ _) | (with_reducible refine bl_set' ?_ ?_; · (first | omega | (simp; done) | (simp; omega))) | (with_reducible refine bl_last (by assumption) ?_) | (with_reducible refine bl_drewN ?_ _))), Lib.hid ((Blk.new _ _ _).alloc _), Lib.hid (blkAt _ _ _ _ (by simp))⟩
  case round =>
    clear c0 c1 c2 c3 c4 c5 n1 n2 n3 n4 EN ED
    obtain ⟨k, hk, rfl, rfl, rfl, hbw, HR, HV⟩ := hrel
    by_cases hlt : k < 6
    · have hx := fun w => HX.out k hlt w
      obtain ⟨p1, p2⟩ := prm_pos hlt
      obtain ⟨q1, q2⟩ := HN.out k hk
      obtain ⟨q3, q4⟩ := HD.out k hk
      have e8 : IntKind.i64.wrap ((k : Int) + 1) = ((k + 1 : Nat) : Int) := by rw [IntKind.wrap_i64]; omega
      have HF := Lib.hid (⟨p1, fun j m c x (h : m = c * prm k ^ j) hc => val_of (p := prm k) p1 h hc⟩ : 2 ≤ prm k ∧ ∀ (j m c x : Nat), m = c * prm k ^ j → c % prm k ≠ 0 → val (prm k) m = j ∧ cof (prm k) m = c)
      have HVN := Lib.hid (val_lt (m := 30) p1 q1 (by omega))
      have HVD := Lib.hid (val_lt (m := 30) p1 q3 (by omega))
      have HS : Hid (chN nn (k + 1) = cof (prm k) (chN nn k) ∧ chN dd (k + 1) = cof (prm k) (chN dd k) ∧ raE3 nn dd k = (val (prm k) (chN nn k) : Int) - (val (prm k) (chN dd k) : Int)) := Lib.hid ⟨rfl, rfl, rfl⟩
      have HP2 : Hid (∀ c : Nat, 1 ≤ c → c % prm k = 0 → (c / prm k) * prm k = c ∧ 1 ≤ c / prm k ∧ c / prm k < c) := Lib.hid (fun c h1 h2 => by
        have e := Nat.div_mul_cancel (Nat.dvd_of_mod_eq_zero h2)
        refine ⟨e, ?_, Nat.div_lt_self (by omega) p1⟩
        rcases Nat.eq_zero_or_pos (c / prm k) with g | g
        · rw [g] at e; omega
        · exact g)
      generalize prm k = p at *
      generalize chN nn k = N at *
      generalize chN dd k = D at *
      have hsz := HV.out.lt
      have hq0 : (p : Int) ≠ 0 := by omega
      have hfk : raU nn dd k k = 0 := raU_ge (by omega)
      have HP3 : Hid (2 ≤ p) := Lib.hid p1
      go_wp2
      go_loopw [0] (fun x wr2 => ∃ c j : Nat, x = .int .i64 (c : Int) ∧ Hid (N = c * p ^ j) ∧ 1 ≤ c ∧ c ≤ 1000000000 ∧ Below w.heap.size w wr2 ∧ Hid (Blk wr2 w.heap.size 27 #[.int .i64 0, .int .i64 0, .int .i64 0, .int .i64 0, .int .i64 0, .int .i64 0]) ∧ Hid (Blk wr2 (w.heap.size + 1) 27 (cell6 (upd6 (raU nn dd k) k (j : Int))))) (fun x _ => (intOf x).toNat)
      case atStart => exact ⟨N, 0, rfl, Lib.hid (by simp), q1, by omega, hbw, HR, Lib.hid (by rw [show upd6 (raU nn dd k) k ((0 : Nat) : Int) = raU nn dd k from upd6_same hfk]; exact HV.out)⟩
      case round =>
        clear hbw HR HV hsz
        obtain ⟨c, j, rfl, HE, hc1, hc2, hbw, HR, HV⟩ := hrel
        have hj := val_bd HE.out HP3.out hc1
        have hsz := HV.out.lt
        have cV := (HV.out.cell k).trans (cell6_get _ hlt)
        rw [upd6_at] at cV
        have fV := HV.out.frozen k
        have ht := tm_nat c p
        have hd' := td_nat c p
        by_cases hm : c % p = 0
        · obtain ⟨g1, g2, g3⟩ := HP2.out c hc1 hm
          have hst := Lib.hid (pow_step HE.out hm)
          rw [hm] at ht
          have ht : (c : Int) % (p : Int) = 0 := ht
          have wd : IntKind.i64.wrap (((c / p : Nat) : Int)) = ((c / p : Nat) : Int) := by rw [IntKind.wrap_i64]; omega
          have wj : IntKind.i64.wrap ((j : Int) + 1) = ((j + 1 : Nat) : Int) := by rw [IntKind.wrap_i64]; omega
          generalize c / p = c' at *
          clear hm
          go_wp2
          go_roundw
          case rel => exact ⟨c', j + 1, rfl, hst, g2, by omega, bl_set' (by show w.heap.size ≤ w.heap.size + 1; omega) hbw, Lib.hid (HR.out.far (by show w.heap.size ≠ w.heap.size + 1; omega) _), Lib.hid (by
            have h5 := HV.out.set_ k (.int .i64 ((j + 1 : Nat) : Int))
            rw [cell6_set _ hlt, upd6_twice] at h5
            exact h5)⟩
          case measure => simp [intOf]; omega
        · obtain ⟨v1, v2⟩ := HF.out.2 j N c 0 HE.out hm
          have ht0 : ¬ (c : Int) % (p : Int) = 0 := by rw [ht]; omega
          have ht' : ((c : Int) % (p : Int) == 0) = false := by simpa using ht0
          clear ht hd' ht0
          have HV1 := Lib.hid v1
          have HV2 := Lib.hid v2
          clear v1 v2 hm cV fV
          go_wp2
          go_loopw [1] (fun x wr2 => ∃ c2 j2 : Nat, x = .int .i64 (c2 : Int) ∧ Hid (D = c2 * p ^ j2) ∧ 1 ≤ c2 ∧ c2 ≤ 1000000000 ∧ Below w.heap.size w wr2 ∧ Hid (Blk wr2 w.heap.size 27 #[.int .i64 0, .int .i64 0, .int .i64 0, .int .i64 0, .int .i64 0, .int .i64 0]) ∧ Hid (Blk wr2 (w.heap.size + 1) 27 (cell6 (upd6 (raU nn dd k) k ((j : Int) - (j2 : Int)))))) (fun x _ => (intOf x).toNat)
          case atStart => exact ⟨D, 0, rfl, Lib.hid (by simp), q3, by omega, hbw, HR, Lib.hid (by rw [show (j : Int) - ((0 : Nat) : Int) = (j : Int) by omega]; exact HV.out)⟩
          case round =>
            clear hbw HR HV hsz ht'
            obtain ⟨c2, j2, rfl, HE2, hc3, hc4, hbw, HR, HV⟩ := hrel
            have hj2 := val_bd HE2.out HP3.out hc3
            have hsz := HV.out.lt
            have cV := (HV.out.cell k).trans (cell6_get _ hlt)
            rw [upd6_at] at cV
            have fV := HV.out.frozen k
            have ht := tm_nat c2 p
            have hd' := td_nat c2 p
            by_cases hm : c2 % p = 0
            · obtain ⟨g1, g2, g3⟩ := HP2.out c2 hc3 hm
              have hst := Lib.hid (pow_step HE2.out hm)
              rw [hm] at ht
              have ht : (c2 : Int) % (p : Int) = 0 := ht
              have wd : IntKind.i64.wrap (((c2 / p : Nat) : Int)) = ((c2 / p : Nat) : Int) := by rw [IntKind.wrap_i64]; omega
              have wj : IntKind.i64.wrap ((j : Int) - (j2 : Int) - 1) = (j : Int) - ((j2 + 1 : Nat) : Int) := by rw [IntKind.wrap_i64]; omega
              generalize c2 / p = c' at *
              clear hm
              go_wp2
              go_roundw
              case rel => exact ⟨c', j2 + 1, rfl, hst, g2, by omega, bl_set' (by show w.heap.size ≤ w.heap.size + 1; omega) hbw, Lib.hid (HR.out.far (by show w.heap.size ≠ w.heap.size + 1; omega) _), Lib.hid (by
                have h5 := HV.out.set_ k (.int .i64 ((j : Int) - ((j2 + 1 : Nat) : Int)))
                rw [cell6_set _ hlt, upd6_twice] at h5
                exact h5)⟩
              case measure => simp [intOf]; omega
            · obtain ⟨v3, v4⟩ := HF.out.2 j2 D c2 0 HE2.out hm
              have ht0 : ¬ (c2 : Int) % (p : Int) = 0 := by rw [ht]; omega
              have ht' : ((c2 : Int) % (p : Int) == 0) = false := by simpa using ht0
              clear ht hd' ht0
              obtain ⟨s1, s2, s3⟩ := HS.out
              rw [HV2.out] at s1
              rw [v4] at s2
              rw [HV1.out, v3] at s3
              have HS1 := Lib.hid s1
              have HS2 := Lib.hid s2
              have HS3 := Lib.hid s3
              clear v3 v4 hm cV fV s1 s2 s3
              go_wp2
              go_roundw
              case rel => exact ⟨k + 1, hlt, by go_num, by rw [HS1.out], by rw [HS2.out], hbw, HR, Lib.hid (by rw [← raU_next, HS3.out]; exact HV.out)⟩
              case measure => simp [intOf]; omega
    · obtain rfl : k = 6 := by omega
      have g1 := (HN.out 6 (by omega)).1
      have hV := HV.out
      rw [raU_six] at hV
      have hl := hV.lt
      have hl0 := HR.out.lt
      have e0 := hV.cell 0
      have e1 := hV.cell 1
      have e2 := hV.cell 2
      have e3 := hV.cell 3
      have e4 := hV.cell 4
      have e5 := hV.cell 5
      have f0 := HR.out.cell 0
      have f1 := HR.out.cell 1
      have f2 := HR.out.cell 2
      have f3 := HR.out.cell 3
      have f4 := HR.out.cell 4
      have f5 := HR.out.cell 5
      have g0 := HR.out.frozen 0
      have g1 := HR.out.frozen 1
      have g2 := HR.out.frozen 2
      have g3 := HR.out.frozen 3
      have g4 := HR.out.frozen 4
      have g5 := HR.out.frozen 5
      simp only [cell6, List.getElem?_toArray, List.getElem?_cons_zero, List.getElem?_cons_succ] at e0 e1 e2 e3 e4 e5 f0 f1 f2 f3 f4 f5
      have hv := HVV.out
      by_cases he : chN nn 6 = chN dd 6
      · rw [if_pos he] at hv
        unfold cell6 at hv
        have HE := Lib.hid hv
        clear hv HVV hV
        rw [he]
        go_wp2
        rw [← HE.out]
        (refine bodyPost_ret (v := .tuple #[.agg #[.int .i64 (raE3 nn dd 0), .int .i64 (raE3 nn dd 1), .int .i64 (raE3 nn dd 2), .int .i64 (raE3 nn dd 3), .int .i64 (raE3 nn dd 4), .int .i64 (raE3 nn dd 5)], .int .i64 0]) (by simp only [results, Tryd.results14]; go_simp) rfl ⟨rfl, ?_⟩)
        repeat (first | (with_reducible exact hbw) | (with_reducible refine bl_set' ?_ ?_; · (dsimp only; omega)))
      · rw [if_neg he] at hv
        have HE := Lib.hid hv
        have he' : ¬ (chN nn 6 : Int) = (chN dd 6 : Int) := by omega
        have he2 : ((chN nn 6 : Int) != (chN dd 6 : Int)) = true := by simpa using he'
        generalize (chN nn 6 : Int) = X at *
        generalize (chN dd 6 : Int) = Y at *
        clear hv HVV hV he
        go_wp2
        rw [← HE.out]
        (refine bodyPost_ret (v := .tuple #[.agg #[.int .i64 0, .int .i64 0, .int .i64 0, .int .i64 0, .int .i64 0, .int .i64 0], .int .i64 9]) (by simp only [results, Tryd.results14]; go_simp) rfl ⟨rfl, ?_⟩)
        repeat (first | (with_reducible exact hbw) | (with_reducible refine bl_set' ?_ ?_; · (dsimp only; omega)))
theorem PRatio_c (n d : Int) (w : World) (hP : PR w) : Calls Tryd.prog 14 #[.int .i64 n, .int .i64 d] w (Ret (raP n d) w) := by
  unfold raP
  cases h : rtG n d
  · exact ratio_bad n d w h
  · obtain ⟨h1, h2, h3, h4⟩ := rtG_of h
    exact ratio_good n d w h1 h2 h3 h4 hP
end Go.Proofs.YtehifkdfbiebfaaDoor
