/- Readings: a contradiction. Readings of which each leads to a new item: what from finds, and what a further reading does. Plain. -/
import Derived.Test.YtehifkdfbiebfaaDoorK27
import Derived.Test.YtehifkdfbiebfaaDoorK31
import Derived.Test.YtehifkdfbiebfaaDoorK21
namespace Go.Proofs.YtehifkdfbiebfaaDoor
open Go Go.RowKit Go.Shelf

/-- Sizes that agree with all readings. -/
def Feas (l : List Rd) (p : Nat → Int) : Prop := ∀ j, j < 2 * l.length → p (edAt l j).to ≤ p (edAt l j).fr + (edAt l j).mo
def edOf (l : List Rd) (x : Int) : Ed := edAt l (edIx x)
def sumC (l : List Rd) (c : List Int) : Int := (c.map fun x => (edOf l x).mo).sum
/-- A contradiction. -/
structure ChainOk (n : Nat) (l : List Rd) (c : List Int) : Prop where
  pos : 0 < c.length
  len : c.length ≤ n
  ed : ∀ k, k < c.length → edIx (c.getD k 0) < 2 * l.length ∧ (edOf l (c.getD k 0)).st = c.getD k 0
  nx : ∀ k, k < c.length → (edOf l (c.getD k 0)).to = (edOf l (c.getD ((k + 1) % c.length) 0)).fr
  neg : sumC l c < 0
def chF (l : List Rd) (s : TS) (a m : Nat) : List Int := (List.range m).map fun k => s.by' (prdN l s a k)
theorem chF_len (l : List Rd) (s : TS) (a m : Nat) : (chF l s a m).length = m := by simp [chF]
theorem chF_succ (l : List Rd) (s : TS) (a m : Nat) : chF l s a (m + 1) = chF l s a m ++ [s.by' (prdN l s a m)] := by simp [chF, List.range_succ]
theorem chF_sum (l : List Rd) (s : TS) (a : Nat) : ∀ m, sumC l (chF l s a m) = sumBk l s a m
  | 0 => rfl
  | m + 1 => by
    rw [chF_succ]
    unfold sumC
    rw [List.map_append, List.sum_append]
    have := chF_sum l s a m
    unfold sumC at this
    rw [this]
    show sumBk l s a m + ((edOf l (s.by' (prdN l s a m))).mo + 0) = sumBk l s a m + (edOf l (s.by' (prdN l s a m))).mo
    omega
theorem sumC_rev (l : List Rd) (c : List Int) : sumC l c.reverse = sumC l c := by
  unfold sumC
  rw [List.map_reverse, List.sum_reverse]
theorem chF_get (l : List Rd) (s : TS) (a : Nat) {m k : Nat} (h : k < m) : (chF l s a m).reverse.getD k 0 = s.by' (prdN l s a (m - 1 - k)) := by
  rw [List.getD_eq_getElem?_getD, List.getElem?_reverse (by rw [chF_len]; exact h), chF_len]
  unfold chF
  rw [List.getElem?_map, List.getElem?_range (by omega)]
  rfl
theorem chain_ok {n : Nat} {l : List Rd} {R : Nat} {s : TS} (hI : TInv n l R (2 * l.length) s) {a m : Nat} (hb : ∀ k, s.by' (prdN l s a k) ≠ 0) (m1 : 1 ≤ m) (m2 : m ≤ n) (hp : prdN l s a m = a) (hs : sumBk l s a m < 0) : ChainOk n l (chF l s a m).reverse := by
  have hlen : (chF l s a m).reverse.length = m := by rw [List.length_reverse, chF_len]
  have sp := fun k => (hI.pre _ (hb k)).spec
  refine ⟨by omega, by omega, fun k hk => ?_, fun k hk => ?_, by rw [sumC_rev, chF_sum]; exact hs⟩
  · rw [hlen] at hk
    rw [chF_get l s a hk]
    exact ⟨(sp _).1, (sp _).2.1⟩
  · rw [hlen] at hk
    rw [hlen, chF_get l s a hk, chF_get l s a (Nat.mod_lt _ (by omega))]
    have e1 : (edOf l (s.by' (prdN l s a (m - 1 - k)))).to = prdN l s a (m - 1 - k) := (sp _).2.2.1
    have e2 : (edOf l (s.by' (prdN l s a (m - 1 - (k + 1) % m)))).fr = prdN l s a (m - 1 - (k + 1) % m + 1) := rfl
    rw [e1, e2]
    by_cases hk' : k + 1 = m
    · rw [hk', Nat.mod_self, show m - 1 - k = 0 by omega, show m - 1 - 0 + 1 = m by omega, hp]
      rfl
    · rw [Nat.mod_eq_of_lt (by omega)]
      congr 1
      omega
def allK (n : Nat) (v : Nat) : Bool := decide (v < n)
theorem done_all {n : Nat} {l : List Rd} (hl : RdOk n l) {r : Nat} (h : (sR l (ts0 (allK n)) r).la < 0) : Feas l (sR l (ts0 (allK n)) r).fa := fun j hj => by
  have hk : ∀ r v, v < n → (sR l (ts0 (allK n)) r).kn v = true := by
    have one : ∀ (s : TS) (R : Nat) (e : Ed), (∀ v, v < n → s.kn v = true) → ∀ v, v < n → (s.relax R e).kn v = true := fun s R e hs v hv => by
      unfold TS.relax
      split
      · show updF s.kn e.to true v = true
        unfold updF; split
        · rfl
        · exact hs v hv
      · exact hs v hv
    have rnd : ∀ (s : TS) (R : Nat), (∀ v, v < n → s.kn v = true) → ∀ j v, v < n → (rndK l R s j).kn v = true := fun s R hs j => by
      induction j with
      | zero => exact hs
      | succ j ih => exact one _ _ _ ih
    intro r
    induction r with
    | zero => exact fun v hv => decide_eq_true hv
    | succ r ih => exact rnd _ _ ih _
  exact (done_feas hl h j hj (hk r _ (ed_ok hl hj).1)).2
def lenOf : Value → Nat
  | .slice _ n _ => n
  | _ => 0
theorem own_form {w : World} {base n : Nat} {e : TypeId} {v : Value} {xs : List Value} {size : Nat} (h : w.ownsRow base e size v n xs) : ∃ A cap, v = .slice A n cap := by
  rcases h.2 with ⟨rfl, rfl⟩ | ⟨g, cap, cur, rfl, _⟩
  · exact ⟨none, 0, rfl⟩
  · exact ⟨_, cap, rfl⟩
theorem blk_grown {w w1 : World} {row : Option Nat} {g : Nat} {t : TypeId} {cs : Array Value} (h : Blk w g t cs) (hg : w.grownBy w1 row) (hne : row ≠ some g) : Blk w1 g t cs := (hg.block g h.lt (fun e => hne e.symm)).trans h
def ContP (n : Nat) (l : List Rd) (w : World) (e : Ending) (w' : World) : Prop :=
  Below w.heap.size w w' ∧ (((∃ p, Feas l p) ∧ e = .returned (.slice none 0 0)) ∨ ∃ c A cap, ChainOk n l c ∧ e = .returned (.slice A c.length cap) ∧ IntsR w' w'.heap.size A c ∧ A.isSome = true)
theorem find_by {n : Nat} {l : List Rd} (hl : RdOk n l) {R : Nat} {s : TS} (hI : TInv n l R (2 * l.length) s) {v : Nat} (hb : s.by' v ≠ 0) (A : Option Addr) (cap : Nat) (w : World) (hr : Rds w w.heap.size A l) :
    Calls Tryd.prog 62 #[.slice A l.length cap, .int .i64 (s.by' v)] w (Ret (.agg #[.int .i64 (prd l s v : Int), .int .i64 (edOf l (s.by' v)).to, .int .i64 (edOf l (s.by' v)).mo]) w) := by
  obtain ⟨h1, h2, _⟩ := (hI.pre _ hb).spec
  have := find_c hl h1 A cap w hr
  rw [h2] at this
  exact this
set_option maxRecDepth 100000 in
set_option maxHeartbeats 8000000 in
theorem contradiction_c {n : Nat} {l : List Rd} (hl : RdOk n l) (A : Option Addr) (cap : Nat) (w : World) (hr : Rds w w.heap.size A l) :
    Calls Tryd.prog 56 #[.int .i64 (n : Int), .slice A l.length cap] w (ContP n l w) := by
  obtain ⟨i0, hi, hz0, hz1, hz2⟩ := info_parts Tryd.infoInt
  have hfd : ∀ (a b c : Value) (w : World), (Instr.field 137 (.agg #[a, b, c]) 0).run Tryd.prog w = .ok a w := fun _ _ _ _ => by kernel_rfl
  have HL := Lib.hid hl
  have HR := Lib.hid hr
  have hn40 := hl.1.2
  have hn1 := hl.1.1
  clear hl hr
  go_enter Tryd.func56, Tryd.ntmps56
  go_upto_region 2 with fail
  refine wp_letter ?_
  intro W1 hW1
  have hz : Tryd.zeroCells128 = tabA (ts0 (allK 0)) := by kernel_rfl
  rw [hz] at hW1
  have b1 : Below w.heap.size w W1 := by rw [hW1]; (repeat (first | (with_reducible exact bl_refl _) | (with_reducible refine bl_drew ?_) | (with_reducible refine bl_alloc ?_ _) | (with_reducible refine bl_set' ?_ ?_; · (first | omega | (simp; done) | (simp; omega))) | (with_reducible refine bl_last (by assumption) ?_) | (with_reducible refine bl_drewN ?_ _)))
  have T1 : Blk W1 w.heap.size 128 (tabA (ts0 (allK 0))) := by rw [hW1]; exact Blk.new _ _ _
  have HT1 := Lib.hid T1
  have HB1 := Lib.hid b1
  clear hW1 hz T1 b1
  go_wp2
  go_loopw [6, 11] (fun _ i wr => ∃ k : Nat, k ≤ n ∧ i = .int .i64 (k : Int) ∧ Hid (Below w.heap.size w wr) ∧ Hid (Blk wr w.heap.size 128 (tabA (ts0 (allK k))))) (fun _ i _ => n - (intOf i).toNat)
  case atStart => exact ⟨0, by omega, rfl, HB1.out, HT1.out⟩
  case round =>
    obtain ⟨k, hk, rfl, HB, HT⟩ := hrel
    have hlw := HT.out.lt
    by_cases hlt : k < n
    · have hk40 : k < 40 := by omega
      have hi40 : (k : Int) < 40 := by omega
      have c1 := (HT.out.cell k).trans (tab_kn _ hk40)
      have f1 := HT.out.frozen k
      go_wp2
      go_roundw
      case rel =>
        refine ⟨k + 1, by omega, by go_num, bl_set' (Nat.le_refl _) HB.out, ?_⟩
        have e : updF (allK k) k true = allK (k + 1) := by
          funext v
          unfold updF allK
          by_cases h : v = k
          · rw [if_pos h, decide_eq_true (by omega)]
          · rw [if_neg h]
            by_cases h2 : v < k
            · rw [decide_eq_true h2, decide_eq_true (by omega)]
            · rw [decide_eq_false h2, decide_eq_false (by omega)]
        rw [← e, ← tab_known _ hk40]
        exact HT.out.set_ k _
      case measure => simp [intOf]; omega
    · obtain rfl : k = n := by omega
      go_wp2_with fail
      refine calls_letter ?_
      intro W2 hW2
      have B2 : Below w.heap.size w W2 := by rw [hW2]; exact HB.out
      have T2 : Blk W2 w.heap.size 128 (tabA (ts0 (allK k))) := by rw [hW2]; exact HT.out
      clear hW2
      refine (settle_c HL.out (allK k) A cap w.heap.size W2 (HR.out.below B2) T2).mono ?_
      rintro e W3 ⟨hbt, m, hm, rfl, T3⟩
      have B3 : Below w.heap.size w W3 := B2.trans (hbt.below (by have := T2.lt; omega) (Nat.le_refl _) (Nat.le_refl _))
      have hI := TInv.rounds HL.out (allK k) (m + 1)
      have hfe := fun h => done_all HL.out (r := m + 1) h
      have hcir : ¬ (sR l (ts0 (allK k)) (m + 1)).la < 0 → ∃ v : Nat, (sR l (ts0 (allK k)) (m + 1)).la = (v : Int) ∧ v < k ∧ (∀ j, (sR l (ts0 (allK k)) (m + 1)).by' (prdN l (sR l (ts0 (allK k)) (m + 1)) v j) ≠ 0) ∧
          ∃ q, 1 ≤ q ∧ q ≤ k ∧ prdN l (sR l (ts0 (allK k)) (m + 1)) v (k + q) = prdN l (sR l (ts0 (allK k)) (m + 1)) v k ∧ (∀ i, 1 ≤ i → i < q → prdN l (sR l (ts0 (allK k)) (m + 1)) v (k + i) ≠ prdN l (sR l (ts0 (allK k)) (m + 1)) v k) ∧
            sumBk l (sR l (ts0 (allK k)) (m + 1)) (prdN l (sR l (ts0 (allK k)) (m + 1)) v k) q < 0 := by
        intro h
        obtain rfl : m = k + 1 := by
          rcases hm.2 with h' | h'
          · exact absurd h' h
          · exact h'
        have hv : (sR l (ts0 (allK k)) (k + 1 + 1)).la = (((sR l (ts0 (allK k)) (k + 1 + 1)).la.toNat : Nat) : Int) := by omega
        obtain ⟨c1, c2, c3⟩ := circle HL.out h hv
        exact ⟨_, hv, c1, c2, c3⟩
      have HT3 := Lib.hid T3
      have HB3 := Lib.hid B3
      clear T2 B2 T3 B3 hbt hm HT HB
      generalize sR l (ts0 (allK k)) (m + 1) = s at *
      have HI := Lib.hid hI
      simp only
      by_cases h1 : s.la < 0
      · have d1 : decide (s.la < 0) = true := decide_eq_true h1
        have HFe := Lib.hid (hfe h1)
        clear hfe hcir hI
        go_wp2
        go_ret
        exact ⟨HB3.out, Or.inl ⟨⟨_, HFe.out⟩, rfl⟩⟩
      · have d1 : decide (s.la < 0) = false := decide_eq_false h1
        obtain ⟨v, hv, hvk, hby, q, q1, q2, q3, q4, q5⟩ := hcir h1
        rw [hv] at d1
        rw [hv]
        have hlt : ∀ j, prdN l s v j < k := fun j => by
          have h1 := (HI.out.pre _ (hby j)).spec
          have h2 := (ed_ok HL.out h1.1).2.1
          rw [h1.2.2.1] at h2
          exact h2
        have HFd : Hid (∀ j W, Below w.heap.size w W → Calls Tryd.prog 62 #[.slice A l.length cap, .int .i64 (s.by' (prdN l s v j))] W (Ret (.agg #[.int .i64 (prdN l s v (j + 1) : Int), .int .i64 (edOf l (s.by' (prdN l s v j))).to, .int .i64 (edOf l (s.by' (prdN l s v j))).mo]) W)) :=
          Lib.hid (fun j W hb => find_by HL.out HI.out (hby j) A cap W (HR.out.up hb))
        have HLt := Lib.hid hlt
        have HQ := Lib.hid (And.intro q3 (And.intro q4 q5))
        have HBy := Lib.hid hby
        clear hfe hcir hI hv h1 hby hlt q3 q4 q5
        go_wp2
        go_loopw [7, 24] (fun at_ i wr => ∃ j : Nat, j ≤ k ∧ i = .int .i64 (j : Int) ∧ at_ = .int .i64 (prdN l s v j : Int) ∧ Hid (Below w.heap.size w wr) ∧ Hid (Blk wr w.heap.size 128 (tabA s))) (fun _ i _ => k - (intOf i).toNat)
        case atStart => exact ⟨0, by omega, rfl, rfl, HB3.out, HT3.out⟩
        case round =>
          obtain ⟨j, hj, rfl, rfl, HB, HT⟩ := hrel
          have hl1 := HLt.out j
          have hl40 : prdN l s v j < 40 := by omega
          have hi40 : (prdN l s v j : Int) < 40 := by omega
          have c1 := (HT.out.cell (80 + prdN l s v j)).trans (tab_by s hl40)
          have hlw := HT.out.lt
          by_cases hjk : j < k
          · have HC := Lib.hid (HFd.out j wr HB.out)
            clear hl1
            generalize prdN l s v j = a at *
            go_wp2_with (go_at_call 62; ((with_reducible refine (HC.out).mono ?_); rintro e w' ⟨rfl, hb⟩; obtain ⟨hz, hc, hf⟩ := bcl hb (by first | (simp; rfl) | rfl)))
            go_roundw
            case rel => exact ⟨j + 1, by omega, by go_num, rfl, bl_trans HB.out hb, HT.out.below hb hlw⟩
            case measure => simp [intOf]; omega
          · obtain rfl : j = k := by omega
            clear c1
            obtain ⟨q3, q4, q5⟩ := HQ.out
            have hadd := prdN_add l s v j
            have hper : prdN l s (prdN l s v j) q = prdN l s v j := by rw [← hadd]; exact q3
            have hne : ∀ i, 1 ≤ i → i < q → prdN l s (prdN l s v j) i ≠ prdN l s v j := fun i h1 h2 => by rw [← hadd]; exact q4 i h1 h2
            have hFd : ∀ i W, Below w.heap.size w W → Calls Tryd.prog 62 #[.slice A l.length cap, .int .i64 (s.by' (prdN l s (prdN l s v j) i))] W (Ret (.agg #[.int .i64 (prdN l s (prdN l s v j) (i + 1) : Int), .int .i64 (edOf l (s.by' (prdN l s (prdN l s v j) i))).to, .int .i64 (edOf l (s.by' (prdN l s (prdN l s v j) i))).mo]) W) := fun i W hb => by
              have := HFd.out (j + i) W hb
              rw [hadd, show j + i + 1 = j + (i + 1) by omega, hadd] at this
              exact this
            have hok : ChainOk j l (chF l s (prdN l s v j) q).reverse := chain_ok HI.out (fun i => by rw [← hadd]; exact HBy.out _) q1 q2 hper q5
            have hlt : ∀ i, prdN l s (prdN l s v j) i < j := fun i => by rw [← hadd]; exact HLt.out _
            have HP := Lib.hid hper
            have HN := Lib.hid hne
            have HFE := Lib.hid hFd
            have HOk := Lib.hid hok
            have HLu := Lib.hid hlt
            clear q3 q4 q5 hadd hper hne hFd hok hlt HQ HFd HBy HLt hlw hl40 hi40 hl1
            generalize prdN l s v j = a at *
            go_wp2
            go_loopw [8, 9] (fun c i wr => ∃ x : Nat, x ≤ q ∧ i = .int .i64 (prdN l s a x : Int) ∧ Hid (wr.ownsRow (w.heap.size + 1) 3 1 c x ((chF l s a x).map (Value.int .i64))) ∧ Hid (Below w.heap.size w wr) ∧ Hid (Blk wr w.heap.size 128 (tabA s))) (fun c _ _ => q - lenOf c)
            case atStart => exact ⟨0, by omega, rfl, World.ownsRow_nil _ _ _ _, HB.out, HT.out⟩
            case round =>
              obtain ⟨x, hx, rfl, HO, HB, HT⟩ := hrel
              obtain ⟨Ac, cc, rfl⟩ := own_form HO.out
              have hl40 : prdN l s a x < 40 := by have := HLu.out x; omega
              have hi40 : (prdN l s a x : Int) < 40 := by omega
              have c1 := (HT.out.cell (80 + prdN l s a x)).trans (tab_by s hl40)
              have hlw := HT.out.lt
              by_cases hxq : x = q
              · subst hxq
                have hx0 : ((x : Int) == 0) = false := by rw [beq_eq_false_iff_ne]; omega
                have hxa : ((prdN l s a x : Int) != (a : Int)) = false := by rw [HP.out]; simp
                clear c1
                have hx1 : 0 < (chF l s a x).length := by rw [chF_len]; omega
                have HOw : Hid (wr.ownsRow (w.heap.size + 1) 3 1 (.slice Ac x cc) (chF l s a x).length ((chF l s a x).map (Value.int .i64))) := by rw [chF_len]; exact HO
                go_wp2_with fail
                (with_reducible refine (Rev_own HOw.out hx1 (by rw [chF_len]; omega)).mono ?_)
                rintro e w4 ⟨rfl, hb4, A4, c4, he, hI4⟩
                obtain ⟨rfl, _, rfl⟩ : Ac = A4 ∧ x = (chF l s a x).length ∧ cc = c4 := by simpa using he
                have HI4 := Lib.hid hI4
                have HB4 := Lib.hid hb4
                clear hI4 hb4 he
                simp only
                go_wp2
                go_ret
                obtain ⟨b5, o5, rfl, hb5, hc5⟩ := HI4.out (by rw [List.length_reverse]; exact hx1)
                have hlr : (chF l s a x).reverse.length = x := by rw [List.length_reverse, chF_len]
                refine ⟨HB.out.trans (HB4.out.mono (by omega)), Or.inr ⟨(chF l s a x).reverse, _, cc, HOk.out, ?_, fun _ => ⟨b5, o5, rfl, hb5, hc5⟩, rfl⟩⟩
                rw [hlr]
                rfl
              · have hxc : (((x : Int) == 0) = true) ∨ (((x : Int) == 0) = false ∧ ((prdN l s a x : Int) != (a : Int)) = true) := by
                  by_cases h0 : x = 0
                  · exact Or.inl (by rw [h0]; rfl)
                  · refine Or.inr ⟨by rw [beq_eq_false_iff_ne]; omega, ?_⟩
                    have := HN.out x (by omega) (by omega)
                    simp
                    omega
                have HC := Lib.hid (HFE.out x)
                have HCS := Lib.hid (chF_succ l s a x)
                generalize prdN l s a x = y at *
                rcases hxc with hx0 | ⟨hx0, hxa⟩
                · go_wp2_with (first | (at_builtin; refine wpList_append_own _ rfl _ _ 22 rfl (w.heap.size + 1) 3 i0 (.int .i64 0) 1 8 Tryd.underlying22 hi hz0 hz1 hz2 rfl (by decide) _ _ _ rfl (HO.out.alloc _) ⟨wr.heap.size, 0, none⟩ 1 1 [.int .i64 (s.by' y)] rfl rfl (cell_one_new _ _ _) (fun u hu => by simp at hu; subst hu; rfl) (by unfold maxLen; omega) (by omega) (by simp; omega) ?_; intro v' w1 hown' hgrow _; have b1 : Below w.heap.size w w1 := (bl_alloc HB.out _).grown hgrow (by simp; omega) (fun g hg => by have := (HO.out.lt g hg).1; omega); have t1 : Blk w1 w.heap.size 128 (tabA s) := blk_grown (HT.out.alloc _) hgrow (fun e => by have := (HO.out.lt _ e).1; omega); have e1 := (t1.cell (80 + y)).trans (tab_by s hl40); have z1 := t1.lt; have HC1 := Lib.hid (HC.out w1 b1); have HB1' := Lib.hid b1; have HT1' := Lib.hid t1; have HO1 := Lib.hid hown'; clear b1 t1 hown' hgrow) | (go_at_call 62; ((with_reducible refine (HC1.out).mono ?_); rintro e w' ⟨rfl, hb⟩; obtain ⟨hz, hc, hf⟩ := bcl hb (by first | (simp; rfl) | rfl))))
                  obtain ⟨A1, cc1, rfl⟩ := own_form HO1.out
                  go_roundw
                  case rel => exact ⟨x + 1, by omega, rfl, by rw [HCS.out, List.map_append]; exact own_below HO1.out hb, bl_trans HB1'.out hb, HT1'.out.below hb z1⟩
                  case measure =>
                    show q - (x + 1) < q - x
                    omega
                · go_wp2_with (first | (at_builtin; refine wpList_append_own _ rfl _ _ 22 rfl (w.heap.size + 1) 3 i0 (.int .i64 0) 1 8 Tryd.underlying22 hi hz0 hz1 hz2 rfl (by decide) _ _ _ rfl (HO.out.alloc _) ⟨wr.heap.size, 0, none⟩ 1 1 [.int .i64 (s.by' y)] rfl rfl (cell_one_new _ _ _) (fun u hu => by simp at hu; subst hu; rfl) (by unfold maxLen; omega) (by omega) (by simp; omega) ?_; intro v' w1 hown' hgrow _; have b1 : Below w.heap.size w w1 := (bl_alloc HB.out _).grown hgrow (by simp; omega) (fun g hg => by have := (HO.out.lt g hg).1; omega); have t1 : Blk w1 w.heap.size 128 (tabA s) := blk_grown (HT.out.alloc _) hgrow (fun e => by have := (HO.out.lt _ e).1; omega); have e1 := (t1.cell (80 + y)).trans (tab_by s hl40); have z1 := t1.lt; have HC1 := Lib.hid (HC.out w1 b1); have HB1' := Lib.hid b1; have HT1' := Lib.hid t1; have HO1 := Lib.hid hown'; clear b1 t1 hown' hgrow) | (go_at_call 62; ((with_reducible refine (HC1.out).mono ?_); rintro e w' ⟨rfl, hb⟩; obtain ⟨hz, hc, hf⟩ := bcl hb (by first | (simp; rfl) | rfl))))
                  obtain ⟨A1, cc1, rfl⟩ := own_form HO1.out
                  go_roundw
                  case rel => exact ⟨x + 1, by omega, rfl, by rw [HCS.out, List.map_append]; exact own_below HO1.out hb, bl_trans HB1'.out hb, HT1'.out.below hb z1⟩
                  case measure =>
                    show q - (x + 1) < q - x
                    omega
end Go.Proofs.YtehifkdfbiebfaaDoor
namespace Go.Proofs.YtehifkdfbiebfaaDoor
open Go Go.RowKit

theorem chain_no {n : Nat} {l : List Rd} {c : List Int} {p : Nat → Int} (hp : Feas l p) (h : ChainOk n l c) : False := by
  have hm := h.pos
  have key : ∀ j, j ≤ c.length → p (edOf l (c.getD (j % c.length) 0)).fr ≤ p (edOf l (c.getD 0 0)).fr + sumC l (c.take j) := by
    intro j
    induction j with
    | zero => intro _; rw [Nat.zero_mod]; simp [sumC]
    | succ j ih =>
      intro hj
      have i1 := ih (by omega)
      rw [Nat.mod_eq_of_lt (show j < c.length by omega)] at i1
      have i2 := hp _ (h.ed j (by omega)).1
      have i3 := h.nx j (by omega)
      have e : c.take (j + 1) = c.take j ++ [c.getD j 0] := by
        rw [List.take_add_one, List.getD_eq_getElem?_getD, List.getElem?_eq_getElem (show j < c.length by omega)]
        rfl
      rw [e]
      unfold sumC at *
      rw [List.map_append, List.sum_append]
      have i4 : p (edOf l (c.getD j 0)).to ≤ p (edOf l (c.getD j 0)).fr + (edOf l (c.getD j 0)).mo := i2
      rw [i3] at i4
      show _ ≤ _ + (_ + ((edOf l (c.getD j 0)).mo + 0))
      omega
  have h1 := key c.length (Nat.le_refl _)
  rw [Nat.mod_self, List.take_length] at h1
  have := h.neg
  omega
theorem done_neg {n : Nat} {l : List Rd} (hl : RdOk n l) {p : Nat → Int} (hp : Feas l p) {kn : Nat → Bool} {m : Nat} (hm : Done n l kn m) : (sR l (ts0 kn) (m + 1)).la < 0 := by
  apply Classical.byContradiction
  intro h
  obtain rfl : m = n + 1 := by
    rcases hm.2 with h' | h'
    · exact absurd h' h
    · exact h'
  have hv : (sR l (ts0 kn) (n + 1 + 1)).la = (((sR l (ts0 kn) (n + 1 + 1)).la.toNat : Nat) : Int) := by omega
  have hI := TInv.rounds hl kn (n + 2)
  obtain ⟨_, c2, q, q1, q2, q3, _, q5⟩ := circle hl h hv
  generalize (sR l (ts0 kn) (n + 1 + 1)).la.toNat = v at *
  have hadd := prdN_add l (sR l (ts0 kn) (n + 2)) v n
  exact chain_no hp (chain_ok hI (a := prdN l (sR l (ts0 kn) (n + 2)) v n) (m := q) (fun k => by rw [← hadd]; exact c2 _) q1 q2 (by rw [← hadd]; exact q3) q5)
/-- What the rounds keep. -/
theorem sR_keep {l : List Rd} {P : TS → Prop} (h0 : ∀ s x, P s → P { s with la := x }) (h1 : ∀ s R j, j < 2 * l.length → P s → P (s.relax R (edAt l j))) {kn : Nat → Bool} (hs : P (ts0 kn)) : ∀ r, P (sR l (ts0 kn) r) := by
  have rnd : ∀ (s : TS) (R : Nat), P s → ∀ j, j ≤ 2 * l.length → P (rndK l R s j) := fun s R h j => by
    induction j with
    | zero => exact fun _ => h0 _ _ h
    | succ j ih => exact fun hj => h1 _ _ _ (by omega) (ih (by omega))
  intro r
  induction r with
  | zero => exact hs
  | succ r ih => exact rnd _ _ ih _ (Nat.le_refl _)
theorem fa_low {l : List Rd} {p : Nat → Int} (hp : Feas l p) {kn : Nat → Bool} (h0 : ∀ v, kn v = true → p v ≤ 0) (r v : Nat) : (sR l (ts0 kn) r).kn v = true → p v ≤ (sR l (ts0 kn) r).fa v := by
  refine sR_keep (P := fun s => ∀ v, s.kn v = true → p v ≤ s.fa v) (fun s x h => h) (fun s R j hj h v hv => ?_) (fun v hv => h0 v hv) r v
  have hf := hp j hj
  unfold TS.relax at hv ⊢
  split at hv
  · rename_i hg
    rw [if_pos hg]
    have hk := (TS.go_iff hg).1
    have hh := h _ hk
    show p v ≤ updF s.fa (edAt l j).to (s.fa (edAt l j).fr + (edAt l j).mo) v
    have hv' : updF s.kn (edAt l j).to true v = true := hv
    unfold updF at hv' ⊢
    split
    · rename_i e; subst e; omega
    · rename_i e; rw [if_neg e] at hv'; exact h v hv'
  · rename_i hg
    rw [if_neg hg]
    exact h v hv
theorem fa_top {l : List Rd} {kn : Nat → Bool} {a : Nat} (ha : kn a = true) (r : Nat) : (sR l (ts0 kn) r).kn a = true ∧ (sR l (ts0 kn) r).fa a ≤ 0 := by
  refine sR_keep (P := fun s => s.kn a = true ∧ s.fa a ≤ 0) (fun s x h => h) (fun s R j hj h => ?_) ⟨ha, Int.le_refl 0⟩ r
  unfold TS.relax
  split
  · rename_i hg
    refine ⟨?_, ?_⟩
    · show updF s.kn (edAt l j).to true a = true
      unfold updF; split
      · rfl
      · exact h.1
    · show updF s.fa (edAt l j).to (s.fa (edAt l j).fr + (edAt l j).mo) a ≤ 0
      unfold updF; split
      · rename_i e
        have := (TS.go_iff hg).2 (by rw [← e]; exact h.1)
        rw [← e] at this
        have := h.2
        omega
      · exact h.2
  · exact h
section
variable {fr : Nat → Nat} {lo hi : Nat → Int}
theorem rd_tree {m k : Nat} (x : List Rd) (h : k < m) : rdAt (treeL fr lo hi m ++ x) k = ⟨fr k, k + 1, lo k, hi k⟩ := by
  unfold rdAt
  rw [List.getElem?_append_left (by rw [treeL_len]; exact h), treeL_get m k h]
  rfl
theorem ed_tree {m k : Nat} (x : List Rd) (h : k < m) : edAt (treeL fr lo hi m ++ x) (2 * k) = ⟨(k : Int) + 1, fr k, k + 1, hi k⟩ ∧ edAt (treeL fr lo hi m ++ x) (2 * k + 1) = ⟨-(k : Int) - 1, k + 1, fr k, -lo k⟩ := by
  unfold edAt
  rw [if_pos (by omega), if_neg (by omega), show 2 * k / 2 = k by omega, show (2 * k + 1) / 2 = k by omega, rd_tree x h]
  exact ⟨rfl, rfl⟩
theorem feas_tree {m : Nat} {p : Nat → Int} (x : List Rd) : (∀ k, k < m → p (k + 1) ≤ p (fr k) + hi k ∧ p (fr k) ≤ p (k + 1) - lo k) ↔ (∀ j, j < 2 * m → p (edAt (treeL fr lo hi m ++ x) j).to ≤ p (edAt (treeL fr lo hi m ++ x) j).fr + (edAt (treeL fr lo hi m ++ x) j).mo) := by
  constructor
  · intro h j hj
    have h1 := h (j / 2) (by omega)
    obtain ⟨e1, e2⟩ := ed_tree (fr := fr) (lo := lo) (hi := hi) (m := m) x (k := j / 2) (by omega)
    rcases (show j = 2 * (j / 2) ∨ j = 2 * (j / 2) + 1 by omega) with e | e
    · rw [e, e1]; exact h1.1
    · rw [e, e2]; show p (fr (j / 2)) ≤ p (j / 2 + 1) + -lo (j / 2); omega
  · intro h k hk
    obtain ⟨e1, e2⟩ := ed_tree (fr := fr) (lo := lo) (hi := hi) (m := m) x (k := k) hk
    have h1 := h (2 * k) (by omega)
    have h2 := h (2 * k + 1) (by omega)
    rw [e1] at h1
    rw [e2] at h2
    have h2' : p (fr k) ≤ p (k + 1) + -lo k := h2
    exact ⟨h1, by omega⟩
theorem feas_tree0 {m : Nat} {p : Nat → Int} : (∀ k, k < m → p (k + 1) ≤ p (fr k) + hi k ∧ p (fr k) ≤ p (k + 1) - lo k) ↔ Feas (treeL fr lo hi m) p := by
  have := feas_tree (fr := fr) (lo := lo) (hi := hi) (m := m) (p := p) []
  rw [List.append_nil] at this
  unfold Feas
  rw [treeL_len]
  exact this
theorem Dt_Feas (hf : ∀ k, fr k ≤ k) (hl : ∀ k, lo k ≤ hi k) {m a : Nat} (ha : a ≤ m) : Feas (treeL fr lo hi m) (fun v => Dt fr lo hi m a v) := feas_tree0.1 fun k hk => Dt_feas hf hl m a k ha hk
/-- What from finds. -/
theorem from_tree (hf : ∀ k, fr k ≤ k) (hl : ∀ k, lo k ≤ hi k) {m a : Nat} (ha : a ≤ m) (hok : RdOk (m + 1) (treeL fr lo hi m)) {q : Nat} (hq : Done (m + 1) (treeL fr lo hi m) (updF (fun _ => false) a true) q) {b : Nat} (hb : b ≤ m) :
    (sR (treeL fr lo hi m) (ts0 (updF (fun _ => false) a true)) (q + 1)).kn b = true ∧ (sR (treeL fr lo hi m) (ts0 (updF (fun _ => false) a true)) (q + 1)).fa b = Dt fr lo hi m a b := by
  have hF := Dt_Feas (lo := lo) (hi := hi) hf hl ha
  have hla := done_neg hok hF hq
  have hfe := done_feas hok hla
  have hlow := fun v => fa_low hF (kn := updF (fun _ => false) a true) (fun v hv => by
    unfold updF at hv
    split at hv
    · rename_i e; subst e; show Dt fr lo hi m v v ≤ 0; rw [Dt_self m v ha]; exact Int.le_refl 0
    · cases hv) (q + 1) v
  have htop := fa_top (l := treeL fr lo hi m) (kn := updF (fun _ => false) a true) (a := a) (updF_same _ _ _) (q + 1)
  generalize sR (treeL fr lo hi m) (ts0 (updF (fun _ => false) a true)) (q + 1) = s at *
  rw [treeL_len] at hfe
  have hed := fun k hk => ed_tree (fr := fr) (lo := lo) (hi := hi) (m := m) [] (k := k) hk
  simp only [List.append_nil] at hed
  have fe1 : ∀ k, k < m → s.kn (fr k) = true → s.kn (k + 1) = true ∧ s.fa (k + 1) ≤ s.fa (fr k) + hi k := fun k hk h => by
    have := hfe (2 * k) (by omega)
    rw [(hed k hk).1] at this
    exact this h
  have fe2 : ∀ k, k < m → s.kn (k + 1) = true → s.kn (fr k) = true ∧ s.fa (fr k) ≤ s.fa (k + 1) + -lo k := fun k hk h => by
    have := hfe (2 * k + 1) (by omega)
    rw [(hed k hk).2] at this
    exact this h
  have down : ∀ j, j ≤ m → s.kn j = true → s.kn 0 = true := by
    intro j
    induction j using Nat.strongRecOn with
    | _ j ih =>
      intro hj h
      cases j with
      | zero => exact h
      | succ j =>
        have := hf j
        exact ih (fr j) (by omega) (by omega) (fe2 j (by omega) h).1
  have k0 := down a ha htop.1
  have up : ∀ j, j ≤ m → s.kn j = true := by
    intro j
    induction j using Nat.strongRecOn with
    | _ j ih =>
      intro hj
      cases j with
      | zero => exact k0
      | succ j =>
        have := hf j
        exact (fe1 j (by omega) (ih (fr j) (by omega) (by omega))).1
  refine ⟨up b hb, ?_⟩
  have h1 := hlow b (up b hb)
  have h2 := Dt_least (lo := lo) (hi := hi) hf (p := s.fa) m (fun k hk => ⟨(fe1 k hk (up _ (by have := hf k; omega))).2, by have := (fe2 k hk (up _ (by omega))).2; omega⟩) a b ha hb
  have h1' : Dt fr lo hi m a b ≤ s.fa b := h1
  omega
/-- A further reading: sizes that agree with all. -/
theorem join_ok (hf : ∀ k, fr k ≤ k) (hl : ∀ k, lo k ≤ hi k) {m a b : Nat} (ha : a ≤ m) (hb : b ≤ m) {tl th : Int} (h3 : tl ≤ th) :
    (∃ p, Feas (treeL fr lo hi m ++ [⟨a, b, tl, th⟩]) p) ↔ (-Dt fr lo hi m b a ≤ th ∧ tl ≤ Dt fr lo hi m a b) := by
  have elast : edAt (treeL fr lo hi m ++ [⟨a, b, tl, th⟩]) (2 * m) = ⟨(m : Int) + 1, a, b, th⟩ ∧ edAt (treeL fr lo hi m ++ [⟨a, b, tl, th⟩]) (2 * m + 1) = ⟨-(m : Int) - 1, b, a, -tl⟩ := by
    have hr : rdAt (treeL fr lo hi m ++ [⟨a, b, tl, th⟩]) m = ⟨a, b, tl, th⟩ := by
      unfold rdAt
      rw [List.getElem?_append_right (by rw [treeL_len]; exact Nat.le_refl _), treeL_len, Nat.sub_self]
      rfl
    unfold edAt
    rw [if_pos (by omega), if_neg (by omega), show 2 * m / 2 = m by omega, show (2 * m + 1) / 2 = m by omega, hr]
    exact ⟨rfl, rfl⟩
  have hlen : (treeL fr lo hi m ++ [(⟨a, b, tl, th⟩ : Rd)]).length = m + 1 := by rw [List.length_append, treeL_len]; rfl
  constructor
  · rintro ⟨p, hp⟩
    unfold Feas at hp
    rw [hlen] at hp
    have h1 := (feas_tree (fr := fr) (lo := lo) (hi := hi) (m := m) (p := p) [⟨a, b, tl, th⟩]).2 fun j hj => hp j (by omega)
    have d1 := Dt_least (lo := lo) (hi := hi) hf m h1 a b ha hb
    have d2 := Dt_least (lo := lo) (hi := hi) hf m h1 b a hb ha
    have e1 := hp (2 * m) (by omega)
    have e2 := hp (2 * m + 1) (by omega)
    rw [elast.1] at e1
    rw [elast.2] at e2
    have e1' : p b ≤ p a + th := e1
    have e2' : p a ≤ p b + -tl := e2
    omega
  · rintro ⟨h1, h2⟩
    obtain ⟨p, hp, e1, e2⟩ := join_feas hf hl ha hb h1 h2 h3
    refine ⟨p, fun j hj => ?_⟩
    rw [hlen] at hj
    by_cases hjm : j < 2 * m
    · exact (feas_tree (fr := fr) (lo := lo) (hi := hi) (m := m) (p := p) [⟨a, b, tl, th⟩]).1 hp j hjm
    · rcases (show j = 2 * m ∨ j = 2 * m + 1 by omega) with e | e
      · subst e; rw [elast.1]; exact e1
      · subst e; rw [elast.2]; show p a ≤ p b + -tl; omega
/-- A contradiction passes the further reading. -/
theorem chain_passes (hf : ∀ k, fr k ≤ k) (hl : ∀ k, lo k ≤ hi k) {m : Nat} {x : Rd} {c : List Int} (h : ChainOk (m + 1) (treeL fr lo hi m ++ [x]) c) : ∃ k, k < c.length ∧ (c.getD k 0 = (m : Int) + 1 ∨ c.getD k 0 = -((m : Int) + 1)) := by
  apply Classical.byContradiction
  intro hno
  have hlen : (treeL fr lo hi m ++ [x]).length = m + 1 := by rw [List.length_append, treeL_len]; rfl
  have hst : ∀ j, (edAt (treeL fr lo hi m ++ [x]) j).st = if j % 2 = 0 then ((j / 2 : Nat) : Int) + 1 else -((j / 2 : Nat) : Int) - 1 := fun j => by
    unfold edAt
    split <;> rfl
  have hlt : ∀ k, k < c.length → edIx (c.getD k 0) < 2 * m := fun k hk => by
    obtain ⟨h1, h2⟩ := h.ed k hk
    rw [hlen] at h1
    apply Classical.byContradiction
    intro hge
    apply hno
    refine ⟨k, hk, ?_⟩
    have h3 : (edAt (treeL fr lo hi m ++ [x]) (edIx (c.getD k 0))).st = c.getD k 0 := h2
    rw [hst] at h3
    split at h3
    · left; omega
    · right; omega
  have he : ∀ j, j < 2 * m → edAt (treeL fr lo hi m ++ [x]) j = edAt (treeL fr lo hi m) j := fun j hj => by
    obtain ⟨a1, a2⟩ := ed_tree (fr := fr) (lo := lo) (hi := hi) (m := m) [x] (k := j / 2) (by omega)
    obtain ⟨b1, b2⟩ := ed_tree (fr := fr) (lo := lo) (hi := hi) (m := m) [] (k := j / 2) (by omega)
    rw [List.append_nil] at b1 b2
    rcases (show j = 2 * (j / 2) ∨ j = 2 * (j / 2) + 1 by omega) with e | e
    · rw [e, a1, b1]
    · rw [e, a2, b2]
  have heo : ∀ k, k < c.length → edOf (treeL fr lo hi m ++ [x]) (c.getD k 0) = edOf (treeL fr lo hi m) (c.getD k 0) := fun k hk => he _ (hlt k hk)
  refine chain_no (n := m + 1) (l := treeL fr lo hi m) (c := c) (Dt_Feas (lo := lo) (hi := hi) hf hl (m := m) (a := 0) (by omega)) (ChainOk.mk h.pos h.len (fun k hk => ?_) (fun k hk => ?_) ?_)
  · rw [treeL_len, ← heo k hk]
    exact ⟨hlt k hk, (h.ed k hk).2⟩
  · have := h.nx k hk
    rw [heo k hk, heo _ (Nat.mod_lt _ h.pos)] at this
    exact this
  · have hs : sumC (treeL fr lo hi m) c = sumC (treeL fr lo hi m ++ [x]) c := by
      unfold sumC
      congr 1
      apply List.map_congr_left
      intro y hy
      obtain ⟨k, hk, rfl⟩ := List.mem_iff_getElem.1 hy
      have := heo k hk
      rw [List.getD_eq_getElem?_getD, List.getElem?_eq_getElem hk] at this
      show (edOf (treeL fr lo hi m) c[k]).mo = (edOf (treeL fr lo hi m ++ [x]) c[k]).mo
      have e : edOf (treeL fr lo hi m ++ [x]) c[k] = edOf (treeL fr lo hi m) c[k] := this
      rw [e]
    rw [hs]
    exact h.neg
end
end Go.Proofs.YtehifkdfbiebfaaDoor
