/- Bench: the iterator of the way of an item. -/
import Derived.Test.YtkgklmmkkhbimaaBenchW
import Derived.Shelf.Abstract
import Derived.Shelf.RegionOpen
import Derived.OwnWalkIn
import Derived.TacticsInMore
import Derived.LoopNIn
import Derived.LoopIn
namespace Go.Proofs.Ytkgklmmkkhbimaa
open Go Go.RowKit Go.Shelf
attribute [local go_sem] Oper.semAt_some

/-- The measure of the iterator's loop, read off its own cell. -/
def wayM (l : List Bt) (Bi : Nat) (w : World) : Nat := match w.cell? ⟨Bi, 0, none⟩ with
  | some (.int _ x) => if x = 0 then 0 else (stF l x + 1).toNat
  | _ => 0

set_option maxRecDepth 100000 in
set_option maxHeartbeats 2000000 in
theorem way1_c {n : Int} {l : List Bt} (hv : vld n l = true) {x : Int} (hx0 : 0 ≤ x) (hxn : x < n) (A : Option Addr) (cap N Bi Bp Bs B0 row : Nat) (hN : (N : Int) = n) (w : World) (hl : Lst w B0 A l) (hB1 : B0 ≤ Bi) (hB2 : B0 ≤ row) (hB3 : B0 ≤ w.heap.size)
    (hp : Blk w Bp 65 #[.slice A l.length cap, .slice (some ⟨Bs, 0, none⟩) N N]) (hs : Blk w Bs 3 (stA N l)) (n1 : Bp ≠ Bi) (n2 : Bp ≠ row) (n3 : Bs ≠ Bi) (n4 : Bs ≠ row) :
    Iter Try.prog 64 #[.pointer (some ⟨Bi, 0, none⟩), .pointer (some ⟨Bp, 0, none⟩)] Bi (fun k => .int .i64 (itL l x k)) (wayK l x) (fun k => stF l (itL l x k)) w row := by
  intro ll J Jx W hset hbut hY h0 hc hf
  obtain ⟨s1, s2⟩ := way_spec hv hx0 hxn
  have hlen := vld_len hv
  have HV := Lib.hid hv
  have HL := Lib.hid hl
  have HP := Lib.hid hp
  have HS := Lib.hid hs
  clear hv hl hp hs
  refine callsIn_of_wp Try.func64 rfl trivial ?_ rfl
  simp only [Try.ntmps64, List.size_toArray, List.length_cons, List.length_nil, Nat.reduceAdd, Nat.reduceSub, Array.replicate_succ, Array.replicate_zero, List.push_toArray, List.append_toArray, List.nil_append, List.cons_append]
  have H1 := Lib.hid s1
  have H2 := Lib.hid s2
  have HSET := Lib.hid hset
  have HBUT := Lib.hid hbut
  have HY := Lib.hid hY
  have HC := Lib.hid hc
  have HF := Lib.hid hf
  clear s1 s2 hset hbut hY hc hf
  gi_wp2
  gi_loopw [5] (fun _ wr => ∃ k : Nat, k ≤ wayK l x ∧ J k wr ∧ Hid (wr.cell? ⟨Bi, 0, none⟩ = some (.int .i64 (itL l x k))) ∧ Hid (wr.frozen? ⟨Bi, 0, none⟩ = false)) (fun _ wr => wayM l Bi wr)
  case atStart => exact ⟨0, Nat.zero_le _, h0, HC, HF⟩
  case round =>
    obtain ⟨k, hk, hJ, HI, HZ⟩ := hrel
    by_cases hlt : k < wayK l x
    · obtain ⟨t1, t2⟩ := H2.out k hlt
      have hst := all_set HV.out t1 t2
      obtain ⟨b, hb, hto, hfr, hy0, hyn, hyd⟩ := fr_spec HV.out t1 t2
      have hslt := stF_lt l (itL l x k)
      obtain ⟨fn, tmps, assign, body, hy, hR⟩ := HY.out k wr hlt hJ HI.out HZ.out
      have hB := HBUT.out k wr hJ
      obtain ⟨bl, off, rfl, hbl, hcl⟩ := HL.out (by omega)
      have p1 := (HP.out.but hB n1 n2).cell 1
      have p2 := ((HS.out.but hB n3 n4).cell (itL l x k).toNat).trans (stA_get N l (by omega))
      have hci := HI.out
      have e1 : (((itL l x k).toNat : Nat) : Int) = itL l x k := by omega
      rw [e1] at p2
      simp only [List.getElem?_toArray, List.getElem?_cons_zero, List.getElem?_cons_succ] at p1
      have hbl1 : bl < w.heap.size := by omega
      have nb1 : bl ≠ Bi := by omega
      have nb2 : bl ≠ row := by omega
      have l1 : ∀ W3, But Bi row w W3 → W3.cell? ⟨bl, off + (stF l (itL l x k)).toNat * 7, none⟩ = some (.int .i64 (frF l (itL l x k))) := fun W3 h3 => by
        rw [h3.cell (p := ⟨bl, _, none⟩) hbl1 nb1 nb2, (hcl _ b hb).1, hfr]
      have l2 : ∀ W3, But Bi row w W3 → W3.cell? ⟨Bp, 0, none⟩ = some (.slice (some ⟨bl, off, none⟩) l.length cap) := fun W3 h3 => (HP.out.but h3 n1 n2).cell 0
      have hm1 : wayM l Bi wr = (stF l (itL l x k) + 1).toNat := by
        unfold wayM
        rw [hci]
        simp only
        rw [if_neg (by omega)]
      have hm2 : ∀ W3 : World, W3.cell? ⟨Bi, 0, none⟩ = some (.int .i64 (frF l (itL l x k))) → wayM l Bi W3 < (stF l (itL l x k) + 1).toNat := fun W3 h3 => by
        unfold wayM
        rw [h3]
        simp only
        split
        · omega
        · rename_i hne
          have := hyd hne
          omega
      have hnext : itL l x (k + 1) = frF l (itL l x k) := rfl
      have HM1 := Lib.hid hm1
      have HM2 := Lib.hid hm2
      have HNX := Lib.hid hnext
      have HL1 := Lib.hid l1
      have HL2 := Lib.hid l2
      have hN1 : itL l x k < N := by omega
      have hlenb : l.length ≤ 40 := by omega
      have HBC := Lib.hid hcl
      clear hm1 hm2 hnext l1 l2 hcl hb hto hfr hy0 hyn hyd e1
      generalize itL l x k = y at *
      generalize stF l y = st at *
      generalize frF l y = z at *
      have hy0' : (y != 0) = true := by simp; omega
      gi_wp2
      refine hR.mono ?_
      rintro e W3 (⟨rfl, hJ3, hc3, hf3⟩ | ⟨rfl, hJx3⟩)
      · have hB3 := HBUT.out (k + 1) W3 hJ3
        have q1 := HL1.out W3 hB3
        have q2 := HL2.out W3 hB3
        gi_wp2
        go_roundw
        case rel => exact ⟨k + 1, hlt, HSET.out _ _ _ hJ3, (World.cell?_setCell_same' _ _ _ (by rw [hc3]; rfl)).trans (by rw [HNX.out]), by
          show Hid _
          have : (W3.setCell ⟨Bi, 0, none⟩ (.int .i64 z)).frozen? ⟨Bi, 0, none⟩ = W3.frozen? ⟨Bi, 0, none⟩ := World.frozen?_setCell _ _ _ _
          exact this.trans hf3⟩
        case measure =>
          rw [HM1.out]
          exact HM2.out _ (World.cell?_setCell_same' _ _ _ (by rw [hc3]; rfl))
      · gi_wp2
        refine bodyPost_ret (results_none rfl _ _ _) rfl ?_
        exact ⟨⟨_, rfl⟩, .inr ⟨k, hlt, hJx3⟩⟩
    · have hkK : k = wayK l x := by omega
      have hci := HI.out
      rw [hkK, H1.out] at hci
      gi_wp2
      go_end0
      exact ⟨⟨_, rfl⟩, .inl (by rw [← hkK]; exact hJ)⟩

/-- way boxes the plan and the item, and hands back the iterator. -/
theorem way_c (v1 v2 : Value) (x : Int) (w : World) :
    Calls Try.prog 48 #[.agg #[v1, v2], .int .i64 x] w fun e w' => e = .returned (.func (.func 64) #[] #[.pointer (some ⟨w.heap.size + 1, 0, none⟩), .pointer (some ⟨w.heap.size, 0, none⟩)]) ∧
      (w.alloc (.cells #[v1, v2] 65)).alloc (.cells #[.int .i64 x] 3) = w' := by
  have hmf : ∀ (fn : Fn) (first cap : Array Value) (w : World), (Instr.makeFunc fn first cap).run Try.prog w = .ok (.func fn first cap) w := fun _ _ _ _ => rfl
  go_enter Try.func48, Try.ntmps48
  go_wp2
  go_ret
  exact ⟨rfl, rfl⟩
end Go.Proofs.Ytkgklmmkkhbimaa
