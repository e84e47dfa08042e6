/- Horns: the range over the blows. -/
import Derived.Test.YtehifkdfbiebfaaDoorK24
import Derived.Test.YtehifkdfbiebfaaDoorK25
namespace Go.Proofs.YtehifkdfbiebfaaDoor
open Go Go.RowKit Go.Shelf

def hornA (b0 b1 b2 b3 b4 b5 : Int) (A : Option Addr) (n cap : Nat) (mo tl : Int) : Array Value := #[.int .i64 b0, .int .i64 b1, .int .i64 b2, .int .i64 b3, .int .i64 b4, .int .i64 b5, .slice A n cap, .int .i64 mo, .int .i64 tl]
theorem brmk : ∀ (fn : Fn) (first cap : Array Value) (w : World), (Instr.makeFunc fn first cap).run Tryd.prog w = .ok (.func fn first cap) w := fun _ _ _ _ => rfl
set_option maxRecDepth 100000 in
set_option maxHeartbeats 4000000 in
theorem blows_c (b0 b1 b2 b3 b4 b5 : Int) (A : Option Addr) (n cap : Nat) (mo tl : Int) (w : World) :
    Calls Tryd.prog 78 #[.agg #[.int .i64 b0, .int .i64 b1, .int .i64 b2, .int .i64 b3, .int .i64 b4, .int .i64 b5, .slice A n cap, .int .i64 mo, .int .i64 tl]] w
      (fun en w' => en = .returned (.func (.func 115) #[] #[.pointer (some ⟨w.heap.size, 0, none⟩)]) ∧ w' = w.alloc (.cells #[.int .i64 b0, .int .i64 b1, .int .i64 b2, .int .i64 b3, .int .i64 b4, .int .i64 b5, .slice A n cap, .int .i64 mo, .int .i64 tl] 75)) := by
  have hm := brmk
  go_enter Tryd.func78, Tryd.ntmps78
  go_wp2
  go_ret
  exact ⟨rfl, rfl⟩
theorem two_le {n : Nat} (h : n ≤ 4) : 2 ^ n ≤ 16 := by
  rcases (show n = 0 ∨ n = 1 ∨ n = 2 ∨ n = 3 ∨ n = 4 by omega) with rfl | rfl | rfl | rfl | rfl <;> omega
set_option maxRecDepth 100000 in
set_option maxHeartbeats 8000000 in
theorem blows1_c (b0 b1 b2 b3 b4 b5 : Int) (A : Option Addr) (n cap M : Nat) (tl : Int) (F : Nat) (hn : n ≤ 4) (hM : M ≤ 16) :
    IterL Tryd.prog 115 #[.pointer (some ⟨F, 0, none⟩)] (M * 2 ^ n) (fun m => #[.agg #[.int .i64 (((m / 2 ^ n : Nat) : Int) + 1), .int .i64 ((m % 2 ^ n : Nat) : Int)]])
      (fun W => Blk W F 75 #[.int .i64 b0, .int .i64 b1, .int .i64 b2, .int .i64 b3, .int .i64 b4, .int .i64 b5, .slice A n cap, .int .i64 (M : Int), .int .i64 tl]) := by
  intro l J D W hgrow hSL hY h0
  have HSL := Lib.hid hSL
  have HY := Lib.hid hY
  have hB := hSL 0 W h0
  have c6 := hB.cell 6
  have c7 := hB.cell 7
  have zF := hB.lt
  simp only [List.getElem?_toArray, List.getElem?_cons_zero, List.getElem?_cons_succ] at c6 c7
  have hp2 := two_le hn
  have hp0 : 0 < 2 ^ n := Nat.pow_pos (by omega)
  have hdm : ∀ k s, s < 2 ^ n → (k * 2 ^ n + s) / 2 ^ n = k ∧ (k * 2 ^ n + s) % 2 ^ n = s := fun k s hs => by
    constructor
    · rw [Nat.mul_comm, Nat.mul_add_div hp0, Nat.div_eq_of_lt hs, Nat.add_zero]
    · rw [Nat.mul_comm, Nat.mul_add_mod, Nat.mod_eq_of_lt hs]
  have hDM := Lib.hid hdm
  have hw : wrap64 ((2 : Int) ^ n) = ((2 ^ n : Nat) : Int) := by
    rcases (show n = 0 ∨ n = 1 ∨ n = 2 ∨ n = 3 ∨ n = 4 by omega) with rfl | rfl | rfl | rfl | rfl <;> simp [wrap64]
  clear hgrow hSL hY hB hdm
  generalize 2 ^ n = p2 at *
  refine callsIn_of_wp Tryd.func115 rfl trivial ?_ rfl
  simp only [Tryd.ntmps115, List.size_toArray, List.length_cons, List.length_nil, Nat.reduceAdd, Nat.reduceSub, Array.replicate_succ, Array.replicate_zero, List.push_toArray, List.append_toArray, List.nil_append, List.cons_append]
  gi_wp2
  gi_loopw [7] (fun i wr => ∃ k : Nat, k ≤ M ∧ i = .int .i64 (k : Int) ∧ Hid (J (k * p2) wr)) (fun i _ => M - (intOf i).toNat)
  case atStart => exact ⟨0, by omega, rfl, Lib.hid (by rw [Nat.zero_mul]; exact h0)⟩
  case round =>
    obtain ⟨k, hk, rfl, HJ⟩ := hrel
    by_cases hlt : k < M
    · have hBk := HSL.out _ _ HJ.out
      have d6 := hBk.cell 6
      have d7 := hBk.cell 7
      have zk := hBk.lt
      simp only [List.getElem?_toArray, List.getElem?_cons_zero, List.getElem?_cons_succ] at d6 d7
      clear hBk c6 c7 zF
      have wk : IntKind.i64.wrap ((k : Int) + 1) = ((k + 1 : Nat) : Int) := by rw [IntKind.wrap_i64]; omega
      have hki : (k : Int) < (M : Int) := by omega
      gi_wp2
      simp only [hw]
      gi_loopw [14] (fun i wq => ∃ s : Nat, s ≤ p2 ∧ i = .int .i64 (s : Int) ∧ Hid (J (k * p2 + s) wq)) (fun i _ => p2 - (intOf i).toNat)
      case atStart => exact ⟨0, by omega, rfl, HJ⟩
      case round =>
        obtain ⟨s, hs, rfl, HJs⟩ := hrel
        clear d6 d7 zk HJ
        by_cases hls : s < p2
        · have hsi : (s : Int) < (p2 : Int) := by omega
          have ws : IntKind.i64.wrap ((s : Int) + 1) = ((s + 1 : Nat) : Int) := by rw [IntKind.wrap_i64]; omega
          have hlt2 : k * p2 + s < M * p2 := by
            have : (k + 1) * p2 ≤ M * p2 := Nat.mul_le_mul_right _ (by omega)
            rw [Nat.add_mul, Nat.one_mul] at this
            omega
          obtain ⟨fn, tmps, assign, body, hyr, hR⟩ := HY.out _ _ hlt2 HJs.out
          have hy' := hyr
          rw [(hDM.out k s hls).1, (hDM.out k s hls).2] at hy'
          clear hyr
          gi_wp2
          refine hR.mono ?_
          rintro e W3 (⟨rfl, hJ3⟩ | ⟨rfl, hD⟩)
          · have HJ3 := Lib.hid hJ3
            clear hJ3 hy' hR
            gi_wp2
            go_roundw
            case rel => exact ⟨s + 1, hls, by go_num, HJ3⟩
            case measure => simp [intOf]; omega
          · have HD := Lib.hid hD
            clear hD hy' hR
            gi_wp2
            refine bodyPost_ret (results_none rfl _ _ _) rfl ?_
            exact ⟨⟨_, rfl⟩, .inr HD.out⟩
        · obtain rfl : s = p2 := by omega
          have hJ9 : Hid (J ((k + 1) * s) wr) := Lib.hid (by rw [Nat.add_mul, Nat.one_mul]; exact HJs.out)
          clear HJs
          gi_wp2
          go_roundw
          case rel => exact ⟨k + 1, by omega, by go_num, hJ9⟩
          case measure => simp [intOf]; omega
    · obtain rfl : k = M := by omega
      gi_wp2
      refine bodyPost_end (results_none rfl _ _ _) rfl ?_
      exact ⟨⟨_, rfl⟩, .inl HJ.out⟩
end Go.Proofs.YtehifkdfbiebfaaDoor
