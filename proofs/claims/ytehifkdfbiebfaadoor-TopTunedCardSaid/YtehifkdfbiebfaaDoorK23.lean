/- Run and Play as the laws use them: the error as a number; Cmp. -/
import Derived.Test.YtehifkdfbiebfaaDoorK22
namespace Go.Proofs.YtehifkdfbiebfaaDoor
open Go.RowKit

/-- What Run leaves, in one shape. -/
theorem Run_u (n : Int) (l : List Bt) (f1 f2 e1 e2 : Int) (A : Option Addr) (cap : Nat) (w : World) (hl : Lst w w.heap.size A l) (hlen : l.length ≤ 9223372036854775807) :
    Calls Tryd.prog 18 #[.int .i64 n, .slice A l.length cap, .agg #[.int .i64 f1, .int .i64 f2], .agg #[.int .i64 e1, .int .i64 e2]] w
      (fun e w' => Below w.heap.size w w' ∧ ∃ (B : Option Addr) (N c : Nat) (k : Int), e = .returned (.tuple #[.slice B N c, .int .i64 k]) ∧ N ≤ 40 ∧
        ((k != 0) = true ∨ (k = 0 ∧ ∃ g h, N = n.toNat ∧ runG n l f1 f2 e1 e2 = true ∧ plO l (f1, f2) (fun _ => (-e1, e2)) l.length = some g ∧ plO l (f1, f2) (fun _ => (e1, e2)) l.length = some h ∧ BandsR w' w'.heap.size B N g h))) := by
  refine (Run_c n l f1 f2 e1 e2 A cap w hl hlen).mono ?_
  rintro e w' ⟨hb, ⟨_, rfl⟩ | ⟨_, _, rfl⟩ | ⟨hg, g, h, B, c, p1, p2, rfl, hB⟩⟩
  · exact ⟨hb, none, 0, 0, 1, rfl, by omega, Or.inl rfl⟩
  · exact ⟨hb, none, 0, 0, 3, rfl, by omega, Or.inl rfl⟩
  · have hn : n.toNat ≤ 40 := by
      have hg' := hg
      unfold runG at hg'
      simp only [Bool.and_eq_true] at hg'
      have := vld_len hg'.1
      omega
    exact ⟨hb, B, n.toNat, c, 0, rfl, hn, Or.inr ⟨rfl, g, h, rfl, hg, p1, p2, hB⟩⟩
theorem Play_u (n : Int) (l : List Bt) (f1 f2 : Int) (M : Nat) (off : Nat → Int × Int) (A Ao : Option Addr) (cap capo : Nat) (w : World) (hl : Lst w w.heap.size A l) (ho : RatsR w w.heap.size Ao M off) (hlen : l.length ≤ 9223372036854775807) (hM : M ≤ 9223372036854775807) :
    Calls Tryd.prog 10 #[.int .i64 n, .slice A l.length cap, .agg #[.int .i64 f1, .int .i64 f2], .slice Ao M capo] w
      (fun e w' => Below w.heap.size w w' ∧ ∃ (B : Option Addr) (N c : Nat) (k : Int), e = .returned (.tuple #[.slice B N c, .int .i64 k]) ∧ N ≤ 40 ∧
        ((k != 0) = true ∨ (k = 0 ∧ ∃ g, N = n.toNat ∧ plyG n l f1 f2 M off = true ∧ plO l (f1, f2) off l.length = some g ∧ RatsR w' w'.heap.size B N g))) := by
  refine (Play_c n l f1 f2 M off A Ao cap capo w hl ho hlen hM).mono ?_
  rintro e w' ⟨hb, ⟨_, rfl⟩ | ⟨_, _, rfl⟩ | ⟨hg, g, B, p1, rfl, hB⟩⟩
  · exact ⟨hb, none, 0, 0, 1, rfl, by omega, Or.inl rfl⟩
  · exact ⟨hb, none, 0, 0, 3, rfl, by omega, Or.inl rfl⟩
  · have hn : n.toNat ≤ 40 := by
      have hg' := hg
      unfold plyG at hg'
      simp only [Bool.and_eq_true] at hg'
      have := vld_len hg'.1
      omega
    exact ⟨hb, B, n.toNat, _, 0, rfl, hn, Or.inr ⟨rfl, g, rfl, hg, p1, hB⟩⟩
/-- Cmp of numbers of which one is known not to be above the other. -/
theorem Cmp_le (a1 a2 b1 b2 : Int) (ha : vR a1 a2 = true) (hb : vR b1 b2 = true) (h : Le (a1, a2) (b1, b2)) (w : World) : Calls Tryd.prog 20 #[.agg #[.int .i64 a1, .int .i64 a2], .agg #[.int .i64 b1, .int .i64 b2]] w
    (fun e w' => Below w.heap.size w w' ∧ ∃ c : Int, e = .returned (.tuple #[.int .i64 c, .int .i64 0]) ∧ c ≤ 0) := by
  obtain ⟨c, hc, e⟩ := cmp_le (a := (a1, a2)) (b := (b1, b2)) ha hb h
  refine (Cmp_c a1 a2 b1 b2 w).mono ?_
  simp only at e
  rw [e]
  rintro e w' ⟨rfl, hb⟩
  exact ⟨hb, c, rfl, hc⟩
end Go.Proofs.YtehifkdfbiebfaaDoor
