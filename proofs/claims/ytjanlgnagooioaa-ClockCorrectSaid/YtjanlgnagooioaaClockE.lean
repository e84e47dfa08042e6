/- Clock: Sure. -/
import Derived.Test.YtjanlgnagooioaaClockD
namespace Go.Proofs.Ytjanlgnagooioaa
open Go.RowKit

def leastF (p : Nat → Bool) : Nat → Nat
  | 0 => 0
  | n + 1 => if leastF p n < n then leastF p n else if p n then n else n + 1
theorem leastF_spec (p : Nat → Bool) : ∀ n, leastF p n ≤ n ∧ (∀ t, t < leastF p n → p t = false) ∧ (leastF p n < n → p (leastF p n) = true)
  | 0 => ⟨Nat.le_refl _, fun t h => absurd h (Nat.not_lt_zero t), fun h => absurd h (Nat.lt_irrefl _)⟩
  | n + 1 => by
    obtain ⟨h1, h2, h3⟩ := leastF_spec p n
    unfold leastF
    by_cases hk : leastF p n < n
    · rw [if_pos hk]
      exact ⟨by omega, h2, fun _ => h3 hk⟩
    · rw [if_neg hk]
      have he : leastF p n = n := by omega
      rw [he] at h2
      cases hp : p n
      · simp only [Bool.false_eq_true, if_false]
        refine ⟨Nat.le_refl _, fun t ht => ?_, fun h => absurd h (Nat.lt_irrefl _)⟩
        by_cases e : t = n
        · rw [e]; exact hp
        · exact h2 t (by omega)
      · simp only [if_true]
        exact ⟨by omega, h2, fun _ => hp⟩

theorem fst_mono {s e d r1 r2 : Int} (h0 : 0 ≤ d) (h1 : d ≤ 100) (h : r1 ≤ r2) : fstF s e d r1 ≤ fstF s e d r2 := by
  have e1 : (r2 - s) * d = (r1 - s) * d + (r2 - r1) * d := by rw [← Int.add_mul]; congr 1; omega
  have e2 : (r2 - r1) * d ≤ (r2 - r1) * 100 := Int.mul_le_mul_of_nonneg_left h1 (by omega)
  have e3 : 0 ≤ (r2 - r1) * d := Int.mul_nonneg (by omega) h0
  unfold fstF slk
  rw [e1]
  generalize (r1 - s) * d = x at *
  generalize (r2 - r1) * d = y at *
  omega
theorem lst_mono {s e d r1 r2 : Int} (h0 : 0 ≤ d) (h : r1 ≤ r2) : lstF s e d r1 ≤ lstF s e d r2 := by
  have e1 : (r2 - s) * d = (r1 - s) * d + (r2 - r1) * d := by rw [← Int.add_mul]; congr 1; omega
  have e3 : 0 ≤ (r2 - r1) * d := Int.mul_nonneg (by omega) h0
  unfold lstF slk
  rw [e1]
  generalize (r1 - s) * d = x at *
  generalize (r2 - r1) * d = y at *
  omega

def sureP (s e d t : Int) (i : Nat) : Bool := decide (t ≤ fstF s e d (s + i))
def sureN (s : Int) : Nat := (100001 - s).toNat
def sureK (s e d t : Int) : Nat := leastF (sureP s e d t) (sureN s)
theorem vld_of {s e d : Int} (h : vldB s e d = true) : 0 ≤ s ∧ s ≤ 100000 ∧ 0 ≤ e ∧ e ≤ 1000 ∧ 0 ≤ d ∧ d ≤ 100 := by simpa [vldB] using h
theorem rd_mk {s e d r : Int} (h : vldB s e d = true) (h1 : s ≤ r) (h2 : r ≤ 100000) : rdB s e d r = true := by
  have := vld_of h
  simp only [rdB, decide_eq_true_eq]
  omega
theorem sure_hi {s e d t : Int} (h : vldB s e d = true) : ∀ i, sureK s e d t ≤ i → i < sureN s → sureP s e d t i = true := by
  intro i h1 h2
  obtain ⟨a, b, c, d1, e1, f⟩ := vld_of h
  obtain ⟨_, _, h3⟩ := leastF_spec (sureP s e d t) (sureN s)
  have h4 := h3 (Nat.lt_of_le_of_lt h1 h2)
  unfold sureP at h4 ⊢
  simp only [decide_eq_true_eq] at h4 ⊢
  have h1' : leastF (sureP s e d t) (sureN s) ≤ i := h1
  exact Int.le_trans h4 (fst_mono e1 f (by unfold sureP at h1'; omega))

set_option maxHeartbeats 1000000 in
theorem Sure_no (s e d t : Int) (w : World) (h : (vldB s e d && tickB t) = false) :
    Calls Try.prog 18 #[.agg #[.int .i64 s, .int .i64 e, .int .i64 d], .int .i64 t] w (Ret (.tuple #[.int .i64 0, .int .i64 1]) w) := by
  have h' : vldB s e d = false ∨ (vldB s e d = true ∧ tickB t = false) := by
    cases h1 : vldB s e d <;> simp_all
  clear h
  rcases h' with h1 | ⟨h1, h2⟩
  all_goals
    go_enter Try.func18, Try.ntmps18
    go_wp2_with (first | (go_at_call 12; refine (valid_c _ _ _ _).mono ?_; rintro e w' ⟨rfl, hb⟩; obtain ⟨hz, hc, hf⟩ := bcl hb (by first | (simp; rfl) | rfl)) | (go_at_call 27; refine (tick_c _ _).mono ?_; rintro e w' ⟨rfl, hb⟩; obtain ⟨hz, hc, hf⟩ := bcl hb (by first | (simp; rfl) | rfl)))
    go_ret2
    refine ⟨rfl, ?_⟩
    (repeat (first | (with_reducible exact bl_refl _) | (with_reducible refine bl_drew ?_) | (with_reducible refine bl_alloc ?_ _) | (with_reducible refine bl_set' ?_ ?_; · (first | omega | (simp; done) | (simp; omega))) | (with_reducible refine bl_last (by assumption) ?_) | (with_reducible refine bl_drewN ?_ _)))

set_option maxHeartbeats 1000000 in
theorem Sure_ok (s e d t : Int) (w : World) (h : vldB s e d = true) (ht : tickB t = true) :
    Calls Try.prog 18 #[.agg #[.int .i64 s, .int .i64 e, .int .i64 d], .int .i64 t] w
      (Ret (.tuple #[.int .i64 (if sureK s e d t < sureN s then s + sureK s e d t else 0), .int .i64 (if sureK s e d t < sureN s then 0 else 4)]) w) := by
  have hv := vld_of h
  obtain ⟨a, b, c, d1, e1, f⟩ := hv
  obtain ⟨hk1, hk2, _⟩ := leastF_spec (sureP s e d t) (sureN s)
  have hS := fun (p1 p2 : Nat) (w : World) (c1 : w.cell? ⟨p1, 0, none⟩ = some (.int .i64 s)) (c2 : w.cell? ⟨p1, 1, none⟩ = some (.int .i64 e)) (c3 : w.cell? ⟨p1, 2, none⟩ = some (.int .i64 d)) (c4 : w.cell? ⟨p2, 0, none⟩ = some (.int .i64 t)) (l1 : p1 < w.heap.size) (l2 : p2 < w.heap.size) =>
    search_c (.pointer (some ⟨p1, 0, none⟩)) (.pointer (some ⟨p2, 0, none⟩)) (sureN s) (sureK s e d t) (sureP s e d t) w (by unfold sureN; omega) hk1 hk2 (sure_hi h) (fun i w' hb hi =>
      sure_closure s e d t p1 p2 i w' (by unfold sureN at hi; omega) a (rd_mk h (by omega) (by unfold sureN at hi; omega))
        (keep_cell hb c1) (keep_cell hb c2) (keep_cell hb c3) (keep_cell hb c4) (Nat.lt_of_lt_of_le l1 hb.size) (Nat.lt_of_lt_of_le l2 hb.size))
  have hN : ((sureN s : Nat) : Int) = 100000 - s + 1 := by unfold sureN; omega
  have hk1' : sureK s e d t ≤ sureN s := hk1
  clear hk1 hk2
  generalize sureK s e d t = k at *
  generalize sureN s = n at *
  rw [hN] at hS
  have HS := Lib.hid hS
  have HN := Lib.hid hN
  clear hS hN
  have hmf : ∀ (fn : Fn) (first cap : Array Value) (w : World), (Instr.makeFunc fn first cap).run Try.prog w = .ok (.func fn first cap) w := fun _ _ _ _ => rfl
  by_cases hk : k < n
  · have hne : ((k : Int) == 100000 - s + 1) = false := beq_eq_false_iff_ne.2 (by have := HN.out; omega)
    have hkb : (s : Int) + k ≤ 100000 := by have := HN.out; omega
    rw [if_pos hk, if_pos hk]
    go_enter Try.func18, Try.ntmps18
    go_wp2_with (first | (go_at_call 12; refine (valid_c _ _ _ _).mono ?_; rintro e w' ⟨rfl, hb⟩; obtain ⟨hz, hc, hf⟩ := bcl hb (by first | (simp; rfl) | rfl)) | (go_at_call 27; refine (tick_c _ _).mono ?_; rintro e w' ⟨rfl, hb⟩; obtain ⟨hz, hc, hf⟩ := bcl hb (by first | (simp; rfl) | rfl)) | (go_at_call 31; refine (HS.out _ _ _ ?_ ?_ ?_ ?_ ?_ ?_).mono ?_; go_simp; go_simp; go_simp; go_simp; (first | omega | (simp; omega)); (first | omega | (simp; omega)); rintro e w' ⟨rfl, hb⟩; obtain ⟨hz, hc, hf⟩ := bcl hb (by first | (simp; rfl) | rfl)))
    go_ret2
    refine ⟨rfl, ?_⟩
    (repeat (first | (with_reducible exact bl_refl _) | (with_reducible refine bl_drew ?_) | (with_reducible refine bl_alloc ?_ _) | (with_reducible refine bl_set' ?_ ?_; · (first | omega | (simp; done) | (simp; omega))) | (with_reducible refine bl_last (by assumption) ?_) | (with_reducible refine bl_drewN ?_ _)))
  · have hne : ((k : Int) == 100000 - s + 1) = true := beq_iff_eq.2 (by have := HN.out; omega)
    rw [if_neg hk, if_neg hk]
    go_enter Try.func18, Try.ntmps18
    go_wp2_with (first | (go_at_call 12; refine (valid_c _ _ _ _).mono ?_; rintro e w' ⟨rfl, hb⟩; obtain ⟨hz, hc, hf⟩ := bcl hb (by first | (simp; rfl) | rfl)) | (go_at_call 27; refine (tick_c _ _).mono ?_; rintro e w' ⟨rfl, hb⟩; obtain ⟨hz, hc, hf⟩ := bcl hb (by first | (simp; rfl) | rfl)) | (go_at_call 31; refine (HS.out _ _ _ ?_ ?_ ?_ ?_ ?_ ?_).mono ?_; go_simp; go_simp; go_simp; go_simp; (first | omega | (simp; omega)); (first | omega | (simp; omega)); rintro e w' ⟨rfl, hb⟩; obtain ⟨hz, hc, hf⟩ := bcl hb (by first | (simp; rfl) | rfl)))
    go_ret2
    refine ⟨rfl, ?_⟩
    (repeat (first | (with_reducible exact bl_refl _) | (with_reducible refine bl_drew ?_) | (with_reducible refine bl_alloc ?_ _) | (with_reducible refine bl_set' ?_ ?_; · (first | omega | (simp; done) | (simp; omega))) | (with_reducible refine bl_last (by assumption) ?_) | (with_reducible refine bl_drewN ?_ _)))
end Go.Proofs.Ytjanlgnagooioaa
