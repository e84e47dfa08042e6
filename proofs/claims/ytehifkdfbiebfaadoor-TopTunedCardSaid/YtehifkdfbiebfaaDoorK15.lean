/- Bench: move and the reference's set: the frequency that a step sets. -/
import Derived.Test.YtehifkdfbiebfaaDoorK11
import Derived.Test.YtehifkdfbiebfaaDoorK12
import Derived.Test.YtehifkdfbiebfaaDoorK14
namespace Go.Proofs.YtehifkdfbiebfaaDoor
open Go.RowKit

theorem mkN_bd (n d : Int) : -1000000000 ≤ mkN n d ∧ mkN n d ≤ 1000000000 := by
  unfold mkN
  split
  · rename_i h
    unfold mkE at h
    split at h
    · omega
    · split at h
      · omega
      · rename_i h2
        unfold numF
        split <;> omega
  · omega
theorem adN_bd (an ad bn bd : Int) : -1000000000 ≤ adN an ad bn bd ∧ adN an ad bn bd ≤ 1000000000 := by
  unfold adN
  split
  · exact mkN_bd _ _
  · omega
/-- A step with the signed rate s / sd that is off by o / od, from f: the frequency, or out of range. -/
def moE (fn fd p q s sd o od : Int) : Int := if adE s sd o od = 0 ∧ seE fn fd p q (adN s sd o od).natAbs (adD s sd o od) (decide (0 ≤ adN s sd o od)) = 0 then 0 else 3
def moX (fn fd p q s sd o od : Int) : Int := if moE fn fd p q s sd o od = 0 then seX fn fd p q (adN s sd o od).natAbs (adD s sd o od) (decide (0 ≤ adN s sd o od)) else 0
def moY (fn fd p q s sd o od : Int) : Int := if moE fn fd p q s sd o od = 0 then seY fn fd p q (adN s sd o od).natAbs (adD s sd o od) (decide (0 ≤ adN s sd o od)) else 0
def moV (fn fd p q s sd o od : Int) : Value := .tuple #[.agg #[.int .i64 (moX fn fd p q s sd o od), .int .i64 (moY fn fd p q s sd o od)], .int .i64 (moE fn fd p q s sd o od)]
theorem mo_ways (fn fd p q s sd o od : Int) :
    ((adE s sd o od != 0) = true ∧ moV fn fd p q s sd o od = .tuple #[.agg #[.int .i64 0, .int .i64 0], .int .i64 3]) ∨
    ((adE s sd o od != 0) = false ∧ (seE fn fd p q (adN s sd o od).natAbs (adD s sd o od) (decide (0 ≤ adN s sd o od)) != 0) = true ∧ moV fn fd p q s sd o od = .tuple #[.agg #[.int .i64 0, .int .i64 0], .int .i64 3]) ∨
    ((adE s sd o od != 0) = false ∧ (seE fn fd p q (adN s sd o od).natAbs (adD s sd o od) (decide (0 ≤ adN s sd o od)) != 0) = false ∧
      moV fn fd p q s sd o od = .tuple #[.agg #[.int .i64 (seX fn fd p q (adN s sd o od).natAbs (adD s sd o od) (decide (0 ≤ adN s sd o od))), .int .i64 (seY fn fd p q (adN s sd o od).natAbs (adD s sd o od) (decide (0 ≤ adN s sd o od)))], .int .i64 0]) := by
  by_cases h1 : adE s sd o od = 0
  · by_cases h2 : seE fn fd p q (adN s sd o od).natAbs (adD s sd o od) (decide (0 ≤ adN s sd o od)) = 0
    · have h3 : moE fn fd p q s sd o od = 0 := by unfold moE; rw [if_pos ⟨h1, h2⟩]
      exact Or.inr (Or.inr ⟨by simp [h1], by simp [h2], by simp [moV, moX, moY, h3]⟩)
    · have h3 : moE fn fd p q s sd o od = 3 := by unfold moE; rw [if_neg (fun h => h2 h.2)]
      exact Or.inr (Or.inl ⟨by simp [h1], by simp [h2], by simp [moV, moX, moY, h3]⟩)
  · have h3 : moE fn fd p q s sd o od = 3 := by unfold moE; rw [if_neg (fun h => h1 h.1)]
    exact Or.inl ⟨by simp [h1], by simp [moV, moX, moY, h3]⟩
/-- Whether a cell lies there is told without the stores: the walk's discharger does not go far. -/
@[go_sem] theorem isSome_setCell (w : World) (p q : Addr) (v : Value) : ((w.setCell p v).cell? q).isSome = (w.cell? q).isSome := by
  by_cases e : p = q
  · subst e
    cases h : w.cell? p with
    | some u => rw [World.cell?_setCell_same w p v h]; rfl
    | none =>
      simp only [World.setCell, World.cell?, Array.getElem?_modify, if_true] at h ⊢
      cases hh : w.heap[p.block]? with
      | none => simp
      | some o =>
        rw [hh] at h
        cases o <;> simp_all
  · rw [World.cell?_setCell_other w p q v e]

def sgn (above : Bool) (n : Int) : Int := if above then n else -n

set_option maxHeartbeats 2000000 in
theorem move_c (fn fd fr to p q rn rd o od : Int) (above : Bool) (w : World) (h1 : -1000000000 ≤ rn) (h2 : rn ≤ 1000000000) :
    Calls Tryd.prog 109 #[.agg #[.int .i64 fn, .int .i64 fd], .agg #[.int .i64 fr, .int .i64 to, .int .i64 p, .int .i64 q, .int .i64 rn, .int .i64 rd, .bool above], .agg #[.int .i64 o, .int .i64 od]] w (Ret (moV fn fd p q (sgn above rn) rd o od) w) := by
  have HA := fun w => Add_c (sgn above rn) rd o od w
  simp only [addV_eq] at HA
  have hw := mo_ways fn fd p q (sgn above rn) rd o od
  have HS := fun w => Set_c fn fd p q (adN (sgn above rn) rd o od).natAbs (adD (sgn above rn) rd o od) (decide (0 ≤ adN (sgn above rn) rd o od)) w
  simp only [seV_eq] at HS
  have hb := adN_bd (sgn above rn) rd o od
  generalize moV fn fd p q (sgn above rn) rd o od = mv at *
  generalize adN (sgn above rn) rd o od = x at *
  generalize adD (sgn above rn) rd o od = y at *
  generalize adE (sgn above rn) rd o od = e at *
  generalize seE fn fd p q x.natAbs y (decide (0 ≤ x)) = k at *
  generalize seX fn fd p q x.natAbs y (decide (0 ≤ x)) = u at *
  generalize seY fn fd p q x.natAbs y (decide (0 ≤ x)) = v at *
  obtain ⟨hb1, hb2⟩ := hb
  have n1 : IntKind.i64.wrap (-rn) = -rn := by rw [IntKind.wrap_i64]; omega
  have n2 : IntKind.i64.wrap (-x) = -x := by rw [IntKind.wrap_i64]; omega
  have hx3 : (x < 0 ∧ (x.natAbs : Int) = -x ∧ decide (0 ≤ x) = false) ∨ (x = 0 ∧ (x.natAbs : Int) = 0 ∧ decide (0 ≤ x) = true) ∨ (0 < x ∧ (x.natAbs : Int) = x ∧ decide (0 ≤ x) = true) := by
    rcases Int.lt_trichotomy x 0 with h | h | h
    · exact Or.inl ⟨h, by omega, decide_eq_false (by omega)⟩
    · exact Or.inr (Or.inl ⟨h, by omega, decide_eq_true (by omega)⟩)
    · exact Or.inr (Or.inr ⟨h, by omega, decide_eq_true (by omega)⟩)
  rcases hx3 with ⟨g1, g2, g3⟩ | ⟨g1, g2, g3⟩ | ⟨g1, g2, g3⟩
  all_goals
    rw [g2, g3] at HS
    clear g2
    try subst g1
    have HS := Lib.hid HS
    have HA := Lib.hid HA
    rcases hw with ⟨w1, rfl⟩ | ⟨w1, w2, rfl⟩ | ⟨w1, w2, rfl⟩ <;> cases above
    all_goals
      simp only [sgn, if_true, Bool.false_eq_true, if_false] at HA
      go_enter Tryd.func109, Tryd.ntmps109
      go_wp2_with (first | (go_at_call 21; ((with_reducible refine (HA.out _).mono ?_); rintro e w' ⟨rfl, hb⟩; obtain ⟨hz, hc, hf⟩ := bcl hb (by first | (simp; rfl) | rfl))) | (go_at_call 75; ((with_reducible refine (HS.out _).mono ?_); rintro e w' ⟨rfl, hb⟩; obtain ⟨hz, hc, hf⟩ := bcl hb (by first | (simp; rfl) | rfl); have q0 : ∀ x, (w'.setCell ⟨w.heap.size, 0, none⟩ x).cell? ⟨w.heap.size, 0, none⟩ = some x := (fun x => World.cell?_setCell_same' _ _ _ (by rw [hc _ _ (by first | (simp; done) | (simp; omega))]; go_simp)); have q1 : ∀ x y, ((w'.setCell ⟨w.heap.size, 0, none⟩ x).setCell ⟨w.heap.size, 1, none⟩ y).cell? ⟨w.heap.size, 1, none⟩ = some y := (fun x y => World.cell?_setCell_same' _ _ _ (by rw [isSome_setCell, hc _ _ (by first | (simp; done) | (simp; omega))]; go_simp)))))
      first | (refine bodyPost_ret (v := .tuple #[.agg #[.int .i64 0, .int .i64 0], .int .i64 3]) (by simp only [results, Tryd.results109]; go_simp) rfl ⟨rfl, ?_⟩) | (refine bodyPost_ret (v := .tuple #[.agg #[.int .i64 u, .int .i64 v], .int .i64 0]) (by simp only [results, Tryd.results109]; go_simp) rfl ⟨rfl, ?_⟩)
      (repeat (first | (with_reducible exact bl_refl _) | (with_reducible refine bl_drew ?_) | (with_reducible refine bl_alloc ?_ _) | (with_reducible refine bl_set' ?_ ?_; · (first | omega | (simp; done) | (simp; omega))) | (with_reducible refine bl_last (by assumption) ?_) | (with_reducible refine bl_drewN ?_ _)))
end Go.Proofs.YtehifkdfbiebfaaDoor
