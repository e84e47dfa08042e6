/- Bench: move and the reference's set: the frequency that a step sets. Bench: tuner's lists as data: the steps, the step that sets an item, validity; the closure set of newPlan. Bench: newPlan: validity, and the setters of all items. -/
import Derived.Test.YtehifkdfbiebfaaDoorK15
import Derived.Test.YtehifkdfbiebfaaDoorK28
import Derived.Test.YtehifkdfbiebfaaDoorK16
import Derived.Test.YtehifkdfbiebfaaDoorK00
import Derived.Laws.MakeOwn
import Derived.Outline
namespace Go.Proofs.YtehifkdfbiebfaaDoor
open Go.RowKit

theorem mkN_bd (n d : Int) : -1000000000 ≤ mkN n d ∧ mkN n d ≤ 1000000000 := by
  unfold mkN
  split
  · rename_i h
    unfold mkE at h
    split at h
    · omega
    · split at h
      · omega
      · rename_i h2
        unfold numF
        split <;> omega
  · omega
theorem adN_bd (an ad bn bd : Int) : -1000000000 ≤ adN an ad bn bd ∧ adN an ad bn bd ≤ 1000000000 := by
  unfold adN
  split
  · exact mkN_bd _ _
  · omega
/-- A step with the signed rate s / sd that is off by o / od, from f: the frequency, or out of range. -/
def moE (fn fd p q s sd o od : Int) : Int := if adE s sd o od = 0 ∧ seE fn fd p q (adN s sd o od).natAbs (adD s sd o od) (decide (0 ≤ adN s sd o od)) = 0 then 0 else 3
def moX (fn fd p q s sd o od : Int) : Int := if moE fn fd p q s sd o od = 0 then seX fn fd p q (adN s sd o od).natAbs (adD s sd o od) (decide (0 ≤ adN s sd o od)) else 0
def moY (fn fd p q s sd o od : Int) : Int := if moE fn fd p q s sd o od = 0 then seY fn fd p q (adN s sd o od).natAbs (adD s sd o od) (decide (0 ≤ adN s sd o od)) else 0
def moV (fn fd p q s sd o od : Int) : Value := .tuple #[.agg #[.int .i64 (moX fn fd p q s sd o od), .int .i64 (moY fn fd p q s sd o od)], .int .i64 (moE fn fd p q s sd o od)]
theorem mo_ways (fn fd p q s sd o od : Int) :
    ((adE s sd o od != 0) = true ∧ moV fn fd p q s sd o od = .tuple #[.agg #[.int .i64 0, .int .i64 0], .int .i64 3]) ∨
    ((adE s sd o od != 0) = false ∧ (seE fn fd p q (adN s sd o od).natAbs (adD s sd o od) (decide (0 ≤ adN s sd o od)) != 0) = true ∧ moV fn fd p q s sd o od = .tuple #[.agg #[.int .i64 0, .int .i64 0], .int .i64 3]) ∨
    ((adE s sd o od != 0) = false ∧ (seE fn fd p q (adN s sd o od).natAbs (adD s sd o od) (decide (0 ≤ adN s sd o od)) != 0) = false ∧
      moV fn fd p q s sd o od = .tuple #[.agg #[.int .i64 (seX fn fd p q (adN s sd o od).natAbs (adD s sd o od) (decide (0 ≤ adN s sd o od))), .int .i64 (seY fn fd p q (adN s sd o od).natAbs (adD s sd o od) (decide (0 ≤ adN s sd o od)))], .int .i64 0]) := by
  by_cases h1 : adE s sd o od = 0
  · by_cases h2 : seE fn fd p q (adN s sd o od).natAbs (adD s sd o od) (decide (0 ≤ adN s sd o od)) = 0
    · have h3 : moE fn fd p q s sd o od = 0 := by unfold moE; rw [if_pos ⟨h1, h2⟩]
      exact Or.inr (Or.inr ⟨by simp [h1], by simp [h2], by simp [moV, moX, moY, h3]⟩)
    · have h3 : moE fn fd p q s sd o od = 3 := by unfold moE; rw [if_neg (fun h => h2 h.2)]
      exact Or.inr (Or.inl ⟨by simp [h1], by simp [h2], by simp [moV, moX, moY, h3]⟩)
  · have h3 : moE fn fd p q s sd o od = 3 := by unfold moE; rw [if_neg (fun h => h1 h.1)]
    exact Or.inl ⟨by simp [h1], by simp [moV, moX, moY, h3]⟩
/-- Whether a cell lies there is told without the stores: the walk's discharger does not go far. -/
@[go_sem] theorem isSome_setCell (w : World) (p q : Addr) (v : Value) : ((w.setCell p v).cell? q).isSome = (w.cell? q).isSome := by
  by_cases e : p = q
  · subst e
    cases h : w.cell? p with
    | some u => rw [World.cell?_setCell_same w p v h]; rfl
    | none =>
      simp only [World.setCell, World.cell?, Array.getElem?_modify, if_true] at h ⊢
      cases hh : w.heap[p.block]? with
      | none => simp
      | some o =>
        rw [hh] at h
        cases o <;> simp_all
  · rw [World.cell?_setCell_other w p q v e]

def sgn (above : Bool) (n : Int) : Int := if above then n else -n

set_option maxHeartbeats 2000000 in
theorem move_c (fn fd fr to p q rn rd o od : Int) (above : Bool) (w : World) (h1 : -1000000000 ≤ rn) (h2 : rn ≤ 1000000000) :
    Calls Tryd.prog 109 #[.agg #[.int .i64 fn, .int .i64 fd], .agg #[.int .i64 fr, .int .i64 to, .int .i64 p, .int .i64 q, .int .i64 rn, .int .i64 rd, .bool above], .agg #[.int .i64 o, .int .i64 od]] w (Ret (moV fn fd p q (sgn above rn) rd o od) w) := by
  have HA := fun w => Add_c (sgn above rn) rd o od w
  simp only [addV_eq] at HA
  have hw := mo_ways fn fd p q (sgn above rn) rd o od
  have HS := fun w => Set_c fn fd p q (adN (sgn above rn) rd o od).natAbs (adD (sgn above rn) rd o od) (decide (0 ≤ adN (sgn above rn) rd o od)) w
  simp only [seV_eq] at HS
  have hb := adN_bd (sgn above rn) rd o od
  generalize moV fn fd p q (sgn above rn) rd o od = mv at *
  generalize adN (sgn above rn) rd o od = x at *
  generalize adD (sgn above rn) rd o od = y at *
  generalize adE (sgn above rn) rd o od = e at *
  generalize seE fn fd p q x.natAbs y (decide (0 ≤ x)) = k at *
  generalize seX fn fd p q x.natAbs y (decide (0 ≤ x)) = u at *
  generalize seY fn fd p q x.natAbs y (decide (0 ≤ x)) = v at *
  obtain ⟨hb1, hb2⟩ := hb
  have n1 : IntKind.i64.wrap (-rn) = -rn := by rw [IntKind.wrap_i64]; omega
  have n2 : IntKind.i64.wrap (-x) = -x := by rw [IntKind.wrap_i64]; omega
  have hx3 : (x < 0 ∧ (x.natAbs : Int) = -x ∧ decide (0 ≤ x) = false) ∨ (x = 0 ∧ (x.natAbs : Int) = 0 ∧ decide (0 ≤ x) = true) ∨ (0 < x ∧ (x.natAbs : Int) = x ∧ decide (0 ≤ x) = true) := by
    rcases Int.lt_trichotomy x 0 with h | h | h
    · exact Or.inl ⟨h, by omega, decide_eq_false (by omega)⟩
    · exact Or.inr (Or.inl ⟨h, by omega, decide_eq_true (by omega)⟩)
    · exact Or.inr (Or.inr ⟨h, by omega, decide_eq_true (by omega)⟩)
  rcases hx3 with ⟨g1, g2, g3⟩ | ⟨g1, g2, g3⟩ | ⟨g1, g2, g3⟩
  all_goals
    rw [g2, g3] at HS
    clear g2
    try subst g1
    have HS := Lib.hid HS
    have HA := Lib.hid HA
    rcases hw with ⟨w1, rfl⟩ | ⟨w1, w2, rfl⟩ | ⟨w1, w2, rfl⟩ <;> cases above
    all_goals
      simp only [sgn, if_true, Bool.false_eq_true, if_false] at HA
      go_enter Tryd.func109, Tryd.ntmps109
      go_wp2_with (first | (go_at_call 21; ((with_reducible refine (HA.out _).mono ?_); rintro e w' ⟨rfl, hb⟩; obtain ⟨hz, hc, hf⟩ := bcl hb (by first | (simp; rfl) | rfl))) | (go_at_call 75; ((with_reducible refine (HS.out _).mono ?_); rintro e w' ⟨rfl, hb⟩; obtain ⟨hz, hc, hf⟩ := bcl hb (by first | (simp; rfl) | rfl); have q0 : ∀ x, (w'.setCell ⟨w.heap.size, 0, none⟩ x).cell? ⟨w.heap.size, 0, none⟩ = some x := (fun x => World.cell?_setCell_same' _ _ _ (by rw [hc _ _ (by first | (simp; done) | (simp; omega))]; go_simp)); have q1 : ∀ x y, ((w'.setCell ⟨w.heap.size, 0, none⟩ x).setCell ⟨w.heap.size, 1, none⟩ y).cell? ⟨w.heap.size, 1, none⟩ = some y := (fun x y => World.cell?_setCell_same' _ _ _ (by rw [isSome_setCell, hc _ _ (by first | (simp; done) | (simp; omega))]; go_simp)))))
      first | (refine bodyPost_ret (v := .tuple #[.agg #[.int .i64 0, .int .i64 0], .int .i64 3]) (by simp only [results, Tryd.results109]; go_simp) rfl ⟨rfl, ?_⟩) | (refine bodyPost_ret (v := .tuple #[.agg #[.int .i64 u, .int .i64 v], .int .i64 0]) (by simp only [results, Tryd.results109]; go_simp) rfl ⟨rfl, ?_⟩)
      (repeat (first | (with_reducible exact bl_refl _) | (with_reducible refine bl_drew ?_) | (with_reducible refine bl_alloc ?_ _) | (with_reducible refine bl_set' ?_ ?_; · (first | omega | (simp; done) | (simp; omega))) | (with_reducible refine bl_last (by assumption) ?_) | (with_reducible refine bl_drewN ?_ _)))
end Go.Proofs.YtehifkdfbiebfaaDoor
namespace Go.Proofs.YtehifkdfbiebfaaDoor
open Go.RowKit

/-- A step: from which item, to which, the partials, the rate, above or below. -/
structure Bt where
  fr : Int
  to : Int
  p : Int
  q : Int
  rn : Int
  rd : Int
  ab : Bool
  deriving Inhabited
def Bt.val (b : Bt) : Value := .agg #[.int .i64 b.fr, .int .i64 b.to, .int .i64 b.p, .int .i64 b.q, .int .i64 b.rn, .int .i64 b.rd, .bool b.ab]
/-- The seven cells of step i lie from 'off + i * 7' on. -/
def BtAt (w : World) (b o : Nat) (x : Bt) : Prop :=
  w.cell? ⟨b, o, none⟩ = some (.int .i64 x.fr) ∧ w.cell? ⟨b, o + 1, none⟩ = some (.int .i64 x.to) ∧ w.cell? ⟨b, o + 2, none⟩ = some (.int .i64 x.p) ∧ w.cell? ⟨b, o + 3, none⟩ = some (.int .i64 x.q) ∧
  w.cell? ⟨b, o + 4, none⟩ = some (.int .i64 x.rn) ∧ w.cell? ⟨b, o + 5, none⟩ = some (.int .i64 x.rd) ∧ w.cell? ⟨b, o + 6, none⟩ = some (.bool x.ab)
/-- The slice 'A' of the steps l, which lie below block B. -/
def Lst (w : World) (B : Nat) (A : Option Addr) (l : List Bt) : Prop :=
  0 < l.length → ∃ b off, A = some ⟨b, off, none⟩ ∧ b < B ∧ ∀ i x, l[i]? = some x → BtAt w b (off + i * 7) x
theorem BtAt.same {w w' : World} {b o : Nat} {x : Bt} (h : BtAt w b o x) (hs : ∀ i, w'.cell? ⟨b, i, none⟩ = w.cell? ⟨b, i, none⟩) : BtAt w' b o x := by
  obtain ⟨h0, h1, h2, h3, h4, h5, h6⟩ := h
  exact ⟨(hs _).trans h0, (hs _).trans h1, (hs _).trans h2, (hs _).trans h3, (hs _).trans h4, (hs _).trans h5, (hs _).trans h6⟩
theorem Lst.below {w w' : World} {B : Nat} {A : Option Addr} {l : List Bt} (h : Lst w B A l) (hb : Below B w w') : Lst w' B A l := fun h0 => by
  obtain ⟨b, off, hA, hB, hc⟩ := h h0
  exact ⟨b, off, hA, hB, fun i x hx => (hc i x hx).same fun j => hb.cell (p := ⟨b, j, none⟩) hB⟩
theorem Lst.more {w : World} {B B' : Nat} {A : Option Addr} {l : List Bt} (h : Lst w B A l) (hB : B ≤ B') : Lst w B' A l := fun h0 => by
  obtain ⟨b, off, hA, hb, hc⟩ := h h0
  exact ⟨b, off, hA, by omega, hc⟩

/-- The first step that sets item x, or -1. -/
def stF (l : List Bt) (x : Int) : Int := match l.findIdx? (fun b => b.to == x) with
  | some i => (i : Int)
  | none => -1
theorem stF_nil (x : Int) : stF [] x = -1 := rfl
theorem stF_snoc (l : List Bt) (b : Bt) (x : Int) : stF (l ++ [b]) x = if 0 ≤ stF l x then stF l x else if b.to = x then (l.length : Int) else -1 := by
  unfold stF
  rw [List.findIdx?_append]
  cases h : l.findIdx? (fun b => b.to == x) with
  | some i => simp
  | none =>
    by_cases hb : b.to = x
    · simp [List.findIdx?_cons, hb]
    · simp [List.findIdx?_cons, hb]
theorem stF_lo (l : List Bt) (x : Int) : -1 ≤ stF l x := by
  unfold stF
  split <;> omega
theorem stF_lt (l : List Bt) (x : Int) : stF l x < l.length := by
  unfold stF
  split
  · rename_i i h
    have := (List.findIdx?_eq_some_iff_findIdx_eq.1 h).1
    omega
  · omega
theorem stF_get {l : List Bt} {x : Int} (h : 0 ≤ stF l x) : ∃ b, l[(stF l x).toNat]? = some b ∧ b.to = x := by
  unfold stF at h ⊢
  split at h
  · rename_i i hi
    obtain ⟨hlt, hp, _⟩ := List.findIdx?_eq_some_iff_getElem.1 hi
    exact ⟨l[i], by simp [hlt], by simpa using hp⟩
  · omega
theorem stF_none {l : List Bt} {x : Int} : stF l x < 0 ↔ ∀ b ∈ l, b.to ≠ x := by
  unfold stF
  split
  · rename_i i hi
    obtain ⟨hlt, hp, _⟩ := List.findIdx?_eq_some_iff_getElem.1 hi
    constructor
    · intro h; omega
    · intro h
      exact absurd (by simpa using hp) (h _ (List.getElem_mem hlt))
  · rename_i hi
    have := List.findIdx?_eq_none_iff.1 hi
    constructor
    · intro _ b hb
      simpa using this b hb
    · intro _; omega

/-- Is item x set, by the steps that s tells? -/
def setB (n : Int) (s : Int → Int) (x : Int) : Bool := decide (x = 0) || (decide (0 < x ∧ x < n) && decide (0 ≤ s x))
theorem set_ways (n : Int) (s : Int → Int) (x : Int) : (x = 0 ∧ setB n s x = true) ∨ (x < 0 ∧ setB n s x = false) ∨ (0 < x ∧ n ≤ x ∧ setB n s x = false) ∨ (0 < x ∧ x < n ∧ setB n s x = decide (0 ≤ s x)) := by
  unfold setB
  rcases Int.lt_trichotomy x 0 with h | h | h
  · exact Or.inr (Or.inl ⟨h, by simp; omega⟩)
  · exact Or.inl ⟨h, by simp [h]⟩
  · by_cases h2 : x < n
    · refine Or.inr (Or.inr (Or.inr ⟨h, h2, ?_⟩))
      have : ¬ x = 0 := by omega
      simp [this, h, h2]
    · exact Or.inr (Or.inr (Or.inl ⟨h, by omega, by simp; omega⟩))

set_option maxHeartbeats 400000 in
theorem set_c (x n : Int) (N Bn Bp Bs : Nat) (s : Int → Int) (w : World) (hn : w.cell? ⟨Bn, 0, none⟩ = some (.int .i64 n)) (hp : w.cell? ⟨Bp, 1, none⟩ = some (.slice (some ⟨Bs, 0, none⟩) N N)) (hN : (N : Int) = n)
    (hs : 0 < x → x < n → w.cell? ⟨Bs, x.toNat, none⟩ = some (.int .i64 (s x))) :
    Calls Tryd.prog 106 #[.int .i64 x, .pointer (some ⟨Bn, 0, none⟩), .pointer (some ⟨Bp, 0, none⟩)] w (RetS (.bool (setB n s x)) w) := by
  have hw := set_ways n s x
  generalize setB n s x = r at *
  rcases hw with ⟨h1, rfl⟩ | ⟨h1, rfl⟩ | ⟨h1, h2, rfl⟩ | ⟨h1, h2, rfl⟩
  · subst h1
    clear hs
    go_enter Tryd.func106, Tryd.ntmps106
    go_wp2
    go_ret
    exact ⟨rfl, rfl⟩
  · clear hs
    have hx0 : (x == 0) = false := beq_eq_false_iff_ne.2 (by omega)
    go_enter Tryd.func106, Tryd.ntmps106
    go_wp2
    go_ret
    exact ⟨rfl, rfl⟩
  · clear hs
    have hx0 : (x == 0) = false := beq_eq_false_iff_ne.2 (by omega)
    go_enter Tryd.func106, Tryd.ntmps106
    go_wp2
    go_ret
    exact ⟨rfl, rfl⟩
  · have hc := hs h1 h2
    clear hs
    have h3 : x < N := by omega
    have hx0 : (x == 0) = false := beq_eq_false_iff_ne.2 (by omega)
    generalize s x = y at *
    have hN := Lib.hid hN
    go_enter Tryd.func106, Tryd.ntmps106
    go_wp2
    go_ret
    exact ⟨rfl, rfl⟩
end Go.Proofs.YtehifkdfbiebfaaDoor
namespace Go.Proofs.YtehifkdfbiebfaaDoor
open Go.RowKit

def okB (n : Int) (pre : List Bt) (b : Bt) : Bool := ptV b.p && (ptV b.q && (decide (0 ≤ b.to ∧ b.to < n) && (!setB n (stF pre) b.to && (setB n (stF pre) b.fr && rtV b.rn b.rd))))
def okUp (n : Int) (l : List Bt) : Nat → Bool
  | 0 => true
  | k + 1 => okUp n l k && okB n (l.take k) (l.getD k default)
def vld (n : Int) (l : List Bt) : Bool := decide (1 ≤ n ∧ n ≤ 40 ∧ (l.length : Int) = n - 1) && okUp n l l.length
theorem okUp_mono {n : Int} {l : List Bt} {j k : Nat} (h : j ≤ k) (ht : okUp n l k = true) : okUp n l j = true := by
  induction k with
  | zero => rw [Nat.le_zero.1 h]; rfl
  | succ k ih =>
    by_cases e : j = k + 1
    · rw [e]; exact ht
    · simp only [okUp, Bool.and_eq_true] at ht
      exact ih (by omega) ht.1
theorem ok_ways (n : Int) (pre : List Bt) (b : Bt) :
    (b.p < 1 ∧ okB n pre b = false) ∨ (1 ≤ b.p ∧ 64 < b.p ∧ okB n pre b = false) ∨ (1 ≤ b.p ∧ b.p ≤ 64 ∧ b.q < 1 ∧ okB n pre b = false) ∨ (1 ≤ b.p ∧ b.p ≤ 64 ∧ 1 ≤ b.q ∧ 64 < b.q ∧ okB n pre b = false) ∨
    (1 ≤ b.p ∧ b.p ≤ 64 ∧ 1 ≤ b.q ∧ b.q ≤ 64 ∧ b.to < 0 ∧ okB n pre b = false) ∨ (1 ≤ b.p ∧ b.p ≤ 64 ∧ 1 ≤ b.q ∧ b.q ≤ 64 ∧ 0 ≤ b.to ∧ n ≤ b.to ∧ okB n pre b = false) ∨
    (1 ≤ b.p ∧ b.p ≤ 64 ∧ 1 ≤ b.q ∧ b.q ≤ 64 ∧ 0 ≤ b.to ∧ b.to < n ∧ setB n (stF pre) b.to = true ∧ okB n pre b = false) ∨
    (1 ≤ b.p ∧ b.p ≤ 64 ∧ 1 ≤ b.q ∧ b.q ≤ 64 ∧ 0 ≤ b.to ∧ b.to < n ∧ setB n (stF pre) b.to = false ∧ setB n (stF pre) b.fr = false ∧ okB n pre b = false) ∨
    (1 ≤ b.p ∧ b.p ≤ 64 ∧ 1 ≤ b.q ∧ b.q ≤ 64 ∧ 0 ≤ b.to ∧ b.to < n ∧ setB n (stF pre) b.to = false ∧ setB n (stF pre) b.fr = true ∧ rtV b.rn b.rd = false ∧ okB n pre b = false) ∨
    (1 ≤ b.p ∧ b.p ≤ 64 ∧ 1 ≤ b.q ∧ b.q ≤ 64 ∧ 0 ≤ b.to ∧ b.to < n ∧ setB n (stF pre) b.to = false ∧ setB n (stF pre) b.fr = true ∧ rtV b.rn b.rd = true ∧ okB n pre b = true) := by
  unfold okB ptV
  generalize setB n (stF pre) b.to = s1
  generalize setB n (stF pre) b.fr = s2
  generalize rtV b.rn b.rd = s3
  by_cases h1 : 1 ≤ b.p
  · by_cases h2 : b.p ≤ 64
    · by_cases h3 : 1 ≤ b.q
      · by_cases h4 : b.q ≤ 64
        · by_cases h5 : 0 ≤ b.to
          · by_cases h6 : b.to < n
            · cases s1 <;> cases s2 <;> cases s3 <;> simp [h1, h2, h3, h4, h5, h6]
            · have h6' : n ≤ b.to := by omega
              simp [h1, h2, h3, h4, h5, h6, h6']
          · have h5' : b.to < 0 := by omega
            simp [h1, h2, h3, h4, h5, h5']
        · have h4' : 64 < b.q := by omega
          simp [h1, h2, h3, h4, h4']
      · have h3' : b.q < 1 := by omega
        simp [h1, h2, h3, h3']
    · have h2' : 64 < b.p := by omega
      simp [h1, h2, h2']
  · have h1' : b.p < 1 := by omega
    simp [h1, h1']

/-- The array of the setters. -/
def stA (N : Nat) (l : List Bt) : Array Value := ((List.range N).map fun (x : Nat) => Value.int .i64 (stF l (x : Int))).toArray
theorem stA_get (N : Nat) (l : List Bt) {x : Nat} (h : x < N) : (stA N l)[x]? = some (.int .i64 (stF l x)) := by
  simp [stA, h]
/-- While the cells are set to -1. -/
def fillA (N k : Nat) : Array Value := ((List.range N).map fun x => Value.int .i64 (if x < k then -1 else 0)).toArray
theorem fillA_zero (N : Nat) : fillA N 0 = Array.replicate N (.int .i64 0) := by
  apply Array.ext <;> simp [fillA]
theorem fillA_get (N k : Nat) {x : Nat} (h : x < N) : (fillA N k)[x]? = some (.int .i64 (if x < k then -1 else 0)) := by
  simp [fillA, h]
theorem fillA_set (N k : Nat) (_h : k < N) : (fillA N k).setIfInBounds k (.int .i64 (-1)) = fillA N (k + 1) := by
  apply Array.ext
  · simp [fillA]
  · intro i h1 h2
    have hi : i < N := by simpa [fillA] using h2
    rw [Array.getElem_setIfInBounds (by simpa [fillA] using hi)]
    simp only [fillA, List.getElem_toArray, List.getElem_map, List.getElem_range]
    split
    · rename_i e
      rw [if_pos (by omega)]
    · rename_i e
      by_cases h3 : i < k
      · rw [if_pos h3, if_pos (by omega)]
      · rw [if_neg h3, if_neg (by omega)]
theorem fillA_full (N : Nat) : fillA N N = stA N [] := by
  apply Array.ext
  · simp [fillA, stA]
  · intro i h1 h2
    have hi : i < N := by simpa [stA] using h2
    simp [fillA, stA, stF_nil, hi]
theorem take_snoc' {l : List Bt} {k : Nat} {b : Bt} (h : l[k]? = some b) : l.take (k + 1) = l.take k ++ [b] := by
  rw [List.take_add_one, h]
  rfl
theorem stA_set {N : Nat} {l : List Bt} {k : Nat} {b : Bt} (hb : l[k]? = some b) (h0 : 0 ≤ b.to) (_hN : b.to < N) (hs : stF (l.take k) b.to < 0) :
    (stA N (l.take k)).setIfInBounds b.to.toNat (.int .i64 k) = stA N (l.take (k + 1)) := by
  have hk : k < l.length := (List.getElem?_eq_some_iff.1 hb).1
  rw [take_snoc' hb]
  apply Array.ext
  · simp [stA]
  · intro i h1 h2
    have hi : i < N := by simpa [stA] using h2
    rw [Array.getElem_setIfInBounds (by simpa [stA] using hi)]
    simp only [stA, List.getElem_toArray, List.getElem_map, List.getElem_range, stF_snoc]
    have hl : (l.take k).length = k := by simp; omega
    split
    · rename_i e
      have e' : (i : Int) = b.to := by omega
      rw [e', if_neg (by omega), if_pos rfl, hl]
    · rename_i e
      have e' : ¬ b.to = (i : Int) := by omega
      by_cases h3 : 0 ≤ stF (l.take k) i
      · rw [if_pos h3]
      · have := stF_lo (l.take k) (i : Int)
        rw [if_neg h3, if_neg e']
        congr 1
        omega

theorem vld_false {n : Int} {l : List Bt} {k : Nat} {x : Bt} (hx : l[k]? = some x) (h : okB n (l.take k) x = false) : vld n l = false := by
  have hk : k < l.length := (List.getElem?_eq_some_iff.1 hx).1
  cases hv : vld n l with
  | false => rfl
  | true =>
    unfold vld at hv
    simp only [Bool.and_eq_true] at hv
    have := okUp_mono (j := k + 1) (by omega) hv.2
    simp only [okUp, Bool.and_eq_true] at this
    have e : l.getD k default = x := by rw [List.getD_eq_getElem?_getD, hx]; rfl
    rw [e, h] at this
    exact absurd this.2 (by simp)
theorem okUp_step {n : Int} {l : List Bt} {k : Nat} {x : Bt} (hx : l[k]? = some x) (hu : okUp n l k = true) (h : okB n (l.take k) x = true) : okUp n l (k + 1) = true := by
  have e : l.getD k default = x := by rw [List.getD_eq_getElem?_getD, hx]; rfl
  simp only [okUp, hu, e, h, Bool.and_self]
theorem Blk.new' (w : World) (t : TypeId) (cs : Array Value) (g : Nat) (h : g = w.heap.size) : Blk (w.alloc (.cells cs t)) g t cs := by
  subst h
  exact Blk.new w t cs

/-- What newPlan leaves. -/
def PlanP (n : Int) (l : List Bt) (v : Value) (w : World) (e : Ending) (w' : World) : Prop :=
  Below w.heap.size w w' ∧ ((vld n l = false ∧ e = .returned (.tuple #[.agg #[.slice none 0 0, .slice none 0 0], .bool false])) ∨
    (vld n l = true ∧ e = .returned (.tuple #[.agg #[v, .slice (some ⟨w.heap.size + 2, 0, none⟩) n.toNat n.toNat], .bool true]) ∧ Blk w' (w.heap.size + 2) 3 (stA n.toNat l)))

theorem made_one (z : Value) (N : Nat) : madeCells #[z] N = Array.replicate N z := by
  apply Array.ext
  · simp [madeCells]
  · intro i h1 h2
    simp [madeCells, Nat.mod_one]
theorem made_two (z : Value) (N : Nat) : madeCells #[z, z] N = Array.replicate N z := by
  apply Array.ext
  · simp [madeCells]
  · intro i h1 h2
    have : i % 2 = 0 ∨ i % 2 = 1 := by omega
    rcases this with h | h <;> simp [madeCells, h]
theorem Tryd.infoInt : (Tryd.prog.info? 3).map (fun i => (i.zero, i.size, i.bytes)) = some (some (.int .i64 0), 1, 8) := by kernel_rfl

theorem make_ints (N : Nat) (h : N ≤ 1000000) (W : World) : (Instr.makeSlice 22 (.int .i64 (N : Int)) (.int .i64 (N : Int))).run Tryd.prog W = .ok (.slice (some ⟨W.heap.size, 0, none⟩) N N) (W.alloc (.cells (Array.replicate N (.int .i64 0)) 3)) := by
  obtain ⟨i, hi, hz0, hz1, hz2⟩ := info_parts Tryd.infoInt
  have := run_make (P := Tryd.prog) (w := W) 22 3 i (.int .i64 0) Tryd.underlying22 hi hz0 .i64 .i64 (N : Int) (N : Int) (by omega) (by omega) (by rw [hz2]; omega) (by omega)
  rw [this, hz1]
  simp only [Int.toNat_natCast, Nat.mul_one]
  rw [show (Value.int IntKind.i64 0).cells = #[.int .i64 0] from rfl, made_one]

set_option maxRecDepth 100000 in
set_option maxHeartbeats 4000000 in
theorem newPlan_c (n : Int) (l : List Bt) (A : Option Addr) (cap : Nat) (w : World) (hl : Lst w w.heap.size A l) (hlen : l.length ≤ 9223372036854775807) :
    Calls Tryd.prog 50 #[.int .i64 n, .slice A l.length cap] w (PlanP n l (.slice A l.length cap) w) := by
  by_cases h0 : n < 1 ∨ (1 ≤ n ∧ 40 < n) ∨ (1 ≤ n ∧ n ≤ 40 ∧ ¬ (l.length : Int) = n - 1)
  · have hv : vld n l = false := by
      unfold vld
      rw [decide_eq_false (by omega)]
      rfl
    rcases h0 with h1 | ⟨h1, h2⟩ | ⟨h1, h2, h3⟩
    · have HV := Lib.hid hv
      clear hl hv
      go_enter Tryd.func50, Tryd.ntmps50
      go_wp2
      refine bodyPost_ret (v := .tuple #[.agg #[.slice none 0 0, .slice none 0 0], .bool false]) (by simp only [results, Tryd.results50]; go_simp) rfl ⟨?_, Or.inl ⟨HV.out, rfl⟩⟩
      (repeat (first | (with_reducible exact bl_refl _) | (with_reducible refine bl_drew ?_) | (with_reducible refine bl_alloc ?_ _) | (with_reducible refine bl_set' ?_ ?_; · (first | omega | (simp; done) | (simp; omega))) | (with_reducible refine bl_last (by assumption) ?_) | (with_reducible refine bl_drewN ?_ _)))
    · have HV := Lib.hid hv
      clear hl hv
      go_enter Tryd.func50, Tryd.ntmps50
      go_wp2
      refine bodyPost_ret (v := .tuple #[.agg #[.slice none 0 0, .slice none 0 0], .bool false]) (by simp only [results, Tryd.results50]; go_simp) rfl ⟨?_, Or.inl ⟨HV.out, rfl⟩⟩
      (repeat (first | (with_reducible exact bl_refl _) | (with_reducible refine bl_drew ?_) | (with_reducible refine bl_alloc ?_ _) | (with_reducible refine bl_set' ?_ ?_; · (first | omega | (simp; done) | (simp; omega))) | (with_reducible refine bl_last (by assumption) ?_) | (with_reducible refine bl_drewN ?_ _)))
    · have HV := Lib.hid hv
      have h3' : ((l.length : Int) == n - 1) = false := beq_eq_false_iff_ne.2 h3
      have h3'' : ((l.length : Int) != n - 1) = true := by simpa using h3
      clear hl hv h3
      generalize l.length = L at *
      go_enter Tryd.func50, Tryd.ntmps50
      go_wp2
      refine bodyPost_ret (v := .tuple #[.agg #[.slice none 0 0, .slice none 0 0], .bool false]) (by simp only [results, Tryd.results50]; go_simp) rfl ⟨?_, Or.inl ⟨HV.out, rfl⟩⟩
      (repeat (first | (with_reducible exact bl_refl _) | (with_reducible refine bl_drew ?_) | (with_reducible refine bl_alloc ?_ _) | (with_reducible refine bl_set' ?_ ?_; · (first | omega | (simp; done) | (simp; omega))) | (with_reducible refine bl_last (by assumption) ?_) | (with_reducible refine bl_drewN ?_ _)))
  have h1 : 1 ≤ n := by omega
  have h2 : n ≤ 40 := by omega
  have h3 : (l.length : Int) = n - 1 := by omega
  obtain ⟨N, rfl⟩ : ∃ N : Nat, n = N := ⟨n.toNat, by omega⟩
  have hL : l.length + 1 = N := by omega
  clear h0
  have hmk := make_ints N (by omega)
  rw [← fillA_zero] at hmk
  have HL := Lib.hid hl
  clear hl
  have HLen := Lib.hid h3
  clear h3
  generalize hLL : l.length = L at *
  have HLL := Lib.hid hLL
  clear hLL
  have c2 : ((L : Int) != (N : Int) - 1) = false := by have := HLen.out; simp; omega
  go_enter Tryd.func50, Tryd.ntmps50
  go_wp2
  go_loopw [33] (fun i wr => ∃ k : Nat, k ≤ N ∧ i = .int .i64 k ∧ Below w.heap.size w wr ∧ w.heap.size + 4 ≤ wr.heap.size ∧ Blk wr w.heap.size 3 #[.int .i64 (N : Int)] ∧
    Blk wr (w.heap.size + 1) 116 #[.slice none 0 0, .slice none 0 0] ∧ Blk wr (w.heap.size + 2) 3 (fillA N k) ∧ Blk wr (w.heap.size + 3) 116 #[.slice A L cap, .slice (some ⟨w.heap.size + 2, 0, none⟩) N N])
    (fun i _ => N - (intOf i).toNat)
  case atStart =>
    refine ⟨0, Nat.zero_le _, rfl, ?_, ?_, ?_, ?_, ?_, ?_⟩
    · (repeat (first | (with_reducible exact bl_refl _) | (with_reducible refine bl_drew ?_) | (with_reducible refine bl_alloc ?_ _) | (with_reducible refine bl_set' ?_ ?_; · (first | omega | (simp; done) | (simp; omega))) | (with_reducible refine bl_last (by assumption) ?_) | (with_reducible refine bl_drewN ?_ _)))
    · simp
    · exact (((Blk.new' w _ _ _ (by simp)).alloc _).alloc _).alloc _
    · exact ((Blk.new' _ _ _ _ (by simp)).alloc _).alloc _
    · exact (Blk.new' _ _ _ _ (by simp)).alloc _
    · exact Blk.new' _ _ _ _ (by simp)
  case round =>
    obtain ⟨k, hk, rfl, hb, hz, b0, b1, b2, b3⟩ := hrel
    have c0 := b0.cell 0
    have c10 := b1.cell 0
    have c11 := b1.cell 1
    have c30 := b3.cell 0
    have c31 := b3.cell 1
    simp only [List.getElem?_toArray, List.getElem?_cons_zero, List.getElem?_cons_succ] at c0 c10 c11 c30 c31
    have f10 := b1.frozen 0
    have f11 := b1.frozen 1
    by_cases hlt : k < N
    · have c2 := (b2.cell k).trans (fillA_get N k hlt)
      have f2 := b2.frozen k
      have b2' := Lib.hid ((b2.set_ k (.int .i64 (-1))).trans (by rw [fillA_set N k hlt]))
      have b0' := Lib.hid (b0.far (p := ⟨w.heap.size + 2, k, none⟩) (by show w.heap.size ≠ w.heap.size + 2; omega) (.int .i64 (-1)))
      have b1' := Lib.hid (b1.far (p := ⟨w.heap.size + 2, k, none⟩) (by show w.heap.size + 1 ≠ w.heap.size + 2; omega) (.int .i64 (-1)))
      have b3' := Lib.hid (b3.far (p := ⟨w.heap.size + 2, k, none⟩) (by show w.heap.size + 3 ≠ w.heap.size + 2; omega) (.int .i64 (-1)))
      clear b0 b1 b2 b3
      go_wp2
      go_roundw
      case rel =>
        exact ⟨k + 1, hlt, by go_num, hb.setCell (p := ⟨w.heap.size + 2, k, none⟩) (by show w.heap.size ≤ w.heap.size + 2; omega) _, by simpa [World.setCell] using hz, b0'.out, b1'.out, b2'.out, b3'.out⟩
      case measure => simp [intOf]; omega
    · obtain rfl : N = k := by omega
      rw [fillA_full] at b2
      have B0 := Lib.hid b0
      have B1 := Lib.hid b1
      have B2 := Lib.hid b2
      have B3 := Lib.hid b3
      clear b0 b1 b2 b3 hlt hk
      go_wp2
      obtain ⟨w0, hw0⟩ : ∃ w0 : World, w0 = wr := ⟨_, rfl⟩
      subst hw0
      clear c0 c10 c11 c30 c31 f10 f11
      go_loopw [43] (fun i wr => ∃ k : Nat, k ≤ L ∧ i = .int .i64 k ∧ Hid (okUp N l k = true) ∧ Below w.heap.size w wr ∧ w.heap.size + 4 ≤ wr.heap.size ∧ Hid (Blk wr w.heap.size 3 #[.int .i64 (N : Int)]) ∧
        Hid (Blk wr (w.heap.size + 1) 116 #[.slice none 0 0, .slice none 0 0]) ∧ Hid (Blk wr (w.heap.size + 2) 3 (stA N (l.take k))) ∧ Hid (Blk wr (w.heap.size + 3) 116 #[.slice A L cap, .slice (some ⟨w.heap.size + 2, 0, none⟩) N N]))
        (fun i _ => L - (intOf i).toNat)
      case atStart => exact ⟨0, Nat.zero_le _, rfl, rfl, hb, hz, B0, B1, B2, B3⟩
      case round =>
        clear B0 B1 B2 B3 hb hz
        obtain ⟨k, hk, rfl, HU, hbw, hzw, B0, B1, B2, B3⟩ := hrel
        have c0 := B0.out.cell 0
        have c10 := B1.out.cell 0
        have c11 := B1.out.cell 1
        have c30 := B3.out.cell 0
        have c31 := B3.out.cell 1
        simp only [List.getElem?_toArray, List.getElem?_cons_zero, List.getElem?_cons_succ] at c0 c10 c11 c30 c31
        have f10 := B1.out.frozen 0
        have f11 := B1.out.frozen 1
        by_cases hlt : k < L
        · obtain ⟨x, hx⟩ : ∃ x, l[k]? = some x := ⟨l[k]'(by have := HLL.out; omega), by simp⟩
          obtain ⟨bl, off, rfl, hbl, hcl⟩ := HL.out (by have := HLL.out; omega)
          obtain ⟨x0, x1, x2, x3, x4, x5, x6⟩ := (hcl k x hx).same (fun j => hbw.cell (p := ⟨bl, j, none⟩) hbl)
          clear hcl
          have HX := Lib.hid hx
          clear hx
          have hbl' : bl < wr.heap.size := by omega
          have SC : ∀ (o : Obj) (y : Int), Calls Tryd.prog 106 #[.int .i64 y, .pointer (some ⟨w.heap.size, 0, none⟩), .pointer (some ⟨w.heap.size + 1 + 1 + 1, 0, none⟩)] (wr.alloc o) (RetS (.bool (setB N (stF (l.take k)) y)) (wr.alloc o)) := fun o y =>
            set_c y N N _ _ (w.heap.size + 2) (stF (l.take k)) _ ((B0.out.alloc o).cell 0) ((B3.out.alloc o).cell 1) rfl (fun h0 h1 => by
              have hy : ((y.toNat : Nat) : Int) = y := by omega
              have := ((B2.out.alloc o).cell y.toNat).trans (stA_get N (l.take k) (x := y.toNat) (by omega))
              rw [hy] at this
              exact this)
          have ST := fun o => SC o x.to
          have SF := fun o => SC o x.fr
          clear SC
          have SR := fun w => isRate_c x.rn x.rd w
          have hways := ok_ways N (l.take k) x
          have hstep : setB N (stF (l.take k)) x.to = false → 0 ≤ x.to → x.to < N → stF (l.take k) x.to < 0 := fun h h1 h2 => by
            unfold setB at h
            simp at h
            omega
          generalize setB N (stF (l.take k)) x.to = s1 at *
          generalize setB N (stF (l.take k)) x.fr = s2 at *
          generalize rtV x.rn x.rd = s3 at *
          generalize hok : okB N (l.take k) x = ok at *
          have ST := Lib.hid ST
          have SF := Lib.hid SF
          have SR := Lib.hid SR
          have HOK := Lib.hid hok
          have HST := Lib.hid hstep
          clear hok hstep
          obtain ⟨xfr, xto, xp, xq, xrn, xrd, xab⟩ := x
          simp only at x0 x1 x2 x3 x4 x5 x6 hways
          dsimp only at ST SF SR HST
          rcases hways with ⟨v1, rfl⟩ | ⟨v1, v2, rfl⟩ | ⟨v1, v2, v3, rfl⟩ | ⟨v1, v2, v3, v4, rfl⟩ | ⟨v1, v2, v3, v4, v5, rfl⟩ | ⟨v1, v2, v3, v4, v5, v6, rfl⟩ | ⟨v1, v2, v3, v4, v5, v6, rfl, rfl⟩ | ⟨v1, v2, v3, v4, v5, v6, rfl, rfl, rfl⟩ | ⟨v1, v2, v3, v4, v5, v6, rfl, rfl, rfl, rfl⟩ | ⟨v1, v2, v3, v4, v5, v6, rfl, rfl, rfl, rfl⟩
          iterate 9
            · go_wp2_with (first | (go_at_call 106; ((with_reducible refine (ST.out _).mono ?_); rintro e w' ⟨rfl, rfl⟩)) | (go_at_call 106; ((with_reducible refine (SF.out _).mono ?_); rintro e w' ⟨rfl, rfl⟩)) | (go_at_call 63; ((with_reducible refine (SR.out _).mono ?_); rintro e w' ⟨rfl, hb⟩; obtain ⟨hz, hc, hf⟩ := bcl hb (by first | (simp; rfl) | rfl))))
              refine bodyPost_ret (v := .tuple #[.agg #[.slice none 0 0, .slice none 0 0], .bool false]) (by simp only [results, Tryd.results50]; go_simp) rfl ⟨?_, Or.inl ⟨vld_false HX.out HOK.out, rfl⟩⟩
              (repeat (first | (with_reducible exact bl_refl _) | (with_reducible refine bl_drew ?_) | (with_reducible refine bl_alloc ?_ _) | (with_reducible refine bl_set' ?_ ?_; · (first | omega | (simp; done) | (simp; omega))) | (with_reducible refine bl_last (by assumption) ?_) | (with_reducible refine bl_drewN ?_ _)))
          · have hneg := HST.out rfl v5 v6
            have c2 := (B2.out.cell xto.toNat).trans (stA_get N (l.take k) (by omega))
            have f2 := B2.out.frozen xto.toNat
            go_wp2_with (first | (go_at_call 106; ((with_reducible refine (ST.out _).mono ?_); rintro e w' ⟨rfl, rfl⟩)) | (go_at_call 106; ((with_reducible refine (SF.out _).mono ?_); rintro e w' ⟨rfl, rfl⟩)) | (go_at_call 63; ((with_reducible refine (SR.out _).mono ?_); rintro e w' ⟨rfl, hb⟩; obtain ⟨hz, hc, hf⟩ := bcl hb (by first | (simp; rfl) | rfl))))
            go_roundw
            case rel =>
              have hbA := bl_trans (bl_alloc hbw _) hb
              have hne : ∀ g, g ≠ w.heap.size + 2 → g ≠ Addr.block ⟨w.heap.size + 2, xto.toNat, none⟩ := fun g h => h
              exact ⟨k + 1, hlt, by go_num, okUp_step HX.out HU.out HOK.out, hbA.setCell (p := ⟨w.heap.size + 2, xto.toNat, none⟩) (by show w.heap.size ≤ w.heap.size + 2; omega) _, by simp only [World.setCell, Array.size_modify]; omega,
                ((B0.out.alloc _).below hb (B0.out.alloc _).lt).far (hne _ (by omega)) _, ((B1.out.alloc _).below hb (B1.out.alloc _).lt).far (hne _ (by omega)) _,
                (((B2.out.alloc _).below hb (B2.out.alloc _).lt).set_ _ _).trans (by rw [stA_set HX.out v5 v6 hneg]), ((B3.out.alloc _).below hb (B3.out.alloc _).lt).far (hne _ (by omega)) _⟩
            case measure => simp [intOf]; omega
        · have hkL : k = L := by omega
          subst hkL
          have HV : vld N l = true := by
            unfold vld
            rw [HLL.out, HU.out, decide_eq_true ⟨h1, h2, HLen.out⟩]
            rfl
          have HV := Lib.hid HV
          have hfin : l.take k = l := by rw [← HLL.out, List.take_length]
          rw [hfin] at B2
          have HF := Lib.hid hfin
          clear hfin
          go_wp2
          refine bodyPost_ret (v := .tuple #[.agg #[.slice A k cap, .slice (some ⟨w.heap.size + 2, 0, none⟩) N N], .bool true]) (by simp only [results, Tryd.results50]; go_simp) rfl ⟨?_, Or.inr ⟨HV.out, rfl, ?_⟩⟩
          · (repeat (first | (with_reducible exact bl_refl _) | (with_reducible refine bl_drew ?_) | (with_reducible refine bl_alloc ?_ _) | (with_reducible refine bl_set' ?_ ?_; · (first | omega | (simp; done) | (simp; omega))) | (with_reducible refine bl_last (by assumption) ?_) | (with_reducible refine bl_drewN ?_ _)))
          · exact (B2.out.far (by show w.heap.size + 2 ≠ w.heap.size + 1; omega) _).far (by show w.heap.size + 2 ≠ w.heap.size + 1; omega) _
end Go.Proofs.YtehifkdfbiebfaaDoor
