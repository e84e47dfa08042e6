/- Exchange of two neighbouring steps: the list stays valid, and its frequencies are the same. The reference's minus and set. The reference's indices and rests. The reference's rests. The reference's Item. The reference's Repair. The reference's Suspects. -/
import Derived.Test.YtkgklmmkkhbimaaPlainC
import Derived.Test.YtkgklmmkkhbimaaBenchB
import Derived.Test.YtkgklmmkkhbimaaSusC
import Derived.Test.YtkgklmmkkhbimaaRefB
import Derived.Test.YtkgklmmkkhbimaaSusB
namespace Go.Proofs.Ytkgklmmkkhbimaa
open Go.RowKit

theorem okB_of {n : Int} {pre : List Bt} {b : Bt} (h1 : ptV b.p = true) (h2 : ptV b.q = true) (h3 : rtV b.rn b.rd = true) (h4 : 0 < b.to) (h5 : b.to < n) (h6 : stF pre b.to < 0) (h7 : b.fr = 0 ∨ (0 < b.fr ∧ b.fr < n ∧ 0 ≤ stF pre b.fr)) : okB n pre b = true := by
  unfold okB
  have e1 : setB n (stF pre) b.to = false := by
    unfold setB
    rw [decide_eq_false (by omega), decide_eq_false (p := 0 ≤ stF pre b.to) (by omega)]
    simp
  have e2 : setB n (stF pre) b.fr = true := by
    unfold setB
    rcases h7 with h | ⟨p1, p2, p3⟩
    · simp [h]
    · simp
      omega
  rw [h1, h2, h3, e1, e2, decide_eq_true (by omega)]
  rfl
theorem okUp_of {n : Int} {l : List Bt} : ∀ {k : Nat}, k ≤ l.length → (∀ i b, i < k → l[i]? = some b → okB n (l.take i) b = true) → okUp n l k = true
  | 0, _, _ => rfl
  | k + 1, hk, h => by
    have hb : l[k]? = some (l[k]'(by omega)) := List.getElem?_eq_getElem _
    show (okUp n l k && okB n (l.take k) (l.getD k default)) = true
    rw [getD_of hb, okUp_of (k := k) (by omega) (fun i b hi hb => h i b (by omega) hb), h k _ (by omega) hb]
    rfl
theorem stF_mem {l : List Bt} {x : Int} : 0 ≤ stF l x ↔ ∃ b ∈ l, b.to = x := by
  constructor
  · intro h
    obtain ⟨b, hb, e⟩ := stF_get h
    exact ⟨b, List.mem_of_getElem? hb, e⟩
  · rintro ⟨b, hb, e⟩
    rcases Int.lt_or_le (stF l x) 0 with h | h
    · exact absurd e (stF_none.1 h b hb)
    · exact h
/-- What a valid list needs depends on which items are set before alone. -/
theorem okB_mem {n : Int} {p p' : List Bt} {b : Bt} (hs : (∃ c ∈ p', c.to = b.to) → ∃ c ∈ p, c.to = b.to) (hf : (∃ c ∈ p, c.to = b.fr) → ∃ c ∈ p', c.to = b.fr) (h : okB n p b = true) : okB n p' b = true := by
  obtain ⟨h1, h2, h3, h4, h5, h6, h7⟩ := ok_parts h
  refine okB_of h1 h2 h3 h4 h5 ?_ ?_
  · rcases Int.lt_or_le (stF p' b.to) 0 with k | k
    · exact k
    · have := stF_mem.2 (hs (stF_mem.1 k))
      omega
  · rcases h7 with h | ⟨p1, p2, p3⟩
    · exact Or.inl h
    · exact Or.inr ⟨p1, p2, stF_mem.2 (hf (stF_mem.1 p3))⟩
theorem swap_parts {n : Int} {P S : List Bt} {a b : Bt} (hv : vld n (P ++ a :: b :: S) = true) (hne : b.fr ≠ a.to) :
    okB n P a = true ∧ okB n (P ++ [a]) b = true ∧ a.to ≠ b.to ∧ a.fr ≠ b.to := by
  have ha := vld_at hv (i := P.length) (b := a) (by simp)
  have hb := vld_at hv (i := P.length + 1) (b := b) (by simp)
  have t1 : (P ++ a :: b :: S).take P.length = P := by simp
  have t2 : (P ++ a :: b :: S).take (P.length + 1) = P ++ [a] := by rw [List.take_length_add_append]; rfl
  rw [t1] at ha
  rw [t2] at hb
  have hp := ok_parts ha
  have hq := ok_parts hb
  have hno := stF_none.1 hq.2.2.2.2.2.1
  refine ⟨ha, hb, hno a (by simp), ?_⟩
  rcases hp.2.2.2.2.2.2 with h | ⟨_, _, h⟩
  · have := hq.2.2.2.1
    omega
  · obtain ⟨c, hc, e⟩ := stF_mem.1 h
    have := hno c (by simp [hc])
    omega
theorem swap_vld {n : Int} {P S : List Bt} {a b : Bt} (hv : vld n (P ++ a :: b :: S) = true) (hne : b.fr ≠ a.to) : vld n (P ++ b :: a :: S) = true := by
  obtain ⟨ha, hb, n1, n2⟩ := swap_parts hv hne
  have hlen := vld_len hv
  unfold vld
  rw [decide_eq_true (by simpa using hlen), Bool.true_and]
  refine okUp_of (Nat.le_refl _) fun i c hi hc => ?_
  have hi' : i < P.length ∨ i = P.length ∨ i = P.length + 1 ∨ ∃ j, i = P.length + (j + 2) := by
    rcases Nat.lt_or_ge i P.length with h | h
    · exact Or.inl h
    · by_cases h1 : i = P.length
      · exact Or.inr (Or.inl h1)
      · by_cases h2 : i = P.length + 1
        · exact Or.inr (Or.inr (Or.inl h2))
        · exact Or.inr (Or.inr (Or.inr ⟨i - P.length - 2, by omega⟩))
  rcases hi' with h | rfl | rfl | ⟨j, rfl⟩
  · have e : (P ++ b :: a :: S).take i = (P ++ a :: b :: S).take i := by
      rw [List.take_append_of_le_length (by omega), List.take_append_of_le_length (by omega)]
    rw [e]
    refine vld_at hv ?_
    rw [List.getElem?_append_left h] at hc ⊢
    exact hc
  · have hcb : b = c := by simpa using hc
    subst hcb
    rw [show (P ++ b :: a :: S).take P.length = P by simp]
    refine okB_mem ?_ ?_ hb
    · rintro ⟨d, hd, e⟩
      exact ⟨d, by simp [hd], e⟩
    · rintro ⟨d, hd, e⟩
      rw [List.mem_append, List.mem_singleton] at hd
      rcases hd with hd | rfl
      · exact ⟨d, hd, e⟩
      · exact absurd e.symm hne
  · have hca : a = c := by simpa using hc
    subst hca
    rw [show (P ++ b :: a :: S).take (P.length + 1) = P ++ [b] by rw [List.take_length_add_append]; rfl]
    refine okB_mem ?_ ?_ ha
    · rintro ⟨d, hd, e⟩
      rw [List.mem_append, List.mem_singleton] at hd
      rcases hd with hd | rfl
      · exact ⟨d, hd, e⟩
      · exact absurd e.symm n1
    · rintro ⟨d, hd, e⟩
      exact ⟨d, by simp [hd], e⟩
  · have hc' : (P ++ a :: b :: S)[P.length + (j + 2)]? = some c := by
      rw [List.getElem?_append_right (by omega)] at hc ⊢
      simpa using hc
    have h := vld_at hv hc'
    have e1 : (P ++ a :: b :: S).take (P.length + (j + 2)) = P ++ a :: b :: S.take j := by rw [List.take_length_add_append]; rfl
    have e2 : (P ++ b :: a :: S).take (P.length + (j + 2)) = P ++ b :: a :: S.take j := by rw [List.take_length_add_append]; rfl
    rw [e1] at h
    rw [e2]
    have hm : ∀ d, d ∈ P ++ a :: b :: S.take j ↔ d ∈ P ++ b :: a :: S.take j := by
      intro d
      simp only [List.mem_append, List.mem_cons]
      constructor
      · rintro (h | h | h | h) <;> simp [h]
      · rintro (h | h | h | h) <;> simp [h]
    refine okB_mem ?_ ?_ h
    · rintro ⟨d, hd, e⟩
      exact ⟨d, (hm d).2 hd, e⟩
    · rintro ⟨d, hd, e⟩
      exact ⟨d, (hm d).1 hd, e⟩

/-- What a step makes of the frequencies. -/
def putF (b : Bt) (o : Int × Int) (g : Nat → Int × Int) : Option (Nat → Int × Int) :=
  if stepE (g b.fr.toNat) b o = 0 then some fun x => if x = b.to.toNat then stepF (g b.fr.toNat) b o else g x else none
theorem plO_put (l : List Bt) (f0 : Int × Int) (off : Nat → Int × Int) (k : Nat) : plO l f0 off (k + 1) = (plO l f0 off k).bind (putF (l.getD k default) (off k)) := rfl
theorem plO_congr {l l' : List Bt} {f0 : Int × Int} {off : Nat → Int × Int} : ∀ {k : Nat}, (∀ i, i < k → l.getD i default = l'.getD i default) → plO l f0 off k = plO l' f0 off k
  | 0, _ => rfl
  | k + 1, h => by rw [plO_put, plO_put, plO_congr (k := k) (fun i hi => h i (by omega)), h k (by omega)]
theorem put_comm {a b : Bt} {o : Int × Int} (h1 : a.to.toNat ≠ b.fr.toNat) (h2 : b.to.toNat ≠ a.fr.toNat) (h3 : a.to.toNat ≠ b.to.toNat) (g : Nat → Int × Int) : (putF a o g).bind (putF b o) = (putF b o g).bind (putF a o) := by
  unfold putF
  by_cases ea : stepE (g a.fr.toNat) a o = 0
  · by_cases eb : stepE (g b.fr.toNat) b o = 0
    · rw [if_pos ea, if_pos eb, Option.bind_some, Option.bind_some]
      simp only [h1.symm, h2.symm, if_false]
      rw [if_pos ea, if_pos eb]
      congr 1
      funext x
      by_cases xa : x = a.to.toNat
      · subst xa
        simp [h3]
      · simp [xa]
    · rw [if_pos ea, if_neg eb, Option.bind_some]
      simp only [h1.symm, if_false]
      rw [if_neg eb]
      rfl
  · by_cases eb : stepE (g b.fr.toNat) b o = 0
    · rw [if_neg ea, if_pos eb, Option.bind_some]
      simp only [h2.symm, if_false]
      rw [if_neg ea]
      rfl
    · rw [if_neg ea, if_neg eb]
      rfl
theorem swap_pl {n : Int} {P S : List Bt} {a b : Bt} (hv : vld n (P ++ a :: b :: S) = true) (hne : b.fr ≠ a.to) (f0 o : Int × Int) : ∀ j, plO (P ++ b :: a :: S) f0 (fun _ => o) (P.length + (j + 2)) = plO (P ++ a :: b :: S) f0 (fun _ => o) (P.length + (j + 2))
  | 0 => by
    obtain ⟨ha, hb, n1, n2⟩ := swap_parts hv hne
    have pa := (ok_parts ha).2.2.2
    have pb := (ok_parts hb).2.2.2
    show plO _ _ _ ((P.length + 1) + 1) = plO _ _ _ ((P.length + 1) + 1)
    rw [plO_put, plO_put, plO_put, plO_put, plO_congr (k := P.length) (l' := P ++ a :: b :: S) (fun i hi => by simp only [List.getD_eq_getElem?_getD]; rw [List.getElem?_append_left hi, List.getElem?_append_left hi])]
    have g1 : (P ++ b :: a :: S).getD P.length default = b := getD_of (by simp)
    have g2 : (P ++ b :: a :: S).getD (P.length + 1) default = a := getD_of (by simp)
    have g3 : (P ++ a :: b :: S).getD P.length default = a := getD_of (by simp)
    have g4 : (P ++ a :: b :: S).getD (P.length + 1) default = b := getD_of (by simp)
    rw [g1, g2, g3, g4]
    cases plO (P ++ a :: b :: S) f0 (fun _ => o) P.length with
    | none => rfl
    | some g =>
      simp only [Option.bind_some]
      exact put_comm (by omega) (by omega) (by omega) g
  | j + 1 => by
    have ih := swap_pl hv hne f0 o j
    show plO _ _ _ ((P.length + (j + 2)) + 1) = plO _ _ _ ((P.length + (j + 2)) + 1)
    rw [plO_put, plO_put, ih]
    congr 2
    simp only [List.getD_eq_getElem?_getD]
    rw [List.getElem?_append_right (by omega), List.getElem?_append_right (by omega)]
    simp
/-- The list with steps i and i + 1 exchanged. -/
def swapL (l : List Bt) (i : Nat) : List Bt := (l.set i (l.getD (i + 1) default)).set (i + 1) (l.getD i default)
theorem swapL_len (l : List Bt) (i : Nat) : (swapL l i).length = l.length := by simp [swapL]
theorem swap_law {n : Int} {l : List Bt} {i : Nat} (hi : i + 1 < l.length) (hv : vld n l = true) (hne : (l.getD (i + 1) default).fr ≠ (l.getD i default).to) (f0 o : Int × Int) :
    vld n (swapL l i) = true ∧ plO (swapL l i) f0 (fun _ => o) l.length = plO l f0 (fun _ => o) l.length := by
  have e0 : l[i]? = some (l[i]'(by omega)) := List.getElem?_eq_getElem _
  have e1 : l[i + 1]? = some (l[i + 1]'hi) := List.getElem?_eq_getElem _
  rw [getD_of e0, getD_of e1] at hne
  have hl : l = l.take i ++ l[i]'(by omega) :: l[i + 1]'hi :: l.drop (i + 2) := by
    conv => lhs; rw [← List.take_append_drop i l]
    rw [List.drop_eq_getElem_cons (by omega), List.drop_eq_getElem_cons hi]
  have hs : swapL l i = l.take i ++ l[i + 1]'hi :: l[i]'(by omega) :: l.drop (i + 2) := by
    unfold swapL
    rw [getD_of e0, getD_of e1]
    refine List.ext_getElem? fun j => ?_
    rw [List.getElem?_set, List.getElem?_set]
    have hlt : (l.take i).length = i := by simp; omega
    by_cases h1 : i + 1 = j
    · subst h1
      rw [List.getElem?_append_right (by omega), hlt]
      simp
      omega
    · by_cases h2 : i = j
      · subst h2
        rw [List.getElem?_append_right (by omega), hlt]
        simp
        omega
      · simp only [h1, h2, if_false]
        rcases Nat.lt_or_ge j i with h | h
        · rw [List.getElem?_append_left (by omega), List.getElem?_take_of_lt h]
        · rw [List.getElem?_append_right (by omega), hlt]
          obtain ⟨m, rfl⟩ : ∃ m, j = i + (m + 2) := ⟨j - i - 2, by omega⟩
          rw [show i + (m + 2) - i = m + 2 by omega]
          simp only [List.getElem?_cons_succ, List.getElem?_drop]
          congr 1
          omega
  generalize l[i]'(by omega) = a at *
  generalize l[i + 1]'hi = b at *
  have hm : ∃ j, l.length = (l.take i).length + (j + 2) := ⟨l.length - i - 2, by simp; omega⟩
  obtain ⟨j, hj⟩ := hm
  rw [hl] at hv
  refine ⟨by rw [hs]; exact swap_vld hv hne, ?_⟩
  rw [hs, hj]
  have := swap_pl hv hne f0 o j
  rw [this, ← hl]
end Go.Proofs.Ytkgklmmkkhbimaa
namespace Go.Proofs.Ytkgklmmkkhbimaa
open Go.RowKit

set_option maxHeartbeats 400000 in
theorem Rminus_c (n d : Int) (w : World) (h1 : -1000000000 ≤ n) (h2 : n ≤ 1000000000) : Calls Try.prog 43 #[.agg #[.int .i64 n, .int .i64 d]] w (Ret (.agg #[.int .i64 (-n), .int .i64 d]) w) := by
  have n1 : IntKind.i64.wrap (-n) = -n := by rw [IntKind.wrap_i64]; omega
  go_enter Try.func43, Try.ntmps43
  go_wp2
  (refine bodyPost_ret (v := .agg #[.int .i64 (-n), .int .i64 d]) (by simp only [results, Try.results43]; go_simp) rfl ⟨rfl, ?_⟩)
  (repeat (first | (with_reducible exact bl_refl _) | (with_reducible refine bl_drew ?_) | (with_reducible refine bl_alloc ?_ _) | (with_reducible refine bl_set' ?_ ?_; · (first | omega | (simp; done) | (simp; omega))) | (with_reducible refine bl_last (by assumption) ?_) | (with_reducible refine bl_drewN ?_ _)))

set_option maxHeartbeats 2000000 in
theorem Rset_c (fn fd fr to p q rn rd o od : Int) (above : Bool) (w : World) (h1 : -1000000000 ≤ rn) (h2 : rn ≤ 1000000000) :
    Calls Try.prog 42 #[.agg #[.int .i64 fn, .int .i64 fd], .agg #[.int .i64 fr, .int .i64 to, .int .i64 p, .int .i64 q, .int .i64 rn, .int .i64 rd, .bool above], .agg #[.int .i64 o, .int .i64 od]] w (Ret (moV fn fd p q (sgn above rn) rd o od) w) := by
  have HA := fun w => RAdd_c (sgn above rn) rd o od w
  simp only [addV_eq] at HA
  have hw := mo_ways fn fd p q (sgn above rn) rd o od
  have HS := fun w => RSet_c fn fd p q (adN (sgn above rn) rd o od).natAbs (adD (sgn above rn) rd o od) (decide (0 ≤ adN (sgn above rn) rd o od)) w
  simp only [seV_eq] at HS
  have hb := adN_bd (sgn above rn) rd o od
  generalize moV fn fd p q (sgn above rn) rd o od = mv at *
  generalize adN (sgn above rn) rd o od = x at *
  generalize adD (sgn above rn) rd o od = y at *
  generalize adE (sgn above rn) rd o od = e at *
  generalize seE fn fd p q x.natAbs y (decide (0 ≤ x)) = k at *
  generalize seX fn fd p q x.natAbs y (decide (0 ≤ x)) = u at *
  generalize seY fn fd p q x.natAbs y (decide (0 ≤ x)) = v at *
  obtain ⟨hb1, hb2⟩ := hb
  have HM := Lib.hid (fun w => Rminus_c rn rd w h1 h2)
  have HX := Lib.hid (fun w => Rminus_c x y w hb1 hb2)
  have hx3 : (x < 0 ∧ (x.natAbs : Int) = -x ∧ decide (0 ≤ x) = false) ∨ (x = 0 ∧ (x.natAbs : Int) = 0 ∧ decide (0 ≤ x) = true) ∨ (0 < x ∧ (x.natAbs : Int) = x ∧ decide (0 ≤ x) = true) := by
    rcases Int.lt_trichotomy x 0 with h | h | h
    · exact Or.inl ⟨h, by omega, decide_eq_false (by omega)⟩
    · exact Or.inr (Or.inl ⟨h, by omega, decide_eq_true (by omega)⟩)
    · exact Or.inr (Or.inr ⟨h, by omega, decide_eq_true (by omega)⟩)
  rcases hx3 with ⟨g1, g2, g3⟩ | ⟨g1, g2, g3⟩ | ⟨g1, g2, g3⟩
  all_goals
    rw [g2, g3] at HS
    clear g2
    try subst g1
    have HS := Lib.hid HS
    have HA := Lib.hid HA
    rcases hw with ⟨w1, rfl⟩ | ⟨w1, w2, rfl⟩ | ⟨w1, w2, rfl⟩ <;> cases above
    all_goals
      simp only [sgn, if_true, Bool.false_eq_true, if_false] at HA
      go_enter Try.func42, Try.ntmps42
      go_wp2_with (first | (go_at_call 60; ((with_reducible refine (HA.out _).mono ?_); rintro e w' ⟨rfl, hb⟩; obtain ⟨hz, hc, hf⟩ := bcl hb (by first | (simp; rfl) | rfl))) | (go_at_call 43; ((with_reducible refine (HM.out _).mono ?_); rintro e w' ⟨rfl, hb⟩; obtain ⟨hz, hc, hf⟩ := bcl hb (by first | (simp; rfl) | rfl))) | (go_at_call 43; ((with_reducible refine (HX.out _).mono ?_); rintro e w' ⟨rfl, hb⟩; obtain ⟨hz, hc, hf⟩ := bcl hb (by first | (simp; rfl) | rfl))) | (go_at_call 61; ((with_reducible refine (HS.out _).mono ?_); rintro e w' ⟨rfl, hb⟩; obtain ⟨hz, hc, hf⟩ := bcl hb (by first | (simp; rfl) | rfl))))
      first | (refine bodyPost_ret (v := .tuple #[.agg #[.int .i64 0, .int .i64 0], .int .i64 3]) (by simp only [results, Try.results42]; go_simp) rfl ⟨rfl, ?_⟩) | (refine bodyPost_ret (v := .tuple #[.agg #[.int .i64 u, .int .i64 v], .int .i64 0]) (by simp only [results, Try.results42]; go_simp) rfl ⟨rfl, ?_⟩)
      (repeat (first | (with_reducible exact bl_refl _) | (with_reducible refine bl_drew ?_) | (with_reducible refine bl_alloc ?_ _) | (with_reducible refine bl_set' ?_ ?_; · (first | omega | (simp; done) | (simp; omega))) | (with_reducible refine bl_last (by assumption) ?_) | (with_reducible refine bl_drewN ?_ _)))
end Go.Proofs.Ytkgklmmkkhbimaa
namespace Go.Proofs.Ytkgklmmkkhbimaa
open Go.RowKit

/-- The address A of a slice of L bools. -/
def BoolsN (w : World) (B0 B : Nat) (A : Option Addr) (L : Nat) (is : Nat → Bool) : Prop :=
  0 < L → ∃ b off, A = some ⟨b, off, none⟩ ∧ B0 ≤ b ∧ b < B ∧ ∀ j, j < L → w.cell? ⟨b, off + j, none⟩ = some (.bool (is j))

set_option maxHeartbeats 2000000 in
theorem indices_c (L : Nat) (hL : L ≤ 1000) (A : Option Addr) (cap : Nat) (is : Nat → Bool) (w : World) (hb0 : BoolsN w 0 w.heap.size A L is) :
    Calls Try.prog 50 #[.slice A L cap] w (MarkF L is w) := by
  obtain ⟨i0, hi, hz0, hz1, hz2⟩ := info_parts Try.infoInt
  have HB := Lib.hid hb0
  clear hb0
  go_enter Try.func50, Try.ntmps50
  go_wp2
  go_loopw [3, 4] (fun v i wr => ∃ k : Nat, k ≤ L ∧ i = .int .i64 k ∧ Hid (wr.ownsRow w.heap.size 3 1 v (selF is k).length ((selF is k).map (Value.int .i64))) ∧ Below w.heap.size w wr) (fun _ i _ => L - (intOf i).toNat)
  case atStart => exact ⟨0, Nat.zero_le _, rfl, World.ownsRow_nil _ _ _ _, bl_refl _⟩
  case round =>
    obtain ⟨k, hk, rfl, HO, hbw⟩ := hrel
    by_cases hlt : k < L
    · obtain ⟨b1, o1, rfl, _, hb1, hc1⟩ := HB.out (by omega)
      have c1 := (hbw.cell (p := ⟨b1, o1 + k, none⟩) hb1).trans (hc1 k hlt)
      have hwz := hbw.size
      have z1 : b1 < wr.heap.size := by omega
      clear hc1 hb1
      cases hs : is k
      · rw [hs] at c1
        have HE := Lib.hid (sel_no hs)
        clear hs
        go_wp2
        go_roundw
        case rel => exact ⟨k + 1, hlt, by go_num, by rw [HE.out]; exact HO.out, hbw⟩
        case measure => simp [intOf]; omega
      · rw [hs] at c1
        have HE := Lib.hid (sel_yes hs)
        have hlen := sel_len is k
        clear hs
        go_wp2_with (at_builtin; refine wpList_append_own _ rfl _ _ 26 rfl w.heap.size 3 i0 (.int .i64 0) 1 8 Try.underlying26 hi hz0 hz1 hz2 rfl (by decide) _ _ _ rfl (HO.out.alloc _) ⟨wr.heap.size, 0, none⟩ 1 1 [.int .i64 (k : Int)] rfl rfl (cell_one_new _ _ _) (fun u hu => by simp at hu; subst hu; rfl) (by unfold maxLen; omega) (by omega) (by simp; omega) ?_; intro v' w1 hown' hgrow _)
        go_roundw
        case rel =>
          refine ⟨k + 1, hlt, by go_num, ?_, ?_⟩
          · rw [HE.out, List.length_append, List.map_append]
            exact hown'
          · refine (bl_alloc hbw _).grown hgrow ?_ ?_
            · simp; omega
            · intro g hg
              exact (HO.out.lt g hg).1
        case measure => simp [intOf]; omega
    · have hkL : k = L := by omega
      subst hkL
      obtain ⟨A', cap', rfl, hR⟩ := ints_of_ownF HO.out
      have HR := Lib.hid hR
      clear hR
      go_wp2
      go_ret
      exact ⟨hbw, A', cap', rfl, HR.out⟩
end Go.Proofs.Ytkgklmmkkhbimaa
namespace Go.Proofs.Ytkgklmmkkhbimaa
open Go.RowKit

def leftF (l : List Bt) (x : Int) : Nat := if x = 0 then 0 else (stF l x).toNat + 1
theorem left_lt {n : Int} {l : List Bt} (hv : vld n l = true) {x : Int} (h0 : 0 < x) (hn : x < n) : leftF l (frF l x) < leftF l x := by
  obtain ⟨b, _, _, _, y0, yn, yd⟩ := fr_spec hv h0 hn
  have hs := all_set hv h0 hn
  unfold leftF
  have hx : ¬ x = 0 := by omega
  by_cases h : frF l x = 0
  · simp [h, hx]
  · have := yd h
    have := all_set hv (x := frF l x) (by omega) yn
    simp only [h, hx, if_false]
    omega
set_option maxHeartbeats 2000000 in
theorem rests_c {n : Int} {l : List Bt} (hv : vld n l = true) (x : Int) (hx0 : 0 ≤ x) (hxn : x < n) (A : Option Addr) (cap : Nat) (w : World) (hl : Lst w w.heap.size A l) (hlen : l.length ≤ 1000) :
    Calls Try.prog 49 #[.slice A l.length cap, .int .i64 x] w (fun e w' => Below w.heap.size w w' ∧ e = .returned (.slice (some ⟨w.heap.size, 0, none⟩) l.length l.length) ∧ Blk w' w.heap.size 4 (onA l.length l x (wayK l x))) := by
  have HL := Lib.hid hl
  have HV := Lib.hid hv
  have HW := Lib.hid (way_spec hv hx0 hxn)
  have HS := Lib.hid (fun y w h => setter_c l y A cap w h (by omega))
  clear hl hv
  generalize hLL : l.length = L at *
  have HLL := Lib.hid hLL
  clear hLL
  have hmk := make_bools L (by omega)
  rw [← onA_zero L l x] at hmk
  go_enter Try.func49, Try.ntmps49
  go_wp2
  go_loopw [1] (fun v wr => ∃ k : Nat, k ≤ wayK l x ∧ v = .int .i64 (itL l x k) ∧ Below w.heap.size w wr ∧ w.heap.size < wr.heap.size ∧ Hid (Blk wr w.heap.size 4 (onA L l x k))) (fun v _ => leftF l (intOf v))
  case atStart => exact ⟨0, Nat.zero_le _, rfl, bl_alloc (bl_refl _) _, by simp, Lib.hid (Blk.new _ _ _)⟩
  case round =>
    clear hmk
    obtain ⟨k, hk, rfl, hbw, hzw, HB⟩ := hrel
    by_cases hlt : k < wayK l x
    · obtain ⟨t1, t2⟩ := HW.out.2 k hlt
      obtain ⟨b, hb', hto, hfr, _⟩ := fr_spec HV.out t1 t2
      have hst := all_set HV.out t1 t2
      have hslt := stF_lt l (itL l x k)
      have hset := onA_set L l x k hst
      have hsl : stF l (itL l x k) < L := by have := HLL.out; omega
      have HSET := Lib.hid hset
      have HGET := Lib.hid (onA_get L l x k (i := (stF l (itL l x k)).toNat) (by omega))
      have HM := Lib.hid (left_lt HV.out t1 t2)
      have hnx : itL l x (k + 1) = frF l (itL l x k) := rfl
      have HNX := Lib.hid hnx
      have HC := Lib.hid (HS.out (itL l x k) wr (HL.out.up hbw))
      obtain ⟨bl, off, rfl, hbl, hcl⟩ := HL.out (by have := HLL.out; omega)
      have x0 := (hcl _ b hb').1
      rw [hfr] at x0
      have hne : (itL l x k != 0) = true := by simp; omega
      clear hset hslt hnx hb' hto hfr hcl t2
      generalize itL l x k = y at *
      generalize frF l y = z at *
      generalize stF l y = st at *
      have hs2 : st.toNat < L := by omega
      go_wp2_with fail
      ((with_reducible refine HC.out.mono ?_); rintro e w2 ⟨rfl, hb⟩)
      have hb2 := HB.out.below hb hzw
      have hz2 := hb.size
      have c2 := (hb2.cell st.toNat).trans HGET.out
      have f2 := hb2.frozen st.toNat
      have hbw2 := bl_trans hbw hb
      have x0' := (hbw2.cell (p := ⟨bl, off + st.toNat * 7, none⟩) hbl).trans x0
      have HX := Lib.hid (hb2.set_ st.toNat (.bool true))
      have HBW := Lib.hid hbw2
      have hne2 : bl ≠ w.heap.size := by omega
      have hbl2 : bl < w2.heap.size := by omega
      clear x0 hb hbw hbw2 hb2
      go_wp2
      go_roundw
      case rel => exact ⟨k + 1, hlt, by rw [HNX.out], HBW.out.setCell (p := ⟨w.heap.size, st.toNat, none⟩) (Nat.le_refl _) _, by simp [World.setCell]; omega, Lib.hid (by rw [← HSET.out]; exact HX.out)⟩
      case measure => simpa [intOf] using HM.out
    · have hkK : k = wayK l x := by omega
      subst hkK
      have hz := HW.out.1
      rw [hz]
      go_wp2
      go_ret
      exact ⟨hbw, rfl, HB.out⟩
end Go.Proofs.Ytkgklmmkkhbimaa
namespace Go.Proofs.Ytkgklmmkkhbimaa
open Go.RowKit

theorem bools_on {w : World} {g L : Nat} {l : List Bt} {x : Int} {B0 : Nat} (h : Blk w g 4 (onA L l x (wayK l x))) (hg : B0 ≤ g) : BoolsN w B0 w.heap.size (some ⟨g, 0, none⟩) L (onW l x) := fun _ =>
  ⟨g, 0, rfl, hg, h.lt, fun j hj => by rw [Nat.zero_add]; exact (h.cell j).trans (onA_get L l x _ hj)⟩
set_option maxHeartbeats 2000000 in
theorem RItem_c (n : Int) (l : List Bt) (x : Int) (A : Option Addr) (cap : Nat) (w : World) (hl : Lst w w.heap.size A l) (hlen : l.length ≤ 9223372036854775807) (hcap : l.length ≤ cap) :
    Calls Try.prog 24 #[.int .i64 n, .slice A l.length cap, .int .i64 x] w (ItemQ n l x w) := by
  have HV := Lib.hid (RefValid_c n l A cap w hl hlen hcap)
  have HL := Lib.hid hl
  clear hl
  by_cases hv : vld n l = true
  case neg =>
    have hv : vld n l = false := by simpa using hv
    rw [hv] at HV
    have HI : Hid (itB n l x = false) := Lib.hid (by simp [itB, hv])
    clear hv
    generalize hLL : l.length = L at *
    go_enter Try.func24, Try.ntmps24
    go_wp2_with (go_at_call 13; ((with_reducible refine (HV.out).mono ?_); rintro e w' ⟨rfl, hb⟩; obtain ⟨hz, hc, hf⟩ := bcl hb (by first | (simp; rfl) | rfl)))
    refine bodyPost_ret (v := .tuple #[.slice none 0 0, .int .i64 1]) (by simp only [results, Try.results24]; go_simp) rfl ⟨hb, Or.inl ⟨HI.out, rfl⟩⟩
  rw [hv] at HV
  have hL := vld_len hv
  by_cases hx : 0 ≤ x ∧ x < n
  · obtain ⟨hx0, hxn⟩ := hx
    have HI : Hid (itB n l x = true) := Lib.hid (by unfold itB; rw [hv, decide_eq_true ⟨hx0, hxn⟩]; rfl)
    have HR := Lib.hid (fun w h => rests_c hv x hx0 hxn A cap w h (by omega))
    have HX := Lib.hid (fun A cap w h => indices_c l.length (by omega) A cap (onW l x) w h)
    clear hv
    generalize hLL : l.length = L at *
    have HLL := Lib.hid hLL
    clear hLL
    go_enter Try.func24, Try.ntmps24
    go_wp2_with (go_at_call 13; ((with_reducible refine (HV.out).mono ?_); rintro e w' ⟨rfl, hb⟩; obtain ⟨hz, hc, hf⟩ := bcl hb (by first | (simp; rfl) | rfl)))
    have HB1 := Lib.hid hb
    (with_reducible refine (HR.out _ ?_).mono ?_)
    · exact HL.out.up HB1.out
    rintro e w2 ⟨hb2, rfl, hB⟩
    have HB2 := Lib.hid (bl_trans HB1.out hb2)
    have HBo := Lib.hid (bools_on hB (B0 := 0) (Nat.zero_le _))
    clear hB hb2
    go_wp2_with fail
    (with_reducible refine (HX.out _ _ _ ?_).mono ?_)
    · exact HBo.out
    rintro e w3 ⟨hb3, A3, cap3, rfl, hI3⟩
    have HI3 := Lib.hid hI3
    have HB3 := Lib.hid (bl_trans HB2.out hb3)
    clear hI3 hb3
    go_wp2
    refine bodyPost_ret (v := .tuple #[.slice A3 _ cap3, .int .i64 0]) (by simp only [results, Try.results24]; go_simp; rfl) rfl ⟨HB3.out, Or.inr ⟨HI.out, A3, cap3, by rw [HLL.out], by rw [HLL.out]; exact HI3.out.less HB2.out.size⟩⟩
  · have HI : Hid (itB n l x = false) := Lib.hid (by unfold itB; rw [decide_eq_false hx, Bool.and_false])
    have hx' : x < 0 ∨ (0 ≤ x ∧ n ≤ x) := by omega
    clear hx hv
    generalize hLL : l.length = L at *
    rcases hx' with hx | ⟨hx, hx2⟩
    all_goals
      go_enter Try.func24, Try.ntmps24
      go_wp2_with (go_at_call 13; ((with_reducible refine (HV.out).mono ?_); rintro e w' ⟨rfl, hb⟩; obtain ⟨hz, hc, hf⟩ := bcl hb (by first | (simp; rfl) | rfl)))
      refine bodyPost_ret (v := .tuple #[.slice none 0 0, .int .i64 1]) (by simp only [results, Try.results24]; go_simp) rfl ⟨hb, Or.inl ⟨HI.out, rfl⟩⟩
end Go.Proofs.Ytkgklmmkkhbimaa
namespace Go.Proofs.Ytkgklmmkkhbimaa
open Go.RowKit

/-- What the reference's Repair looks up is what the way has. -/
theorem any_hit {n : Int} {l : List Bt} (hv : vld n l = true) {x : Int} (hx0 : 0 ≤ x) (hxn : x < n) {ws : List Int} (hw : okW l.length ws = true) : (ws.any fun z => onW l x z.toNat) = hitB l x (badF ws) := by
  obtain ⟨_, hway⟩ := way_spec hv hx0 hxn
  rw [Bool.eq_iff_iff, List.any_eq_true]
  unfold hitB hitK
  rw [List.any_eq_true]
  constructor
  · rintro ⟨z, hz, hon⟩
    unfold onW at hon
    rw [List.any_eq_true] at hon
    obtain ⟨k, hk, he⟩ := hon
    have he' : stF l (itL l x k) = (z.toNat : Int) := by simpa using he
    have hz0 : 0 ≤ z ∧ z < l.length := by
      have := List.all_eq_true.1 hw z hz
      simpa using this
    refine ⟨k, hk, ?_⟩
    unfold badF
    rw [List.any_eq_true]
    refine ⟨z, hz, ?_⟩
    rw [he']
    simp
    omega
  · rintro ⟨k, hk, hb⟩
    unfold badF at hb
    rw [List.any_eq_true] at hb
    obtain ⟨z, hz, he⟩ := hb
    have he' : z = ((stF l (itL l x k)).toNat : Int) := by simpa using he
    have hkk : k < wayK l x := by simpa using hk
    have hs := all_set hv (hway k hkk).1 (hway k hkk).2
    refine ⟨z, hz, ?_⟩
    unfold onW
    rw [List.any_eq_true]
    refine ⟨k, hk, ?_⟩
    simp
    omega
set_option maxRecDepth 100000 in
set_option maxHeartbeats 4000000 in
theorem RRepair_c (n : Int) (l : List Bt) (ws : List Int) (A Aw : Option Addr) (cap capw : Nat) (w : World) (hl : Lst w w.heap.size A l) (hw : IntsR w w.heap.size Aw ws) (hlen : l.length ≤ 9223372036854775807) (hcap : l.length ≤ cap) (hlw : ws.length ≤ 9223372036854775807) :
    Calls Try.prog 21 #[.int .i64 n, .slice A l.length cap, .slice Aw ws.length capw] w (RepP n l ws w) := by
  have HV := Lib.hid (RefValid_c n l A cap w hl hlen hcap)
  have HL := Lib.hid hl
  have HW := Lib.hid hw
  clear hl hw
  by_cases hv : vld n l = true
  case neg =>
    have hv : vld n l = false := by simpa using hv
    rw [hv] at HV
    have HI : Hid ((vld n l && okW l.length ws) = false) := Lib.hid (by rw [hv]; rfl)
    clear hv
    generalize l.length = L at HV hlen hcap ⊢
    go_enter Try.func21, Try.ntmps21
    go_wp2_with (go_at_call 13; ((with_reducible refine (HV.out).mono ?_); rintro e w' ⟨rfl, hb⟩; obtain ⟨hz, hc, hf⟩ := bcl hb (by first | (simp; rfl) | rfl)))
    refine bodyPost_ret (v := .tuple #[.slice none 0 0, .int .i64 1]) (by simp only [results, Try.results21]; go_simp) rfl ⟨hb, Or.inl ⟨HI.out, rfl⟩⟩
  rw [hv] at HV
  have hL39 : l.length ≤ 39 := by have := vld_len hv; omega
  have HR := Lib.hid (fun x w h0 h1 h => rests_c hv x h0 h1 A cap w h (by omega))
  have HX := Lib.hid (fun A cap is w h => indices_c l.length (by omega) A cap is w h)
  have HVV := Lib.hid hv
  clear hv
  generalize hLL : l.length = L at *
  generalize hMM : ws.length = M at *
  have HLL := Lib.hid hLL
  have HMM := Lib.hid hMM
  clear hLL hMM
  go_enter Try.func21, Try.ntmps21
  go_wp2_with (go_at_call 13; ((with_reducible refine (HV.out).mono ?_); rintro e w' ⟨rfl, hb⟩; obtain ⟨hz, hc, hf⟩ := bcl hb (by first | (simp; rfl) | rfl)))
  have HB1 := Lib.hid hb
  go_loop [9] (fun i => ∃ k : Nat, k ≤ M ∧ i = .int .i64 k ∧ Hid (okW L (ws.take k) = true)) (fun i => M - (intOf i).toNat)
  case atStart => exact ⟨0, Nat.zero_le _, rfl, rfl⟩
  case round =>
    obtain ⟨k, hk, rfl, HO⟩ := hrel
    by_cases hlt : k < M
    · obtain ⟨z, hz⟩ : ∃ z, ws[k]? = some z := ⟨ws[k]'(by have := HMM.out; omega), by simp⟩
      obtain ⟨b1, o1, rfl, hb1, hc1⟩ := HW.out (by have := HMM.out; omega)
      have c1 := (HB1.out.cell (p := ⟨b1, o1 + k, none⟩) hb1).trans (hc1 k z hz)
      have z1 : b1 < w'.heap.size := by have := HB1.out.size; omega
      have HZ := Lib.hid hz
      clear hc1 hz hb1 hb
      rcases Int.lt_or_le z 0 with h0 | h0
      · have HF := Lib.hid (okW_false HZ.out (L := L) (Or.inl h0))
        go_wp2
        refine bodyPost_ret (v := .tuple #[.slice none 0 0, .int .i64 1]) (by simp only [results, Try.results21]; go_simp) rfl ⟨HB1.out, Or.inl ⟨by rw [HLL.out, HF.out, Bool.and_false], rfl⟩⟩
      · rcases Int.lt_or_le z L with h1 | h1
        · have hn : okW L (ws.take (k + 1)) = true := by
            have := HO.out
            unfold okW at this ⊢
            rw [List.take_add_one, HZ.out]
            simp only [Option.toList_some, List.all_append, this, List.all_cons, List.all_nil]
            simp
            omega
          have HN := Lib.hid hn
          clear hn
          go_wp2
          go_round
          case rel => exact ⟨k + 1, by omega, by go_num, HN⟩
          case measure => simp [intOf]; omega
        · have HF := Lib.hid (okW_false HZ.out (L := L) (Or.inr h1))
          go_wp2
          refine bodyPost_ret (v := .tuple #[.slice none 0 0, .int .i64 1]) (by simp only [results, Try.results21]; go_simp) rfl ⟨HB1.out, Or.inl ⟨by rw [HLL.out, HF.out, Bool.and_false], rfl⟩⟩
    · have hkM : k = M := by omega
      have hok : Hid (okW L ws = true) := Lib.hid (by have := HO.out; rw [hkM, ← HMM.out, List.take_length] at this; exact this)
      subst hkM
      have hmk := make_bools L (by omega)
      rw [← bA_zero L] at hmk
      clear hb HV
      go_wp2
      go_loopw [11] (fun v wr => ∃ i : Nat, i ≤ L ∧ v = .int .i64 i ∧ Below w'.heap.size w' wr ∧ w'.heap.size < wr.heap.size ∧ Hid (Blk wr w'.heap.size 4 (bA L fun j => decide (j < i) && repS l ws j))) (fun v _ => L - (intOf v).toNat)
      case atStart => exact ⟨0, Nat.zero_le _, rfl, bl_alloc (bl_refl _) _, by simp, Lib.hid (by rw [bA_congr (c := fun _ => false) (by intro j _; simp)]; exact Blk.new _ _ _)⟩
      case round =>
        clear hmk
        obtain ⟨i, hi, rfl, hbw, hzw, HB⟩ := hrel
        by_cases hlt2 : i < L
        · obtain ⟨y, hy⟩ : ∃ y, l[i]? = some y := ⟨l[i]'(by have := HLL.out; omega), by simp⟩
          obtain ⟨bl, off, rfl, hbl, hcl⟩ := HL.out (by have := HLL.out; omega)
          have hbW := bl_trans HB1.out hbw
          obtain ⟨_, x1, _⟩ := (hcl i y hy).same (fun j => hbW.cell (p := ⟨bl, j, none⟩) hbl)
          have ho := (ok_parts (vld_at HVV.out hy)).2.2.2
          have HAH := Lib.hid (any_hit HVV.out (x := y.to) (by omega) ho.2.1 (ws := ws) (by rw [HLL.out]; exact hok.out))
          have hrep : repS l ws i = hitB l y.to (badF ws) := by unfold repS; rw [getD_of hy]
          have HREP := Lib.hid hrep
          have HRC := Lib.hid (HR.out y.to wr (by omega) ho.2.1 (HL.out.up hbW))
          have zl : bl < wr.heap.size := by have := hbW.size; omega
          have HBW := Lib.hid hbw
          clear hcl hbl hy ho hrep hbW hbw
          generalize y.to = x at *
          go_wp2_with fail
          (with_reducible refine HRC.out.mono ?_)
          rintro e w2 ⟨hb2, rfl, hB2⟩
          have hz2 := hb2.size
          have HBo := Lib.hid (HB.out.below hb2 hzw)
          have HBn := Lib.hid hB2
          have hlt3 := hB2.lt
          have HBW2 := Lib.hid (bl_trans HBW.out hb2)
          clear hB2 hb2 HB HBW HRC
          go_wp2
          go_loopw [13] (fun v wt => ∃ k' : Nat, k' ≤ k ∧ v = .int .i64 k' ∧ Below w'.heap.size w' wt ∧ w2.heap.size ≤ wt.heap.size ∧ Hid (Blk wt w'.heap.size 4 (bA L fun j => if j = i then ((ws.take k').any fun z => onW l x z.toNat) else (decide (j < i) && repS l ws j))) ∧ Hid (Blk wt wr.heap.size 4 (onA L l x (wayK l x)))) (fun v _ => k - (intOf v).toNat)
          case atStart => exact ⟨0, Nat.zero_le _, rfl, HBW2.out, Nat.le_refl _, Lib.hid (by rw [bA_congr (c := fun j => decide (j < i) && repS l ws j) (by intro j _; by_cases e : j = i <;> simp [e])]; exact HBo.out), HBn⟩
          case round =>
            obtain ⟨k', hk', rfl, hbt, hzt, HB3, HN3⟩ := hrel
            by_cases hlt4 : k' < k
            · obtain ⟨z, hz⟩ : ∃ z, ws[k']? = some z := ⟨ws[k']'(by have := HMM.out; omega), by simp⟩
              obtain ⟨b1, o1, rfl, hb1, hc1⟩ := HW.out (by have := HMM.out; omega)
              have hbW := bl_trans HB1.out hbt
              have c1 := (hbW.cell (p := ⟨b1, o1 + k', none⟩) hb1).trans (hc1 k' z hz)
              have z1 : b1 < wr.heap.size := by have := hbW.size; omega
              have hz0 : 0 ≤ z ∧ z < L := by
                have := List.all_eq_true.1 hok.out z (List.mem_of_getElem? hz)
                simpa using this
              obtain ⟨m, rfl⟩ : ∃ m : Nat, z = m := ⟨z.toNat, by omega⟩
              have hmL : m < L := by omega
              have c2 := (HN3.out.cell m).trans (onA_get L l x _ hmL)
              rw [← onW_eq] at c2
              have z2 := HN3.out.lt
              have z3 := HB3.out.lt
              have c3 := (HB3.out.cell i).trans (bA_get L _ hlt2)
              have f3 := HB3.out.frozen i
              have hsn : ((ws.take (k' + 1)).any fun z => onW l x z.toNat) = (((ws.take k').any fun z => onW l x z.toNat) || onW l x m) := by
                rw [List.take_add_one, hz]
                simp
              have HSN := Lib.hid hsn
              have HBT := Lib.hid hbt
              have hset := HB3.out.set_ i (.bool true)
              rw [bA_set] at hset
              have HSET := Lib.hid hset
              have HFAR := Lib.hid (HN3.out.far (p := ⟨w'.heap.size, i, none⟩) (by show _ ≠ w'.heap.size; omega) (.bool true))
              clear hsn hbt hset hz hc1 hb1 hbW
              cases hon : onW l x m
              · rw [hon] at c2
                have HSN' := Lib.hid (HSN.out.trans (by rw [hon, Bool.or_false]))
                clear hon c3
                go_wp2
                go_roundw
                case rel => exact ⟨k' + 1, by omega, by go_num, HBT.out, hzt, Lib.hid (by rw [bA_congr (c := fun j => if j = i then ((ws.take k').any fun z => onW l x z.toNat) else (decide (j < i) && repS l ws j)) (by intro j _; by_cases e : j = i <;> simp only [e, if_true, if_false, HSN'.out])]; exact HB3.out), HN3⟩
                case measure => simp [intOf]; omega
              · rw [hon] at c2
                have HSN' := Lib.hid (HSN.out.trans (by rw [hon, Bool.or_true]))
                clear hon
                go_wp2
                go_roundw
                case rel => exact ⟨k' + 1, by omega, by go_num, HBT.out.setCell (p := ⟨w'.heap.size, i, none⟩) (Nat.le_refl _) _, by simpa [World.setCell] using hzt, Lib.hid (by rw [bA_congr (c := fun j => if j = i then true else if j = i then ((ws.take k').any fun z => onW l x z.toNat) else (decide (j < i) && repS l ws j)) (by intro j _; by_cases e : j = i <;> simp only [e, if_true, if_false, HSN'.out])]; exact HSET.out), HFAR⟩
                case measure => simp [intOf]; omega
            · have hkk : k' = k := by omega
              have HE : Hid (((ws.take k').any fun z => onW l x z.toNat) = repS l ws i) := Lib.hid (by rw [hkk, ← HMM.out, List.take_length, HAH.out, HREP.out])
              subst hkk
              go_wp2
              go_roundw
              case rel => exact ⟨i + 1, by omega, by go_num, hbt, by omega, Lib.hid (by
                rw [bA_congr (c := fun j => if j = i then ((ws.take k').any fun z => onW l x z.toNat) else (decide (j < i) && repS l ws j)) (by
                  intro j _
                  by_cases e : j = i
                  · subst e
                    simp only [if_true, HE.out]
                    simp
                  · have : (j < i + 1) ↔ (j < i) := by omega
                    simp only [e, if_false, this])]
                exact HB3.out)⟩
              case measure => simp [intOf]; omega
        · have hiL : i = L := by omega
          subst hiL
          have HBo : Hid (BoolsN wr 0 wr.heap.size (some ⟨w'.heap.size, 0, none⟩) i (repS l ws)) := Lib.hid (fun _ => ⟨_, 0, rfl, Nat.zero_le _, HB.out.lt, fun j hj => by
            rw [Nat.zero_add]
            exact ((HB.out.cell j).trans (bA_get i _ hj)).trans (by simp [hj])⟩)
          have HBW := Lib.hid (bl_trans HB1.out hbw)
          clear hbw
          go_wp2_with fail
          (with_reducible refine (HX.out _ _ (repS l ws) _ ?_).mono ?_)
          · exact HBo.out
          rintro e w3 ⟨hb3, A3, cap3, rfl, hI3⟩
          have HI3 := Lib.hid hI3
          have HB3 := Lib.hid (bl_trans HBW.out hb3)
          clear hI3 hb3
          go_wp2
          refine bodyPost_ret (v := .tuple #[.slice A3 _ cap3, .int .i64 0]) (by simp only [results, Try.results21]; go_simp; rfl) rfl ⟨HB3.out, Or.inr ⟨by rw [HVV.out, HLL.out, hok.out]; rfl, A3, cap3, by rw [HLL.out], by rw [HLL.out]; exact HI3.out.plain⟩⟩
end Go.Proofs.Ytkgklmmkkhbimaa
namespace Go.Proofs.Ytkgklmmkkhbimaa
open Go.RowKit

theorem okC_no {n : Int} {cs : List (Int × Int)} {k : Nat} {c : Int × Int} (hc : cs[k]? = some c) (h : c.1 < 0 ∨ n ≤ c.1 ∨ c.2 < 0 ∨ n ≤ c.2) : okC n cs = false := by
  cases ho : okC n cs with
  | false => rfl
  | true =>
    have := okC_at ho hc
    omega
theorem cl_step {n : Int} {l : List Bt} {cs : List (Int × Int)} {fs : List Bool} {k : Nat} {c : Int × Int} {b : Bool} (hv : vld n l = true) (hok : okC n cs = true) (hc : cs[k]? = some c) (hb : fs[k]? = some b) (j : Nat) : clF l cs fs (k + 1) j = (clF l cs fs k j || (wOn l c j != b)) := by
  have ho := okC_at hok hc
  show (clF l cs fs k j || (onI l (cs.getD k (0, 0)) 2 j != fs.getD k false)) = _
  have e1 : cs.getD k (0, 0) = c := by rw [List.getD_eq_getElem?_getD, hc]; rfl
  have e2 : fs.getD k false = b := by rw [List.getD_eq_getElem?_getD, hb]; rfl
  rw [e1, e2, onI_on hv ⟨ho.1, ho.2.1⟩ ⟨ho.2.2.1, ho.2.2.2⟩]
set_option maxRecDepth 100000 in
set_option maxHeartbeats 4000000 in
theorem RSusp_c (n : Int) (l : List Bt) (cs : List (Int × Int)) (fs : List Bool) (A Ac Af : Option Addr) (cap capc capf : Nat) (w : World) (hl : Lst w w.heap.size A l) (hcs : ChkR w w.heap.size Ac cs) (hfs : BoolsR w w.heap.size Af fs)
    (hlen : l.length ≤ 9223372036854775807) (hcap : l.length ≤ cap) (hlc : cs.length ≤ 9223372036854775807) (hlf : fs.length ≤ 9223372036854775807) :
    Calls Try.prog 26 #[.int .i64 n, .slice A l.length cap, .slice Ac cs.length capc, .slice Af fs.length capf] w (SusP n l cs fs w) := by
  have HV := Lib.hid (RefValid_c n l A cap w hl hlen hcap)
  have HL := Lib.hid hl
  have HC := Lib.hid hcs
  have HF := Lib.hid hfs
  clear hl hcs hfs
  by_cases hv : vld n l = true
  case neg =>
    have hv : vld n l = false := by simpa using hv
    rw [hv] at HV
    have HI : Hid (susG n l cs fs = false) := Lib.hid (by simp [susG, hv])
    clear hv
    generalize l.length = L at HV hlen hcap ⊢
    generalize cs.length = M at hlc ⊢
    generalize fs.length = K at hlf ⊢
    go_enter Try.func26, Try.ntmps26
    go_wp2_with (go_at_call 13; ((with_reducible refine (HV.out).mono ?_); rintro e w' ⟨rfl, hb⟩; obtain ⟨hz, hc, hf⟩ := bcl hb (by first | (simp; rfl) | rfl)))
    refine bodyPost_ret (v := .tuple #[.slice none 0 0, .int .i64 1]) (by simp only [results, Try.results26]; go_simp) rfl ⟨hb, Or.inl ⟨HI.out, rfl⟩⟩
  rw [hv] at HV
  have hL := vld_len hv
  have hL39 : l.length ≤ 39 := by omega
  have HR := Lib.hid (fun x w h0 h1 h => rests_c hv x h0 h1 A cap w h (by omega))
  have HX := Lib.hid (fun A cap is w h => indices_c l.length (by omega) A cap is w h)
  have HVV := Lib.hid hv
  clear hv hL
  generalize hLL : l.length = L at *
  generalize hMM : cs.length = M at *
  generalize hKK : fs.length = K at *
  have HLL := Lib.hid hLL
  have HMM := Lib.hid hMM
  have HKK := Lib.hid hKK
  clear hLL hMM hKK
  by_cases hcf : ¬ M = K ∨ (M = K ∧ 200 < M)
  · have hp : susG n l cs fs = false := by
      have h1 := HMM.out
      have h2 := HKK.out
      unfold susG
      rw [decide_eq_false (by omega)]
      simp
    have HP := Lib.hid hp
    clear hp
    rcases hcf with h1 | ⟨h1, h2⟩
    · have h1' : ((M : Int) != (K : Int)) = true := by simp; omega
      clear h1
      go_enter Try.func26, Try.ntmps26
      go_wp2_with (go_at_call 13; ((with_reducible refine (HV.out).mono ?_); rintro e w' ⟨rfl, hb⟩; obtain ⟨hz, hc, hf⟩ := bcl hb (by first | (simp; rfl) | rfl)))
      refine bodyPost_ret (v := .tuple #[.slice none 0 0, .int .i64 1]) (by simp only [results, Try.results26]; go_simp) rfl ⟨hb, Or.inl ⟨HP.out, rfl⟩⟩
    · subst h1
      go_enter Try.func26, Try.ntmps26
      go_wp2_with (go_at_call 13; ((with_reducible refine (HV.out).mono ?_); rintro e w' ⟨rfl, hb⟩; obtain ⟨hz, hc, hf⟩ := bcl hb (by first | (simp; rfl) | rfl)))
      refine bodyPost_ret (v := .tuple #[.slice none 0 0, .int .i64 1]) (by simp only [results, Try.results26]; go_simp) rfl ⟨hb, Or.inl ⟨HP.out, rfl⟩⟩
  have hMK : K = M := by omega
  have hM2 : M ≤ 200 := by omega
  clear hcf
  subst hMK
  go_enter Try.func26, Try.ntmps26
  go_wp2_with (go_at_call 13; ((with_reducible refine HV.out.mono ?_); rintro e w1 ⟨rfl, hb⟩; obtain ⟨hz, hc, hf⟩ := bcl hb (by first | (simp; rfl) | rfl)))
  have HB1 := Lib.hid hb
  go_loop [11] (fun i => ∃ k : Nat, k ≤ K ∧ i = .int .i64 k ∧ Hid (okC n (cs.take k) = true)) (fun i => K - (intOf i).toNat)
  case atStart => exact ⟨0, Nat.zero_le _, rfl, rfl⟩
  case round =>
    obtain ⟨k, hk, rfl, HO⟩ := hrel
    by_cases hlt : k < K
    · obtain ⟨c, hc0⟩ : ∃ c, cs[k]? = some c := ⟨cs[k]'(by have := HMM.out; omega), by simp⟩
      obtain ⟨b1, o1, rfl, hb1, hc1⟩ := HC.out (by have := HMM.out; omega)
      obtain ⟨u1, u2⟩ := hc1 k c hc0
      have c1 := (HB1.out.cell (p := ⟨b1, o1 + k * 2, none⟩) hb1).trans u1
      have c2 := (HB1.out.cell (p := ⟨b1, o1 + k * 2 + 1, none⟩) hb1).trans u2
      have z1 : b1 < w1.heap.size := by have := HB1.out.size; omega
      have HZ := Lib.hid hc0
      clear hc1 u1 u2 hc0 hb1 hb
      have hways : (c.1 < 0 ∨ (0 ≤ c.1 ∧ n ≤ c.1) ∨ (0 ≤ c.1 ∧ c.1 < n ∧ c.2 < 0) ∨ (0 ≤ c.1 ∧ c.1 < n ∧ 0 ≤ c.2 ∧ n ≤ c.2)) ∨ (0 ≤ c.1 ∧ c.1 < n ∧ 0 ≤ c.2 ∧ c.2 < n) := by omega
      rcases hways with hbad | ⟨h1, h2, h3, h4⟩
      · have HP : Hid (susG n l cs fs = false) := Lib.hid (by
          have := okC_no (n := n) HZ.out (by omega)
          simp [susG, this])
        obtain ⟨x, y⟩ := c
        simp only at c1 c2 hbad
        clear HZ
        rcases hbad with h1 | ⟨h1, h2⟩ | ⟨h1, h2, h3⟩ | ⟨h1, h2, h3, h4⟩
        all_goals
          go_wp2
          refine bodyPost_ret (v := .tuple #[.slice none 0 0, .int .i64 1]) (by simp only [results, Try.results26]; go_simp) rfl ⟨HB1.out, Or.inl ⟨HP.out, rfl⟩⟩
      · have HN : Hid (okC n (cs.take (k + 1)) = true) := Lib.hid (by
          have := HO.out
          unfold okC at this ⊢
          rw [List.take_add_one, HZ.out]
          simp only [Option.toList_some, List.all_append, this, List.all_cons, List.all_nil]
          simp
          omega)
        obtain ⟨x, y⟩ := c
        simp only at c1 c2 h1 h2 h3 h4
        go_wp2
        go_round
        case rel => exact ⟨k + 1, by omega, by go_num, HN⟩
        case measure => simp [intOf]; omega
    · have hkM : k = K := by omega
      have hok : Hid (okC n cs = true) := Lib.hid (by have := HO.out; rw [hkM, ← HMM.out, List.take_length] at this; exact this)
      subst hkM
      have hmk := make_bools L (by omega)
      rw [← bA_zero L] at hmk
      clear hb HV HO
      go_wp2
      go_loopw [13] (fun v wr => ∃ i : Nat, i ≤ L ∧ v = .int .i64 i ∧ Below w1.heap.size w1 wr ∧ w1.heap.size < wr.heap.size ∧ Hid (Blk wr w1.heap.size 4 (bA L fun j => decide (j < i)))) (fun v _ => L - (intOf v).toNat)
      case atStart => exact ⟨0, Nat.zero_le _, rfl, bl_alloc (bl_refl _) _, by simp, Lib.hid (by rw [bA_congr (c := fun _ => false) (by intro j _; simp)]; exact Blk.new _ _ _)⟩
      case round =>
        clear hmk
        obtain ⟨i, hi, rfl, hbw, hzw, HB⟩ := hrel
        by_cases hlt2 : i < L
        · have f3 := HB.out.frozen i
          have c3 := (HB.out.cell i).trans (bA_get L _ hlt2)
          have hset := HB.out.set_ i (.bool true)
          rw [bA_set, bA_congr (c := fun j => decide (j < i + 1)) (by
            intro j _
            by_cases e : j = i
            · subst e; simp
            · have : (j < i + 1) ↔ (j < i) := by omega
              simp only [e, if_false, this])] at hset
          have HSET := Lib.hid hset
          have HBW := Lib.hid hbw
          clear hset hbw
          go_wp2
          go_roundw
          case rel => exact ⟨i + 1, by omega, by go_num, HBW.out.setCell (p := ⟨w1.heap.size, i, none⟩) (Nat.le_refl _) _, by simpa [World.setCell] using hzw, HSET⟩
          case measure => simp [intOf]; omega
        · have hiL : i = L := by omega
          subst hiL
          have HB2 : Hid (Blk wr w1.heap.size 4 (bA i fun j => !clF l cs fs 0 j)) := Lib.hid (by
            rw [bA_congr (c := fun j => decide (j < i)) (by intro j hj; simp [clF, hj])]
            exact HB.out)
          have HBW := Lib.hid hbw
          obtain ⟨ws, rfl⟩ : ∃ x : World, x = wr := ⟨_, rfl⟩
          clear HB
          go_wp2
          go_loopw [14] (fun v wr => ∃ k' : Nat, k' ≤ k ∧ v = .int .i64 k' ∧ Below w1.heap.size w1 wr ∧ w1.heap.size < wr.heap.size ∧ Hid (Blk wr w1.heap.size 4 (bA i fun j => !clF l cs fs k' j))) (fun v _ => k - (intOf v).toNat)
          case atStart => exact ⟨0, Nat.zero_le _, rfl, HBW.out, hzw, HB2⟩
          case round =>
            clear hbw HBW HB2 hzw
            obtain ⟨k', hk', rfl, hbw, hzw, HB⟩ := hrel
            by_cases hlt3 : k' < k
            · obtain ⟨c, hc0⟩ : ∃ c, cs[k']? = some c := ⟨cs[k']'(by have := HMM.out; omega), by simp⟩
              obtain ⟨bq, hq0⟩ : ∃ bq, fs[k']? = some bq := ⟨fs[k']'(by have := HKK.out; omega), by simp⟩
              obtain ⟨b1, o1, rfl, hb1, hc1⟩ := HC.out (by have := HMM.out; omega)
              obtain ⟨b2, o2, rfl, hb2, hc2⟩ := HF.out (by have := HKK.out; omega)
              obtain ⟨u1, u2⟩ := hc1 k' c hc0
              have hbW := bl_trans HB1.out hbw
              have c1 := (hbW.cell (p := ⟨b1, o1 + k' * 2, none⟩) hb1).trans u1
              have c2 := (hbW.cell (p := ⟨b1, o1 + k' * 2 + 1, none⟩) hb1).trans u2
              have c3 := (hbW.cell (p := ⟨b2, o2 + k', none⟩) hb2).trans (hc2 k' bq hq0)
              have hzs := hbW.size
              have z1 : b1 < wr.heap.size := by omega
              have z2 : b2 < wr.heap.size := by omega
              have HCS : Hid (∀ j, clF l cs fs (k' + 1) j = (clF l cs fs k' j || (wOn l c j != bq))) := Lib.hid (fun j => cl_step HVV.out hok.out hc0 hq0 j)
              have ho := okC_at hok.out hc0
              obtain ⟨p1, p2, p3, p4⟩ := ho
              have HR1 := Lib.hid (HR.out c.1 wr p1 p2 (HL.out.up hbW))
              have HR2 := Lib.hid (fun W (hb : Below wr.heap.size wr W) => HR.out c.2 W p3 p4 (HL.out.up (bl_trans hbW hb)))
              have HBW := Lib.hid hbw
              have k3 := (HB1.out.cell (p := ⟨b2, o2 + k', none⟩) hb2).trans (hc2 k' bq hq0)
              have zb : b2 < w1.heap.size := by have := HB1.out.size; omega
              have K3 := Lib.hid k3
              clear hc1 hc2 u1 u2 hc0 hq0 hb1 hb2 hbW hbw p1 p2 p3 p4 k3
              obtain ⟨x, y⟩ := c
              simp only at c1 c2 HR1 HR2
              go_wp2_with fail
              (with_reducible refine HR1.out.mono ?_)
              rintro e w2 ⟨hx2, rfl, hB2⟩
              have hz2 := hx2.size
              have HBo := Lib.hid (HB.out.below hx2 hzw)
              have HBn := Lib.hid hB2
              have hlt4 := hB2.lt
              have d2 := (hx2.cell (p := ⟨b1, o1 + k' * 2 + 1, none⟩) z1).trans c2
              have d3 := (hx2.cell (p := ⟨b2, o2 + k', none⟩) z2).trans c3
              have y1 : b1 < w2.heap.size := by omega
              have y2 : b2 < w2.heap.size := by omega
              have HBR := Lib.hid (HR2.out w2 hx2)
              have HB2 := Lib.hid hx2
              have HBW2 := Lib.hid (bl_trans HBW.out hx2)
              clear hB2 hx2 HB HBW HR1 HR2 c1 c2 c3
              go_wp2_with fail
              (with_reducible refine HBR.out.mono ?_)
              rintro e w3 ⟨hb3, rfl, hB3⟩
              have hz3 := hb3.size
              have HBo3 := Lib.hid (HBo.out.below hb3 (by omega))
              have HBn3 := Lib.hid (HBn.out.below hb3 hlt4)
              have HBm3 := Lib.hid hB3
              have hlt5 := hB3.lt
              have e3 := (hb3.cell (p := ⟨b2, o2 + k', none⟩) y2).trans d3
              have HBW3 := Lib.hid (bl_trans HBW2.out hb3)
              have HB3 := Lib.hid hb3
              clear hB3 hb3 HBo HBn HBR HBW2 HB2 d2 d3
              obtain ⟨wo, rfl⟩ : ∃ x : World, x = wr := ⟨_, rfl⟩
              go_wp2
              go_loopw [17] (fun v wt => ∃ m : Nat, m ≤ i ∧ v = .int .i64 m ∧ Below w1.heap.size w1 wt ∧ w3.heap.size ≤ wt.heap.size ∧ Hid (Blk wt w1.heap.size 4 (bA i fun j => if j < m then !clF l cs fs (k' + 1) j else !clF l cs fs k' j)) ∧ Hid (Blk wt wo.heap.size 4 (onA i l x (wayK l x))) ∧ Hid (Blk wt w2.heap.size 4 (onA i l y (wayK l y)))) (fun v _ => i - (intOf v).toNat)
              case atStart => exact ⟨0, Nat.zero_le _, rfl, HBW3.out, Nat.le_refl _, Lib.hid (by rw [bA_congr (c := fun j => !clF l cs fs k' j) (by intro j _; simp)]; exact HBo3.out), HBn3, HBm3⟩
              case round =>
                clear HBW3 HBo3 HBn3 HBm3 HB3 e3
                obtain ⟨m, hm, rfl, hbt, hzt, HB4, HN4, HM4⟩ := hrel
                by_cases hlt6 : m < i
                · have n1 := (HN4.out.cell m).trans (onA_get i l x _ hlt6)
                  have n2 := (HM4.out.cell m).trans (onA_get i l y _ hlt6)
                  have q1 := HN4.out.lt
                  have q2 := HM4.out.lt
                  have q3 := HB4.out.lt
                  have k4 := (hbt.cell (p := ⟨b2, o2 + k', none⟩) zb).trans K3.out
                  have zb' : b2 < wr.heap.size := by have := hbt.size; omega
                  have c4 := (HB4.out.cell m).trans (bA_get i _ hlt6)
                  have f4 := HB4.out.frozen m
                  rw [← onW_eq] at n1 n2
                  have hw : clF l cs fs (k' + 1) m = (clF l cs fs k' m || ((onW l x m != onW l y m) != bq)) := HCS.out m
                  have HBT := Lib.hid hbt
                  clear hbt
                  cases hd : ((onW l x m != onW l y m) != bq)
                  · rw [hd, Bool.or_false] at hw
                    have HW := Lib.hid hw
                    clear hw
                    generalize onW l x m = s1 at *
                    generalize onW l y m = s2 at *
                    cases s1 <;> cases s2 <;> cases bq <;> first | (exact absurd hd (by decide)) | clear hd
                    all_goals
                      go_wp2
                      (refine wp_region_bl [0,1,2,3,4,5,6,7,8] [9] (by kernel_rfl) (by kernel_rfl) (by rfl) ?_
                       simp only [pickI, pick, List.getElem?_cons_succ, List.getElem?_cons_zero]
                       iterate 9 (first
                         | (refine head_val (by rfl) (by rfl) ?_
                            apply Exists.intro
                            refine ⟨fun X hX => ?_, ?_⟩
                            · (obtain ⟨qz, qc, qf⟩ := bcl hX.out (by first | (simp; rfl) | rfl)
                               go_simp
                               first | done | rfl | exact ⟨rfl, rfl⟩)
                            simp only [Act.put, List.setIfInBounds_toArray, List.set_cons_zero, List.set_cons_succ])
                         | (refine head_pass (by rfl) ?_
                            simp only [Act.put, List.setIfInBounds_toArray, List.set_cons_zero, List.set_cons_succ]))
                       refine head_nil ?_
                       intro w' hw'
                       have hb := hw'.out
                       clear hw'
                       obtain ⟨hz, hc, hf⟩ := bcl hb (by first | (simp; rfl) | rfl))
                      go_wp2
                      go_roundw
                      case rel => exact ⟨m + 1, by omega, by go_num, bl_trans HBT.out hb, by have := hb.size; omega, Lib.hid (by
                        rw [bA_congr (c := fun j => if j < m then !clF l cs fs (k' + 1) j else !clF l cs fs k' j) (by
                          intro j _
                          by_cases e : j = m
                          · subst e; simp [HW.out]
                          · have : (j < m + 1) ↔ (j < m) := by omega
                            simp only [this])]
                        exact HB4.out.below hb q3), Lib.hid (HN4.out.below hb q1), Lib.hid (HM4.out.below hb q2)⟩
                      case measure => simp [intOf]; omega
                  · rw [hd, Bool.or_true] at hw
                    have HW := Lib.hid hw
                    clear hw
                    generalize onW l x m = s1 at *
                    generalize onW l y m = s2 at *
                    cases s1 <;> cases s2 <;> cases bq <;> first | (exact absurd hd (by decide)) | clear hd
                    all_goals
                      go_wp2
                      (refine wp_region_bl [0,1,2,3,4,5,6,7,8] [9] (by kernel_rfl) (by kernel_rfl) (by rfl) ?_
                       simp only [pickI, pick, List.getElem?_cons_succ, List.getElem?_cons_zero]
                       iterate 9 (first
                         | (refine head_val (by rfl) (by rfl) ?_
                            apply Exists.intro
                            refine ⟨fun X hX => ?_, ?_⟩
                            · (obtain ⟨qz, qc, qf⟩ := bcl hX.out (by first | (simp; rfl) | rfl)
                               go_simp
                               first | done | rfl | exact ⟨rfl, rfl⟩)
                            simp only [Act.put, List.setIfInBounds_toArray, List.set_cons_zero, List.set_cons_succ])
                         | (refine head_pass (by rfl) ?_
                            simp only [Act.put, List.setIfInBounds_toArray, List.set_cons_zero, List.set_cons_succ]))
                       refine head_nil ?_
                       intro w' hw'
                       have hb := hw'.out
                       clear hw'
                       obtain ⟨hz, hc, hf⟩ := bcl hb (by first | (simp; rfl) | rfl))
                      go_wp2
                      go_roundw
                      case rel => exact ⟨m + 1, by omega, by go_num, (bl_trans HBT.out hb).setCell (p := ⟨w1.heap.size, m, none⟩) (Nat.le_refl _) _, by have := hb.size; simp [World.setCell]; omega, Lib.hid (by
                        have h5 := (HB4.out.below hb q3).set_ m (.bool false)
                        rw [bA_set, bA_congr (c := fun j => if j < m + 1 then !clF l cs fs (k' + 1) j else !clF l cs fs k' j) (by
                          intro j _
                          by_cases e : j = m
                          · subst e; simp [HW.out]
                          · have : (j < m + 1) ↔ (j < m) := by omega
                            simp only [this, e, if_false])] at h5
                        exact h5), Lib.hid ((HN4.out.below hb q1).far (p := ⟨w1.heap.size, m, none⟩) (by show _ ≠ w1.heap.size; omega) _), Lib.hid ((HM4.out.below hb q2).far (p := ⟨w1.heap.size, m, none⟩) (by show _ ≠ w1.heap.size; omega) _)⟩
                      case measure => simp [intOf]; omega
                · have hmi : m = i := by omega
                  subst hmi
                  have HE := Lib.hid (HB4.out)
                  clear HB4
                  go_wp2
                  go_roundw
                  case rel => exact ⟨k' + 1, by omega, by go_num, hbt, by omega, Lib.hid (by
                    rw [bA_congr (c := fun j => if j < m then !clF l cs fs (k' + 1) j else !clF l cs fs k' j) (by intro j hj; simp [hj])]
                    exact HE.out)⟩
                  case measure => simp [intOf]; omega
            · have hkk : k' = k := by omega
              subst hkk
              have HBo : Hid (BoolsN wr 0 wr.heap.size (some ⟨w1.heap.size, 0, none⟩) i (susS l cs fs)) := Lib.hid (fun _ => ⟨_, 0, rfl, Nat.zero_le _, HB.out.lt, fun j hj => by
                rw [Nat.zero_add]
                exact ((HB.out.cell j).trans (bA_get i _ hj)).trans (by unfold susS; rw [HMM.out])⟩)
              have HBW := Lib.hid (bl_trans HB1.out hbw)
              have HP : Hid (susG n l cs fs = true) := Lib.hid (by
                unfold susG
                rw [HVV.out, hok.out, decide_eq_true (by rw [HMM.out, HKK.out]; exact ⟨rfl, hM2⟩)]
                rfl)
              clear hbw
              go_wp2_with fail
              (with_reducible refine (HX.out _ _ (susS l cs fs) _ ?_).mono ?_)
              · exact HBo.out
              rintro e w3 ⟨hb3, A3, cap3, rfl, hI3⟩
              have HI3 := Lib.hid hI3
              have HB3 := Lib.hid (bl_trans HBW.out hb3)
              clear hI3 hb3
              go_wp2
              refine bodyPost_ret (v := .tuple #[.slice A3 _ cap3, .int .i64 0]) (by simp only [results, Try.results26]; go_simp; rfl) rfl ⟨HB3.out, Or.inr ⟨HP.out, A3, cap3, by rw [HLL.out], by rw [HLL.out]; exact HI3.out.plain⟩⟩
end Go.Proofs.Ytkgklmmkkhbimaa
