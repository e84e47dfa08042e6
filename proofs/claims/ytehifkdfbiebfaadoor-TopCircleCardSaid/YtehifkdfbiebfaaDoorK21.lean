/- Readings: what settle computes, and what follows from it. Plain. Readings of which each leads to a new item: the narrowest bounds, and what a further reading does to them. Plain. -/
import Derived.Test.YtehifkdfbiebfaaDoorK00
namespace Go.Proofs.YtehifkdfbiebfaaDoor
open Go Go.RowKit

/-- A reading: from, to, the least and the greatest size. -/
structure Rd where
  fr : Nat
  to : Nat
  lo : Int
  hi : Int
/-- A step: its number, from, to, how far at most. -/
structure Ed where
  st : Int
  fr : Nat
  to : Nat
  mo : Int
def rdAt (l : List Rd) (i : Nat) : Rd := l[i]?.getD ⟨0, 0, 0, 0⟩
def edAt (l : List Rd) (j : Nat) : Ed :=
  if j % 2 = 0 then ⟨((j / 2 : Nat) : Int) + 1, (rdAt l (j / 2)).fr, (rdAt l (j / 2)).to, (rdAt l (j / 2)).hi⟩
  else ⟨-((j / 2 : Nat) : Int) - 1, (rdAt l (j / 2)).to, (rdAt l (j / 2)).fr, -(rdAt l (j / 2)).lo⟩
/-- The index of the step with a number. -/
def edIx (s : Int) : Nat := if s < 0 then 2 * (-s - 1).toNat + 1 else 2 * (s - 1).toNat
theorem edIx_even (i : Nat) : edIx ((i : Int) + 1) = 2 * i := by unfold edIx; split <;> omega
theorem edIx_odd (i : Nat) : edIx (-(i : Int) - 1) = 2 * i + 1 := by unfold edIx; split <;> omega
theorem edIx_st (l : List Rd) (j : Nat) : edIx (edAt l j).st = j := by
  unfold edAt
  split
  · show edIx (((j / 2 : Nat) : Int) + 1) = j
    rw [edIx_even]; omega
  · show edIx (-((j / 2 : Nat) : Int) - 1) = j
    rw [edIx_odd]; omega
theorem st_ne (l : List Rd) (j : Nat) : (edAt l j).st ≠ 0 := by
  unfold edAt
  split
  · show ((j / 2 : Nat) : Int) + 1 ≠ 0; omega
  · show -((j / 2 : Nat) : Int) - 1 ≠ 0; omega
def updF {α : Type} (f : Nat → α) (i : Nat) (x : α) : Nat → α := fun k => if k = i then x else f k
theorem updF_same {α : Type} (f : Nat → α) (i : Nat) (x : α) : updF f i x i = x := by simp [updF]
theorem updF_ne {α : Type} (f : Nat → α) {i k : Nat} (x : α) (h : k ≠ i) : updF f i x k = f k := by simp [updF, h]

/-- The table; besides, in which round, and as the how manieth, an item was last lowered. -/
structure TS where
  kn : Nat → Bool
  fa : Nat → Int
  by' : Nat → Int
  la : Int
  rho : Nat → Nat
  tau : Nat → Nat
  tm : Nat
def TS.go (s : TS) (e : Ed) : Bool := s.kn e.fr && (!s.kn e.to || decide (s.fa e.fr + e.mo < s.fa e.to))
def TS.put (s : TS) (R : Nat) (e : Ed) : TS :=
  { kn := updF s.kn e.to true, fa := updF s.fa e.to (s.fa e.fr + e.mo), by' := updF s.by' e.to e.st, la := e.to, rho := updF s.rho e.to R, tau := updF s.tau e.to (s.tm + 1), tm := s.tm + 1 }
def TS.relax (s : TS) (R : Nat) (e : Ed) : TS := if s.go e then s.put R e else s
def rndK (l : List Rd) (R : Nat) (s : TS) : Nat → TS
  | 0 => { s with la := -1 }
  | j + 1 => (rndK l R s j).relax R (edAt l j)
def sR (l : List Rd) (s : TS) : Nat → TS
  | 0 => s
  | r + 1 => rndK l (r + 1) (sR l s r) (2 * l.length)

/-- The readings are valid for n items. -/
def RdOk (n : Nat) (l : List Rd) : Prop :=
  (1 ≤ n ∧ n ≤ 40) ∧ l.length ≤ 200 ∧ ∀ i, i < l.length → (rdAt l i).fr < n ∧ (rdAt l i).to < n ∧ (rdAt l i).fr ≠ (rdAt l i).to ∧ -100000000000000 ≤ (rdAt l i).lo ∧ (rdAt l i).lo ≤ (rdAt l i).hi ∧ (rdAt l i).hi ≤ 100000000000000
theorem ed_ok {n : Nat} {l : List Rd} (h : RdOk n l) {j : Nat} (hj : j < 2 * l.length) :
    (edAt l j).fr < n ∧ (edAt l j).to < n ∧ (edAt l j).fr ≠ (edAt l j).to ∧ -100000000000000 ≤ (edAt l j).mo ∧ (edAt l j).mo ≤ 100000000000000 := by
  obtain ⟨h1, h2, h3, h4, h5, h6⟩ := h.2.2 (j / 2) (by omega)
  unfold edAt
  split
  · exact ⟨h1, h2, h3, by show _ ≤ (rdAt l (j / 2)).hi; omega, h6⟩
  · exact ⟨h2, h1, fun e => h3 e.symm, by show _ ≤ -(rdAt l (j / 2)).lo; omega, by show -(rdAt l (j / 2)).lo ≤ _; omega⟩

def Fe (s : TS) (e : Ed) : Prop := s.kn e.fr = true → s.kn e.to = true ∧ s.fa e.to ≤ s.fa e.fr + e.mo
/-- What an item that was lowered knows of the one before it. -/
def Pre (l : List Rd) (s : TS) (v : Nat) : Prop :=
  ∃ j, j < 2 * l.length ∧ (edAt l j).st = s.by' v ∧ (edAt l j).to = v ∧ s.kn v = true ∧ s.kn (edAt l j).fr = true ∧ s.fa (edAt l j).fr + (edAt l j).mo ≤ s.fa v ∧
    (s.tau v ≤ s.tau (edAt l j).fr → s.fa (edAt l j).fr + (edAt l j).mo < s.fa v) ∧ s.rho v ≤ s.rho (edAt l j).fr + 1
structure TInv (n : Nat) (l : List Rd) (R p : Nat) (s : TS) : Prop where
  pre : ∀ v, s.by' v ≠ 0 → Pre l s v
  by_ : ∀ v, 1 ≤ s.rho v → s.by' v ≠ 0
  edge : ∀ j, j < 2 * l.length → Fe s (edAt l j) ∨ (if j < p then R else R - 1) ≤ s.rho (edAt l j).fr
  still : ∀ j, j < p → Fe s (edAt l j) ∨ 0 ≤ s.la
  last : s.la = -1 ∨ ∃ v, v < n ∧ s.la = (v : Int) ∧ s.rho v = R
  time : ∀ v, s.tau v ≤ s.tm
  top : ∀ v, s.rho v ≤ R

theorem TS.go_iff {s : TS} {e : Ed} (h : s.go e = true) : s.kn e.fr = true ∧ (s.kn e.to = true → s.fa e.fr + e.mo < s.fa e.to) := by
  unfold TS.go at h
  simp only [Bool.and_eq_true, Bool.or_eq_true, Bool.not_eq_true', decide_eq_true_eq] at h
  refine ⟨h.1, fun hk => ?_⟩
  rcases h.2 with h2 | h2
  · rw [h2] at hk; cases hk
  · exact h2
theorem TS.go_no {s : TS} {e : Ed} (h : s.go e = false) : Fe s e := by
  intro hk
  unfold TS.go at h
  rw [hk, Bool.true_and, Bool.or_eq_false_iff] at h
  have h1 : s.kn e.to = true := by simpa using h.1
  have h2 : ¬ s.fa e.fr + e.mo < s.fa e.to := by simpa using h.2
  exact ⟨h1, by omega⟩

theorem TInv.step {n : Nat} {l : List Rd} {R p : Nat} {s : TS} (hl : RdOk n l) (hR : 1 ≤ R) (hp : p < 2 * l.length) (h : TInv n l R p s) : TInv n l R (p + 1) (s.relax R (edAt l p)) := by
  unfold TS.relax
  cases hg : s.go (edAt l p) with
  | false =>
    rw [if_neg (by simp)]
    have hf := TS.go_no hg
    refine ⟨h.pre, h.by_, fun j hj => ?_, fun j hj => ?_, h.last, h.time, h.top⟩
    · by_cases e : j = p
      · subst e; exact Or.inl hf
      · rcases h.edge j hj with h1 | h1
        · exact Or.inl h1
        · refine Or.inr ?_
          by_cases hjp : j < p
          · rw [if_pos hjp] at h1; rw [if_pos (by omega)]; exact h1
          · rw [if_neg hjp] at h1; rw [if_neg (by omega)]; exact h1
    · by_cases e : j = p
      · subst e; exact Or.inl hf
      · exact h.still j (by omega)
  | true =>
    rw [if_pos rfl]
    obtain ⟨g1, g2⟩ := TS.go_iff hg
    obtain ⟨b1, b2, b3, _, _⟩ := ed_ok hl hp
    obtain ⟨e, he⟩ : ∃ e, edAt l p = e := ⟨_, rfl⟩
    have hep := h.edge p hp
    rw [he] at g1 g2 b1 b2 b3 hep ⊢
    have hst : e.st ≠ 0 := by rw [← he]; exact st_ne l p
    have hrf : R ≤ s.rho e.fr + 1 := by
      rcases hep with h1 | h1
      · obtain ⟨h2, h3⟩ := h1 g1
        have := g2 h2
        omega
      · rw [if_neg (by omega)] at h1; omega
    have kn1 : ∀ v, s.kn v = true → (s.put R e).kn v = true := fun v hv => by
      show updF s.kn e.to true v = true
      unfold updF; split <;> simp [hv]
    have fa1 : ∀ v, s.kn v = true → (s.put R e).fa v ≤ s.fa v := fun v hv => by
      show updF s.fa e.to (s.fa e.fr + e.mo) v ≤ s.fa v
      unfold updF; split
      · rename_i hh; subst hh; have := g2 hv; omega
      · omega
    have rh1 : ∀ v, s.rho v ≤ (s.put R e).rho v := fun v => by
      show s.rho v ≤ updF s.rho e.to R v
      unfold updF; split
      · exact h.top v
      · omega
    have fe1 : ∀ d : Ed, d.fr ≠ e.to → Fe s d → Fe (s.put R e) d := fun d hd hf hk => by
      have hk' : updF s.kn e.to true d.fr = true := hk
      rw [updF_ne _ _ hd] at hk'
      obtain ⟨f1, f2⟩ := hf hk'
      have f3 := fa1 _ f1
      refine ⟨kn1 _ f1, ?_⟩
      show (s.put R e).fa d.to ≤ updF s.fa e.to (s.fa e.fr + e.mo) d.fr + d.mo
      rw [updF_ne _ _ hd]; omega
    have nf : e.fr ≠ e.to := b3
    refine ⟨fun v hv => ?_, fun v hv => ?_, fun j hj => ?_, fun j hj => Or.inr ?_, Or.inr ⟨e.to, b2, rfl, updF_same _ _ _⟩, fun v => ?_, fun v => ?_⟩
    · by_cases ev : v = e.to
      · subst ev
        refine ⟨p, hp, ?_, by rw [he], updF_same _ _ _, ?_, ?_, ?_, ?_⟩
        · rw [he]; exact (updF_same _ _ _).symm
        · rw [he]; exact kn1 _ g1
        · rw [he]
          show updF s.fa e.to (s.fa e.fr + e.mo) e.fr + e.mo ≤ updF s.fa e.to (s.fa e.fr + e.mo) e.to
          rw [updF_ne _ _ nf, updF_same]; omega
        · rw [he]
          show updF s.tau e.to (s.tm + 1) e.to ≤ updF s.tau e.to (s.tm + 1) e.fr → _
          rw [updF_ne _ _ nf, updF_same]
          intro ht; have := h.time e.fr; omega
        · rw [he]
          show updF s.rho e.to R e.to ≤ updF s.rho e.to R e.fr + 1
          rw [updF_ne _ _ nf, updF_same]; exact hrf
      · have hv' : updF s.by' e.to e.st v ≠ 0 := hv
        rw [updF_ne _ _ ev] at hv'
        obtain ⟨j, q1, q2, q3, q4, q5, q6, q7, q8⟩ := h.pre v hv'
        refine ⟨j, q1, ?_, q3, kn1 _ q4, kn1 _ q5, ?_, ?_, ?_⟩
        · rw [q2]; exact (updF_ne _ _ ev).symm
        · have := fa1 _ q5
          show (s.put R e).fa (edAt l j).fr + (edAt l j).mo ≤ updF s.fa e.to (s.fa e.fr + e.mo) v
          rw [updF_ne _ _ ev]; omega
        · show updF s.tau e.to (s.tm + 1) v ≤ updF s.tau e.to (s.tm + 1) (edAt l j).fr → (s.put R e).fa (edAt l j).fr + (edAt l j).mo < updF s.fa e.to (s.fa e.fr + e.mo) v
          rw [updF_ne _ _ ev, updF_ne _ _ ev]
          by_cases ef : (edAt l j).fr = e.to
          · intro _
            have hlt : (s.put R e).fa (edAt l j).fr < s.fa (edAt l j).fr := by
              show updF s.fa e.to (s.fa e.fr + e.mo) (edAt l j).fr < _
              rw [ef, updF_same]
              exact g2 (ef ▸ q5)
            omega
          · rw [updF_ne _ _ ef]
            intro ht
            have h1 := q7 ht
            have h2 := fa1 _ q5
            omega
        · have h1 := rh1 (edAt l j).fr
          show updF s.rho e.to R v ≤ (s.put R e).rho (edAt l j).fr + 1
          rw [updF_ne _ _ ev]; omega
    · by_cases ev : v = e.to
      · subst ev
        show updF s.by' e.to e.st e.to ≠ 0
        rw [updF_same]; exact hst
      · have hv' : 1 ≤ updF s.rho e.to R v := hv
        rw [updF_ne _ _ ev] at hv'
        show updF s.by' e.to e.st v ≠ 0
        rw [updF_ne _ _ ev]
        exact h.by_ v hv'
    · by_cases ef : (edAt l j).fr = e.to
      · refine Or.inr ?_
        show _ ≤ updF s.rho e.to R (edAt l j).fr
        rw [ef, updF_same]
        split <;> omega
      · by_cases ej : j = p
        · subst ej
          rw [he]
          refine Or.inl fun _ => ⟨updF_same _ _ _, ?_⟩
          show updF s.fa e.to (s.fa e.fr + e.mo) e.to ≤ updF s.fa e.to (s.fa e.fr + e.mo) e.fr + e.mo
          rw [updF_ne _ _ nf, updF_same]; omega
        · rcases h.edge j hj with h1 | h1
          · exact Or.inl (fe1 _ ef h1)
          · refine Or.inr ?_
            show _ ≤ updF s.rho e.to R (edAt l j).fr
            rw [updF_ne _ _ ef]
            by_cases hjp : j < p
            · rw [if_pos hjp] at h1; rw [if_pos (by omega)]; exact h1
            · rw [if_neg hjp] at h1; rw [if_neg (by omega)]; exact h1
    · show 0 ≤ (e.to : Int); omega
    · show updF s.tau e.to (s.tm + 1) v ≤ s.tm + 1
      unfold updF; split
      · omega
      · have := h.time v; omega
    · show updF s.rho e.to R v ≤ R
      unfold updF; split
      · omega
      · exact h.top v

theorem TInv.begin {n : Nat} {l : List Rd} {R : Nat} {s : TS} (h : TInv n l R (2 * l.length) s) : TInv n l (R + 1) 0 { s with la := -1 } := by
  refine ⟨h.pre, h.by_, fun j hj => ?_, fun j hj => absurd hj (by omega), Or.inl rfl, h.time, fun v => by have := h.top v; show s.rho v ≤ R + 1; omega⟩
  rcases h.edge j hj with h1 | h1
  · exact Or.inl h1
  · refine Or.inr ?_
    rw [if_pos hj] at h1
    rw [if_neg (by omega)]
    exact h1
theorem TInv.round {n : Nat} {l : List Rd} {R : Nat} {s : TS} (hl : RdOk n l) (h : TInv n l R (2 * l.length) s) : ∀ p, p ≤ 2 * l.length → TInv n l (R + 1) p (rndK l (R + 1) s p)
  | 0, _ => h.begin
  | p + 1, hp => (TInv.round hl h p (by omega)).step hl (by omega) (by omega)
/-- The table before the first round: some items known, all at 0. -/
def ts0 (kn : Nat → Bool) : TS := { kn := kn, fa := fun _ => 0, by' := fun _ => 0, la := 0, rho := fun _ => 0, tau := fun _ => 0, tm := 0 }
theorem TInv.start {n : Nat} (hn : 1 ≤ n) (l : List Rd) (kn : Nat → Bool) : TInv n l 0 (2 * l.length) (ts0 kn) :=
  ⟨fun v hv => absurd rfl hv, fun v hv => absurd hv (by show ¬ 1 ≤ 0; omega), fun j hj => Or.inr (by rw [if_pos hj]; exact Nat.le_refl _), fun j hj => Or.inr (Int.le_refl 0), Or.inr ⟨0, hn, rfl, rfl⟩, fun v => Nat.le_refl _, fun v => Nat.le_refl _⟩
theorem TInv.rounds {n : Nat} {l : List Rd} (hl : RdOk n l) (kn : Nat → Bool) : ∀ r, TInv n l r (2 * l.length) (sR l (ts0 kn) r)
  | 0 => TInv.start hl.1.1 l kn
  | r + 1 => (TInv.rounds hl kn r).round hl _ (Nat.le_refl _)

/-- A table at which the rounds end. -/
def Done (n : Nat) (l : List Rd) (kn : Nat → Bool) (m : Nat) : Prop :=
  m ≤ n + 1 ∧ ((sR l (ts0 kn) (m + 1)).la < 0 ∨ m = n + 1)
theorem done_feas {n : Nat} {l : List Rd} (hl : RdOk n l) {kn : Nat → Bool} {r : Nat} (h : (sR l (ts0 kn) r).la < 0) : ∀ j, j < 2 * l.length → Fe (sR l (ts0 kn) r) (edAt l j) := fun j hj => by
  rcases (TInv.rounds hl kn r).still j hj with h1 | h1
  · exact h1
  · omega
/-- The item before one. -/
def prd (l : List Rd) (s : TS) (v : Nat) : Nat := (edAt l (edIx (s.by' v))).fr
def prdN (l : List Rd) (s : TS) (v : Nat) : Nat → Nat
  | 0 => v
  | k + 1 => prd l s (prdN l s v k)
theorem prdN_add (l : List Rd) (s : TS) (v a : Nat) : ∀ k, prdN l s v (a + k) = prdN l s (prdN l s v a) k
  | 0 => rfl
  | k + 1 => by show prd l s (prdN l s v (a + k)) = _; rw [prdN_add l s v a k]; rfl
theorem Pre.spec {l : List Rd} {s : TS} {v : Nat} (h : Pre l s v) : edIx (s.by' v) < 2 * l.length ∧ (edAt l (edIx (s.by' v))).st = s.by' v ∧ (edAt l (edIx (s.by' v))).to = v ∧ s.fa (prd l s v) + (edAt l (edIx (s.by' v))).mo ≤ s.fa v ∧
    (s.tau v ≤ s.tau (prd l s v) → s.fa (prd l s v) + (edAt l (edIx (s.by' v))).mo < s.fa v) ∧ s.rho v ≤ s.rho (prd l s v) + 1 := by
  obtain ⟨j, q1, q2, q3, _, _, q6, q7, q8⟩ := h
  have e : edIx (s.by' v) = j := by rw [← q2, edIx_st]
  unfold prd
  rw [e]
  exact ⟨q1, q2, q3, q6, q7, q8⟩
theorem back_rho {n : Nat} {l : List Rd} {R : Nat} {s : TS} (h : TInv n l R (2 * l.length) s) {v : Nat} : ∀ k, k < s.rho v → s.rho v ≤ s.rho (prdN l s v k) + k
  | 0, _ => Nat.le_refl _
  | k + 1, hk => by
    have h1 := back_rho h (v := v) k (by omega)
    have h2 := (h.pre _ (h.by_ (prdN l s v k) (by omega))).spec.2.2.2.2.2
    show s.rho v ≤ s.rho (prd l s (prdN l s v k)) + (k + 1)
    omega
/-- Of more numbers than there are values two are the same. -/
theorem pigeon : ∀ (n : Nat) (f : Nat → Nat), (∀ i, i ≤ n → f i < n) → ∃ i j, i < j ∧ j ≤ n ∧ f i = f j
  | 0, f, h => absurd (h 0 (Nat.le_refl _)) (by omega)
  | n + 1, f, h => by
    by_cases hex : ∃ i, i ≤ n ∧ f i = f (n + 1)
    · obtain ⟨i, hi, he⟩ := hex
      exact ⟨i, n + 1, by omega, Nat.le_refl _, he⟩
    · have hne : ∀ i, i ≤ n → f i ≠ f (n + 1) := fun i hi he => hex ⟨i, hi, he⟩
      have hl := h (n + 1) (Nat.le_refl _)
      obtain ⟨i, j, hij, hj, he⟩ := pigeon n (fun i => if f i = n then f (n + 1) else f i) (fun i hi => by
        have h1 := h i (by omega)
        have h2 := hne i hi
        show (if f i = n then f (n + 1) else f i) < n
        split
        · omega
        · omega)
      refine ⟨i, j, hij, by omega, ?_⟩
      have h1 := hne i (by omega)
      have h2 := hne j hj
      have he' : (if f i = n then f (n + 1) else f i) = (if f j = n then f (n + 1) else f j) := he
      split at he' <;> split at he' <;> omega

/-- Step 'k' of the way back from 'v'. -/
def bk (l : List Rd) (s : TS) (v k : Nat) : Ed := edAt l (edIx (s.by' (prdN l s v k)))
def sumBk (l : List Rd) (s : TS) (v : Nat) : Nat → Int
  | 0 => 0
  | k + 1 => sumBk l s v k + (bk l s v k).mo
theorem sum_back {n : Nat} {l : List Rd} {R : Nat} {s : TS} (h : TInv n l R (2 * l.length) s) {v : Nat} : ∀ k, (∀ i, i < k → s.by' (prdN l s v i) ≠ 0) →
    (sumBk l s v k + s.fa (prdN l s v k) ≤ s.fa v ∧ s.tau (prdN l s v k) + k ≤ s.tau v) ∨ sumBk l s v k + s.fa (prdN l s v k) < s.fa v
  | 0, _ => Or.inl ⟨by show 0 + s.fa v ≤ s.fa v; omega, Nat.le_refl _⟩
  | k + 1, hk => by
    have h1 := sum_back h (v := v) k (fun i hi => hk i (by omega))
    obtain ⟨_, _, _, p1, p2, _⟩ := (h.pre _ (hk k (by omega))).spec
    show (sumBk l s v k + (bk l s v k).mo + s.fa (prd l s (prdN l s v k)) ≤ s.fa v ∧ s.tau (prd l s (prdN l s v k)) + (k + 1) ≤ s.tau v) ∨ sumBk l s v k + (bk l s v k).mo + s.fa (prd l s (prdN l s v k)) < s.fa v
    have p1' : s.fa (prd l s (prdN l s v k)) + (bk l s v k).mo ≤ s.fa (prdN l s v k) := p1
    have p2' : s.tau (prdN l s v k) ≤ s.tau (prd l s (prdN l s v k)) → s.fa (prd l s (prdN l s v k)) + (bk l s v k).mo < s.fa (prdN l s v k) := p2
    generalize s.tau (prd l s (prdN l s v k)) = t1 at *
    generalize s.tau (prdN l s v k) = t2 at *
    by_cases ht : t2 ≤ t1
    · have := p2' ht
      omega
    · omega
/-- Where the rounds do not end, the way back from what was lowered last leads, after n steps, round in a circle whose sum is below 0. -/
theorem circle {n : Nat} {l : List Rd} (hl : RdOk n l) {kn : Nat → Bool} {v : Nat} (hd : ¬ (sR l (ts0 kn) (n + 2)).la < 0) (hv : (sR l (ts0 kn) (n + 2)).la = (v : Int)) :
    v < n ∧ (∀ k, (sR l (ts0 kn) (n + 2)).by' (prdN l (sR l (ts0 kn) (n + 2)) v k) ≠ 0) ∧
    ∃ m, 1 ≤ m ∧ m ≤ n ∧ prdN l (sR l (ts0 kn) (n + 2)) v (n + m) = prdN l (sR l (ts0 kn) (n + 2)) v n ∧ (∀ i, 1 ≤ i → i < m → prdN l (sR l (ts0 kn) (n + 2)) v (n + i) ≠ prdN l (sR l (ts0 kn) (n + 2)) v n) ∧
      sumBk l (sR l (ts0 kn) (n + 2)) (prdN l (sR l (ts0 kn) (n + 2)) v n) m < 0 := by
  have hI := TInv.rounds hl kn (n + 2)
  generalize sR l (ts0 kn) (n + 2) = s at *
  obtain ⟨v', hv', hla, hrho⟩ : ∃ v', v' < n ∧ s.la = (v' : Int) ∧ s.rho v' = n + 2 := by
    rcases hI.last with h1 | h1
    · omega
    · exact h1
  obtain rfl : v' = v := by omega
  have hby : ∀ k, k ≤ n + 1 → s.by' (prdN l s v' k) ≠ 0 := fun k hk => hI.by_ _ (by have := back_rho hI (v := v') k (by omega); omega)
  have hlt : ∀ k, k ≤ n → prdN l s v' k < n := fun k hk => by
    have h1 := (hI.pre _ (hby k (by omega))).spec
    have h2 := (ed_ok hl h1.1).2.1
    rw [h1.2.2.1] at h2
    exact h2
  obtain ⟨i, j, hij, hj, he⟩ := pigeon n (prdN l s v') hlt
  have hper : prdN l s v' (n + (j - i)) = prdN l s v' n := by
    have e1 : n + (j - i) = j + (n - i) := by omega
    have e2 : n = i + (n - i) := by omega
    rw [e1, prdN_add, ← he, ← prdN_add, ← e2]
  -- the least period
  have least : ∀ (N : Nat), (∃ m, 1 ≤ m ∧ m ≤ N ∧ prdN l s v' (n + m) = prdN l s v' n) → ∃ m, 1 ≤ m ∧ m ≤ N ∧ prdN l s v' (n + m) = prdN l s v' n ∧ ∀ i, 1 ≤ i → i < m → prdN l s v' (n + i) ≠ prdN l s v' n := by
    intro N
    induction N with
    | zero => rintro ⟨m, h1, h2, _⟩; omega
    | succ N ih =>
      rintro ⟨m, h1, h2, h3⟩
      by_cases hx : ∃ m, 1 ≤ m ∧ m ≤ N ∧ prdN l s v' (n + m) = prdN l s v' n
      · obtain ⟨m', a1, a2, a3, a4⟩ := ih hx
        exact ⟨m', a1, by omega, a3, a4⟩
      · exact ⟨m, h1, h2, h3, fun i i1 i2 e => hx ⟨i, i1, by omega, e⟩⟩
  obtain ⟨m, m1, m2, m3, m4⟩ := least n ⟨j - i, by omega, by omega, hper⟩
  have hall : ∀ k, s.by' (prdN l s v' k) ≠ 0 := by
    intro k
    induction k using Nat.strongRecOn with
    | _ k ih =>
      by_cases hk : k ≤ n + 1
      · exact hby k hk
      · have e1 : k = j + (k - j) := by omega
        rw [e1, prdN_add, ← he, ← prdN_add]
        exact ih _ (by omega)
  refine ⟨hv', hall, m, m1, m2, m3, m4, ?_⟩
  have h1 := sum_back hI (v := prdN l s v' n) m (fun i _ => by rw [← prdN_add]; exact hall _)
  rw [← prdN_add, m3] at h1
  omega
end Go.Proofs.YtehifkdfbiebfaaDoor
namespace Go.Proofs.YtehifkdfbiebfaaDoor
open Go Go.RowKit

section
variable (fr : Nat → Nat) (lo hi : Nat → Int)
/-- How far 'b' is from 'a' at most, by the first m readings. -/
def Dt : Nat → Nat → Nat → Int
  | 0, _, _ => 0
  | m + 1, a, b => if a = m + 1 then (if b = m + 1 then 0 else -lo m + Dt m (fr m) b) else (if b = m + 1 then Dt m a (fr m) + hi m else Dt m a b)
def treeL : Nat → List Rd
  | 0 => []
  | m + 1 => treeL m ++ [⟨fr m, m + 1, lo m, hi m⟩]
end
section
variable {fr : Nat → Nat} {lo hi : Nat → Int}
theorem treeL_len (m : Nat) : (treeL fr lo hi m).length = m := by
  induction m with
  | zero => rfl
  | succ m ih => show (treeL fr lo hi m ++ _).length = _; rw [List.length_append, ih]; rfl
theorem treeL_get : ∀ (m k : Nat), k < m → (treeL fr lo hi m)[k]? = some ⟨fr k, k + 1, lo k, hi k⟩
  | 0, k, h => by omega
  | m + 1, k, h => by
    show (treeL fr lo hi m ++ [_])[k]? = _
    by_cases e : k = m
    · subst e
      rw [List.getElem?_append_right (by rw [treeL_len]; exact Nat.le_refl _), treeL_len, Nat.sub_self]; rfl
    · rw [List.getElem?_append_left (by rw [treeL_len]; omega)]
      exact treeL_get m k (by omega)
theorem Dt_self : ∀ (m a : Nat), a ≤ m → Dt fr lo hi m a a = 0
  | 0, _, _ => rfl
  | m + 1, a, h => by
    unfold Dt
    by_cases e : a = m + 1
    · simp [e]
    · simp [e]; exact Dt_self m a (by omega)
/-- The distances keep to each reading. -/
theorem Dt_feas (hf : ∀ k, fr k ≤ k) (hl : ∀ k, lo k ≤ hi k) : ∀ (m a k : Nat), a ≤ m → k < m → Dt fr lo hi m a (k + 1) ≤ Dt fr lo hi m a (fr k) + hi k ∧ Dt fr lo hi m a (fr k) ≤ Dt fr lo hi m a (k + 1) - lo k
  | 0, _, _, _, h => by omega
  | m + 1, a, k, ha, hk => by
    have f1 := hf k
    have f2 := hf m
    have l1 := hl m
    by_cases ek : k = m
    · subst ek
      have e1 : fr k ≠ k + 1 := by omega
      have e2 := Dt_self (fr := fr) (lo := lo) (hi := hi) k (fr k) f1
      by_cases ea : a = k + 1
      · simp only [Dt, ea, if_true, if_neg e1, e2]; omega
      · simp only [Dt, if_neg ea, if_true, if_neg e1]; omega
    · have e1 : fr k ≠ m + 1 := by omega
      have e2 : k + 1 ≠ m + 1 := by omega
      by_cases ea : a = m + 1
      · have h1 := Dt_feas hf hl m (fr m) k f2 (by omega)
        simp only [Dt, ea, if_true, if_neg e1, if_neg e2]; omega
      · have h1 := Dt_feas hf hl m a k (by omega) (by omega)
        simp only [Dt, if_neg ea, if_neg e1, if_neg e2]; exact h1
/-- Whatever keeps to the readings keeps to the distances. -/
theorem Dt_least (hf : ∀ k, fr k ≤ k) {p : Nat → Int} : ∀ (m : Nat), (∀ k, k < m → p (k + 1) ≤ p (fr k) + hi k ∧ p (fr k) ≤ p (k + 1) - lo k) → ∀ a b, a ≤ m → b ≤ m → p b ≤ p a + Dt fr lo hi m a b
  | 0, _, a, b, ha, hb => by
    have : a = b := by omega
    subst this
    show p a ≤ p a + 0
    omega
  | m + 1, h, a, b, ha, hb => by
    have ih := Dt_least hf m (fun k hk => h k (by omega))
    have h1 := h m (by omega)
    have f2 := hf m
    by_cases ea : a = m + 1
    · by_cases eb : b = m + 1
      · simp only [Dt, ea, eb, if_true]; omega
      · have := ih (fr m) b f2 (by omega)
        simp only [Dt, ea, if_true, if_neg eb]; omega
    · by_cases eb : b = m + 1
      · have := ih a (fr m) (by omega) f2
        simp only [Dt, if_neg ea, eb, if_true]; omega
      · have := ih a b (by omega) (by omega)
        simp only [Dt, if_neg ea, if_neg eb]; exact this
theorem Dt_bd (B : Int) (hB : ∀ k, -B ≤ lo k ∧ hi k ≤ B) (hl : ∀ k, lo k ≤ hi k) (h0 : 0 ≤ B) : ∀ (m a b : Nat), -(m * B) ≤ Dt fr lo hi m a b ∧ Dt fr lo hi m a b ≤ m * B
  | 0, _, _ => by show -((0 : Nat) * B) ≤ (0 : Int) ∧ (0 : Int) ≤ ((0 : Nat) : Int) * B; simp
  | m + 1, a, b => by
    have e : (((m + 1 : Nat) : Int)) * B = (m : Int) * B + B := by push_cast; rw [Int.add_mul]; omega
    have i1 := Dt_bd B hB hl h0 m (fr m) b
    have i2 := Dt_bd B hB hl h0 m a (fr m)
    have i3 := Dt_bd B hB hl h0 m a b
    have b1 := hB m
    have b2 := hl m
    have b3 : 0 ≤ (m : Int) * B := Int.mul_nonneg (by omega) h0
    rw [e]
    unfold Dt
    split
    · split <;> omega
    · split <;> omega
/-- The size of a sum lies within the sum of the sizes. -/
theorem Dt_ways {α : Type} (hf : ∀ k, fr k ≤ k) (H : α → Int) (sub add : α → α → α) (neg : α → α) (way : Nat → α) (v : Nat → α) (zero : α) (h0 : H zero = 0)
    (ss : ∀ x, sub x x = zero) (s1 : ∀ x y z, H (sub x (add y z)) ≤ H (neg z) + H (sub x y)) (s2 : ∀ x y z, H (sub (add x z) y) ≤ H (sub x y) + H z) : ∀ (m : Nat), (∀ k, k < m → way (k + 1) = add (way (fr k)) (v k)) →
    (∀ k, k < m → hi k = H (v k) ∧ lo k = -H (neg (v k))) → ∀ a b, a ≤ m → b ≤ m → H (sub (way b) (way a)) ≤ Dt fr lo hi m a b
  | 0, _, _, a, b, ha, hb => by
    have : a = b := by omega
    subst this
    rw [ss, h0]; exact Int.le_refl 0
  | m + 1, hw, hh, a, b, ha, hb => by
    have ih := Dt_ways hf H sub add neg way v zero h0 ss s1 s2 m (fun k hk => hw k (by omega)) (fun k hk => hh k (by omega))
    obtain ⟨h1, h2⟩ := hh m (by omega)
    have f2 := hf m
    have w1 := hw m (by omega)
    by_cases ea : a = m + 1
    · by_cases eb : b = m + 1
      · simp only [Dt, ea, eb, if_true]; rw [ss, h0]; exact Int.le_refl 0
      · have := ih (fr m) b f2 (by omega)
        have := s1 (way b) (way (fr m)) (v m)
        simp only [Dt, ea, if_true, if_neg eb]; rw [w1]; omega
    · by_cases eb : b = m + 1
      · have := ih a (fr m) (by omega) f2
        have := s2 (way (fr m)) (way a) (v m)
        simp only [Dt, if_neg ea, eb, if_true]; rw [w1]; omega
      · simp only [Dt, if_neg ea, if_neg eb]
        exact ih a b (by omega) (by omega)
/-- Where a further reading has something in common with the bounds, some sizes keep to all. -/
theorem join_feas (hf : ∀ k, fr k ≤ k) (hl : ∀ k, lo k ≤ hi k) {m a b : Nat} (ha : a ≤ m) (hb : b ≤ m) {tl th : Int} (h1 : -Dt fr lo hi m b a ≤ th) (h2 : tl ≤ Dt fr lo hi m a b) (h3 : tl ≤ th) :
    ∃ p : Nat → Int, (∀ k, k < m → p (k + 1) ≤ p (fr k) + hi k ∧ p (fr k) ≤ p (k + 1) - lo k) ∧ p b ≤ p a + th ∧ p a ≤ p b - tl := by
  have hab := Dt_least (lo := lo) (hi := hi) hf (p := fun v => Dt fr lo hi m b v) m (fun k hk => Dt_feas hf hl m b k hb hk) a b ha hb
  have hab' : Dt fr lo hi m b b ≤ Dt fr lo hi m b a + Dt fr lo hi m a b := hab
  rw [Dt_self m b hb] at hab'
  obtain ⟨x, x1, x2, x3, x4⟩ : ∃ x : Int, tl ≤ x ∧ x ≤ th ∧ -Dt fr lo hi m b a ≤ x ∧ x ≤ Dt fr lo hi m a b :=
    ⟨max tl (-Dt fr lo hi m b a), by omega, by omega, by omega, by omega⟩
  have ea := Dt_self (fr := fr) (lo := lo) (hi := hi) m a ha
  have eb := Dt_self (fr := fr) (lo := lo) (hi := hi) m b hb
  refine ⟨fun v => min (Dt fr lo hi m a v) (x + Dt fr lo hi m b v), fun k hk => ?_, ?_, ?_⟩
  · have := Dt_feas hf hl m a k ha hk
    have := Dt_feas hf hl m b k hb hk
    show min (Dt fr lo hi m a (k + 1)) (x + Dt fr lo hi m b (k + 1)) ≤ min (Dt fr lo hi m a (fr k)) (x + Dt fr lo hi m b (fr k)) + hi k ∧ min (Dt fr lo hi m a (fr k)) (x + Dt fr lo hi m b (fr k)) ≤ min (Dt fr lo hi m a (k + 1)) (x + Dt fr lo hi m b (k + 1)) - lo k
    omega
  · show min (Dt fr lo hi m a b) (x + Dt fr lo hi m b b) ≤ min (Dt fr lo hi m a a) (x + Dt fr lo hi m b a) + th
    rw [ea, eb]; omega
  · show min (Dt fr lo hi m a a) (x + Dt fr lo hi m b a) ≤ min (Dt fr lo hi m a b) (x + Dt fr lo hi m b b) - tl
    rw [ea, eb]; omega
end
end Go.Proofs.YtehifkdfbiebfaaDoor
