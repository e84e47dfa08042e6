/- TopCircle: the sizes. Plain. -/
import Derived.Test.YtehifkdfbiebfaaDoorK32
import Derived.Test.YtehifkdfbiebfaaDoorK33
import Derived.Test.YtehifkdfbiebfaaDoorK18
namespace Go.Proofs.YtehifkdfbiebfaaDoor
open Go Go.RowKit

/-- The greatest and the least number of an interval's size. -/
def hS (g : Nat → Int) : Int := szH (fun i => g i * 12) 6
def lS (g : Nat → Int) : Int := szL (fun i => g i * 12) 6
theorem hS_eq (g : Nat → Int) : szH (ex12 (g 0) (g 1) (g 2) (g 3) (g 4) (g 5)) 6 = hS g := rfl
theorem lS_eq (g : Nat → Int) : szL (ex12 (g 0) (g 1) (g 2) (g 3) (g 4) (g 5)) 6 = lS g := rfl
def tH (k : Nat) (e : Int) : Int := e * (if e < 0 then lgL k else lgH k)
def tL (k : Nat) (e : Int) : Int := e * (if e < 0 then lgH k else lgL k)
theorem t_add {k : Nat} (hk : k < 6) (a b c : Int) (h : c = a + b) : tH k c ≤ tH k a + tH k b := by
  subst h
  unfold tH
  rcases lt6' hk with rfl | rfl | rfl | rfl | rfl | rfl <;> simp only [lgL, lgH] <;> split <;> split <;> split <;> omega
theorem t_neg {k : Nat} (hk : k < 6) (a b : Int) (h : b = -a) : tL k a = -tH k b := by
  subst h
  unfold tH tL
  rcases lt6' hk with rfl | rfl | rfl | rfl | rfl | rfl <;> simp only [lgL, lgH] <;> split <;> split <;> omega
theorem t_le {k : Nat} (hk : k < 6) (a : Int) : tL k a ≤ tH k a := by
  unfold tH tL
  rcases lt6' hk with rfl | rfl | rfl | rfl | rfl | rfl <;> simp only [lgL, lgH] <;> split <;> omega
theorem t_bd {k : Nat} (hk : k < 6) {a B : Int} (h1 : -B ≤ a) (h2 : a ≤ B) : -(4000000000 * B) ≤ tL k a ∧ tH k a ≤ 4000000000 * B ∧ -(4000000000 * B) ≤ tH k a ∧ tL k a ≤ 4000000000 * B := by
  unfold tH tL
  rcases lt6' hk with rfl | rfl | rfl | rfl | rfl | rfl <;> simp only [lgL, lgH] <;> split <;> omega
theorem hS_sum (g : Nat → Int) : hS g = tH 0 (g 0 * 12) + tH 1 (g 1 * 12) + tH 2 (g 2 * 12) + tH 3 (g 3 * 12) + tH 4 (g 4 * 12) + tH 5 (g 5 * 12) := by
  show 0 + tH 0 (g 0 * 12) + tH 1 (g 1 * 12) + tH 2 (g 2 * 12) + tH 3 (g 3 * 12) + tH 4 (g 4 * 12) + tH 5 (g 5 * 12) = _
  omega
theorem lS_sum (g : Nat → Int) : lS g = tL 0 (g 0 * 12) + tL 1 (g 1 * 12) + tL 2 (g 2 * 12) + tL 3 (g 3 * 12) + tL 4 (g 4 * 12) + tL 5 (g 5 * 12) := by
  show 0 + tL 0 (g 0 * 12) + tL 1 (g 1 * 12) + tL 2 (g 2 * 12) + tL 3 (g 3 * 12) + tL 4 (g 4 * 12) + tL 5 (g 5 * 12) = _
  omega
def aV (x y : Nat → Int) : Nat → Int := fun i => x i + y i
def sV (x y : Nat → Int) : Nat → Int := fun i => x i - y i
def nV (x : Nat → Int) : Nat → Int := fun i => -x i
theorem hS_add {x y z : Nat → Int} (h : ∀ i, i < 6 → z i = x i + y i) : hS z ≤ hS x + hS y := by
  rw [hS_sum, hS_sum, hS_sum]
  have h0 := t_add (k := 0) (by omega) (x 0 * 12) (y 0 * 12) (z 0 * 12) (by rw [h 0 (by omega)]; omega)
  have h1 := t_add (k := 1) (by omega) (x 1 * 12) (y 1 * 12) (z 1 * 12) (by rw [h 1 (by omega)]; omega)
  have h2 := t_add (k := 2) (by omega) (x 2 * 12) (y 2 * 12) (z 2 * 12) (by rw [h 2 (by omega)]; omega)
  have h3 := t_add (k := 3) (by omega) (x 3 * 12) (y 3 * 12) (z 3 * 12) (by rw [h 3 (by omega)]; omega)
  have h4 := t_add (k := 4) (by omega) (x 4 * 12) (y 4 * 12) (z 4 * 12) (by rw [h 4 (by omega)]; omega)
  have h5 := t_add (k := 5) (by omega) (x 5 * 12) (y 5 * 12) (z 5 * 12) (by rw [h 5 (by omega)]; omega)
  omega
theorem lS_neg {x y : Nat → Int} (h : ∀ i, i < 6 → y i = -x i) : lS x = -hS y := by
  rw [hS_sum, lS_sum]
  have h0 := t_neg (k := 0) (by omega) (x 0 * 12) (y 0 * 12) (by rw [h 0 (by omega)]; omega)
  have h1 := t_neg (k := 1) (by omega) (x 1 * 12) (y 1 * 12) (by rw [h 1 (by omega)]; omega)
  have h2 := t_neg (k := 2) (by omega) (x 2 * 12) (y 2 * 12) (by rw [h 2 (by omega)]; omega)
  have h3 := t_neg (k := 3) (by omega) (x 3 * 12) (y 3 * 12) (by rw [h 3 (by omega)]; omega)
  have h4 := t_neg (k := 4) (by omega) (x 4 * 12) (y 4 * 12) (by rw [h 4 (by omega)]; omega)
  have h5 := t_neg (k := 5) (by omega) (x 5 * 12) (y 5 * 12) (by rw [h 5 (by omega)]; omega)
  omega
theorem lS_le (x : Nat → Int) : lS x ≤ hS x := by
  rw [hS_sum, lS_sum]
  have h0 := t_le (k := 0) (by omega) (x 0 * 12)
  have h1 := t_le (k := 1) (by omega) (x 1 * 12)
  have h2 := t_le (k := 2) (by omega) (x 2 * 12)
  have h3 := t_le (k := 3) (by omega) (x 3 * 12)
  have h4 := t_le (k := 4) (by omega) (x 4 * 12)
  have h5 := t_le (k := 5) (by omega) (x 5 * 12)
  omega
theorem S_bd {x : Nat → Int} {B : Int} (h : ∀ i, i < 6 → -B ≤ x i ∧ x i ≤ B) : -(288000000000 * B) ≤ lS x ∧ hS x ≤ 288000000000 * B := by
  rw [hS_sum, lS_sum]
  have h0 := t_bd (k := 0) (a := x 0 * 12) (B := 12 * B) (by omega) (by have := h 0 (by omega); omega) (by have := h 0 (by omega); omega)
  have h1 := t_bd (k := 1) (a := x 1 * 12) (B := 12 * B) (by omega) (by have := h 1 (by omega); omega) (by have := h 1 (by omega); omega)
  have h2 := t_bd (k := 2) (a := x 2 * 12) (B := 12 * B) (by omega) (by have := h 2 (by omega); omega) (by have := h 2 (by omega); omega)
  have h3 := t_bd (k := 3) (a := x 3 * 12) (B := 12 * B) (by omega) (by have := h 3 (by omega); omega) (by have := h 3 (by omega); omega)
  have h4 := t_bd (k := 4) (a := x 4 * 12) (B := 12 * B) (by omega) (by have := h 4 (by omega); omega) (by have := h 4 (by omega); omega)
  have h5 := t_bd (k := 5) (a := x 5 * 12) (B := 12 * B) (by omega) (by have := h 5 (by omega); omega) (by have := h 5 (by omega); omega)
  omega
theorem prod_fac {fb : Nat → Nat} {fe : Nat → Int} {k i : Nat} (h : ∀ j, j < k → 0 < fb j) (hi : i < k) : pwF (fb i) (fe i) ≤ prodF fb fe k := by
  have h1 : prodF fb fe (i + 1) ≤ prodF fb fe k := prodF_mono h _ (by omega)
  have h2 : prodF fb fe (i + 1) = prodF fb fe i * pwF (fb i) (fe i) := rfl
  have h3 : 0 < prodF fb fe i := by
    clear h1 h2
    induction i with
    | zero => simp [prodF]
    | succ i ih => exact Nat.mul_pos (ih (by omega)) (by unfold pwF; split; exact Nat.pow_pos (h i (by omega)); omega)
  have := Nat.le_mul_of_pos_left (pwF (fb i) (fe i)) h3
  omega
theorem pw_six {p : Nat} {e : Int} (hp : 2 ≤ p) (h : pwF p e ≤ 64) : e ≤ 6 := by
  rcases Int.lt_or_le 6 e with g | g
  · exfalso
    unfold pwF at h
    rw [if_pos (by omega)] at h
    have h1 : p ^ 7 ≤ p ^ e.toNat := Nat.pow_le_pow_right (by omega) (by omega)
    have h2 : 2 ^ 7 ≤ p ^ 7 := Nat.pow_le_pow_left hp 7
    omega
  · exact g
theorem paO_six {g : Nat → Int} (h : paO (g 0) (g 1) (g 2) (g 3) (g 4) (g 5) = true) : ∀ i, i < 6 → -6 ≤ g i ∧ g i ≤ 6 := by
  unfold paO at h
  simp only [Bool.and_eq_true, decide_eq_true_eq] at h
  obtain ⟨_, h1, h2⟩ := h
  intro i hi
  have e : pex (g 0) (g 1) (g 2) (g 3) (g 4) (g 5) i = g i := by rcases lt6 hi with rfl | rfl | rfl | rfl | rfl | rfl <;> rfl
  have hp := prm_pos hi
  have a := prod_fac (fb := prm) (fe := pex (g 0) (g 1) (g 2) (g 3) (g 4) (g 5)) (k := 6) (fun j hj => by have := prm_pos hj; omega) hi
  have b := prod_fac (fb := prm) (fe := fun i => -pex (g 0) (g 1) (g 2) (g 3) (g 4) (g 5) i) (k := 6) (fun j hj => by have := prm_pos hj; omega) hi
  rw [e] at a
  simp only [e] at b
  have a2 := pw_six hp.1 (Nat.le_trans a h1)
  have b2 := pw_six hp.1 (Nat.le_trans b h2)
  omega
section
variable (g : Nat → Nat → Int) (L : Nat)
def loF (k : Nat) : Int := if k < L then lS (g k) else 0
def hiF (k : Nat) : Int := if k < L then hS (g k) else 0
end
section
variable {fr : Nat → Nat} {g : Nat → Nat → Int} {L : Nat}
theorem ok_pa (h : ∀ k, k < L → okS fr g k = true) {k : Nat} (hk : k < L) : ∀ i, i < 6 → -6 ≤ g k i ∧ g k i ≤ 6 := by
  have := h k hk
  unfold okS at this
  simp only [Bool.and_eq_true] at this
  exact paO_six this.1
theorem lh_le (k : Nat) : loF g L k ≤ hiF g L k := by
  unfold loF hiF
  split
  · exact lS_le _
  · exact Int.le_refl 0
theorem lh_bd (h : ∀ k, k < L → okS fr g k = true) (k : Nat) : -1728000000000 ≤ loF g L k ∧ hiF g L k ≤ 1728000000000 := by
  unfold loF hiF
  split
  · rename_i hk
    have := S_bd (ok_pa h hk)
    omega
  · omega
theorem D_bd (h : ∀ k, k < L → okS fr g k = true) (hL : L ≤ 12) (a b : Nat) : -20736000000000 ≤ Dt fr (loF g L) (hiF g L) L a b ∧ Dt fr (loF g L) (hiF g L) L a b ≤ 20736000000000 := by
  have := Dt_bd (fr := fr) 1728000000000 (lh_bd h) (fun k => lh_le k) (by omega) L a b
  have h2 : (L : Int) * 1728000000000 ≤ 20736000000000 := by omega
  omega
theorem rd_ok (h : ∀ k, k < L → okS fr g k = true) (hf : ∀ k, fr k ≤ k) (hL : L ≤ 12) : RdOk (L + 1) (treeL fr (loF g L) (hiF g L) L) := by
  refine ⟨⟨by omega, by omega⟩, by rw [treeL_len]; omega, fun i hi => ?_⟩
  rw [treeL_len] at hi
  have e := rd_tree (fr := fr) (lo := loF g L) (hi := hiF g L) (m := L) [] hi
  rw [List.append_nil] at e
  rw [e]
  have h1 := hf i
  have h2 := lh_bd h i
  have h3 := lh_le (g := g) (L := L) i
  exact ⟨by show fr i < L + 1; omega, by show i + 1 < L + 1; omega, by show fr i ≠ i + 1; omega, by show -100000000000000 ≤ loF g L i; omega, h3, by show hiF g L i ≤ 100000000000000; omega⟩
theorem rd_ok2 (h : ∀ k, k < L → okS fr g k = true) (hf : ∀ k, fr k ≤ k) (hL : L ≤ 12) {a b : Nat} {tl th : Int} (ha : a ≤ L) (hb : b ≤ L) (hab : a ≠ b) (h1 : -100000000000000 ≤ tl) (h2 : tl ≤ th) (h3 : th ≤ 100000000000000) : RdOk (L + 1) (treeL fr (loF g L) (hiF g L) L ++ [⟨a, b, tl, th⟩]) := by
  obtain ⟨o1, o2, o3⟩ := rd_ok h hf hL
  rw [treeL_len] at o2 o3
  have hlen : (treeL fr (loF g L) (hiF g L) L ++ [(⟨a, b, tl, th⟩ : Rd)]).length = L + 1 := by rw [List.length_append, treeL_len]; rfl
  refine ⟨o1, by rw [hlen]; omega, fun i hi => ?_⟩
  rw [hlen] at hi
  by_cases hiL : i < L
  · have := o3 i hiL
    have e := rd_tree (fr := fr) (lo := loF g L) (hi := hiF g L) (m := L) [] hiL
    rw [List.append_nil] at e
    rw [e] at this
    rw [rd_tree _ hiL]
    exact this
  · have hr : rdAt (treeL fr (loF g L) (hiF g L) L ++ [⟨a, b, tl, th⟩]) i = ⟨a, b, tl, th⟩ := by
      obtain rfl : i = L := by omega
      unfold rdAt
      rw [List.getElem?_append_right (by rw [treeL_len]; exact Nat.le_refl _), treeL_len, Nat.sub_self]
      rfl
    rw [hr]
    exact ⟨by show a < L + 1; omega, by show b < L + 1; omega, hab, h1, h2, h3⟩
/-- The size of the quotient of two products lies within what the readings say. -/
theorem D_way (hf : ∀ k, fr k ≤ k) (a b : Nat) (ha : a ≤ L) (hb : b ≤ L) : hS (sV (wayF fr g b) (wayF fr g a)) ≤ Dt fr (loF g L) (hiF g L) L a b :=
  Dt_ways (α := Nat → Int) hf hS sV aV nV (wayF fr g) g (fun _ => 0) (by decide) (fun x => by funext i; simp [sV])
    (fun x y z => hS_add (fun i _ => by simp only [sV, aV, nV]; omega)) (fun x y z => hS_add (fun i _ => by simp only [sV, aV]; omega)) L
    (fun k _ => by funext i; exact wayF_succ hf g k i)
    (fun k hk => ⟨by unfold hiF; rw [if_pos hk], by unfold loF; rw [if_pos hk]; exact lS_neg (fun i _ => rfl)⟩) a b ha hb
theorem D_way0 (hf : ∀ k, fr k ≤ k) (i : Nat) (hi : i ≤ L) : hS (wayF fr g i) ≤ Dt fr (loF g L) (hiF g L) L 0 i ∧ -Dt fr (loF g L) (hiF g L) L i 0 ≤ lS (wayF fr g i) := by
  have h1 := D_way (g := g) hf 0 i (by omega) hi
  have h2 := D_way (g := g) hf i 0 hi (by omega)
  have e1 : sV (wayF fr g i) (wayF fr g 0) = wayF fr g i := by funext j; simp [sV, wayF_zero]
  rw [e1] at h1
  have e2 := lS_neg (x := wayF fr g i) (y := sV (wayF fr g 0) (wayF fr g i)) (fun j _ => by simp [sV, wayF_zero])
  omega
theorem same_in (hf : ∀ k, fr k ≤ k) {a b : Nat} (ha : a ≤ L) (hb : b ≤ L) {v : Nat → Int} (hv : ∀ i, i < 6 → v i = wayF fr g b i - wayF fr g a i) : -Dt fr (loF g L) (hiF g L) L b a ≤ hS v ∧ lS v ≤ Dt fr (loF g L) (hiF g L) L a b := by
  have h1 := D_way (g := g) hf a b ha hb
  have h2 := D_way (g := g) hf b a hb ha
  have e1 := lS_neg (x := v) (y := sV (wayF fr g a) (wayF fr g b)) (fun j hj => by rw [hv j hj]; simp only [sV]; omega)
  have e2 := lS_le v
  have e3 : hS v ≤ hS (sV (wayF fr g b) (wayF fr g a)) + hS (fun _ => 0) := hS_add (fun j hj => by rw [hv j hj]; simp only [sV]; omega)
  have e4 : hS (fun _ => 0) = 0 := by decide
  omega
end
end Go.Proofs.YtehifkdfbiebfaaDoor
