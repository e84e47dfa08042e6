/- Suspects: pairs as arguments; the plain law. -/
import Derived.Test.YtkgklmmkkhbimaaSusA
namespace Go.Proofs.Ytkgklmmkkhbimaa
open Go.RowKit Go.ChangeShapes Go.WideShapes

theorem el_pair {H : Type} {enc : TypeId × Value → H} {W : World} (n : Nat) (cs : List Value) (y : DataW H × List MemPlace) (hl : cs.length = Try.prog.cellsOf 53) (h : DataW.trod enc Try.prog W 0 (fun _ => true) true n 53 cs = some y) : ∃ x : Int × Int, cs = [.int .i64 x.1, .int .i64 x.2] := by
  obtain ⟨a, b, rfl⟩ := list2 (hl.trans cells_pair)
  obtain ⟨xs, m, _, _, _, hx, hf⟩ := DataW.trod_array Try.underlying53 h
  have g0 := (hf 0 (by omega)).trans (List.getElem?_eq_getElem (show 0 < xs.length by omega))
  have g1 := (hf 1 (by omega)).trans (List.getElem?_eq_getElem (show 1 < xs.length by omega))
  simp only [cells_int, Nat.zero_mul, Nat.one_mul, List.drop_succ_cons, List.drop_zero, List.take_succ_cons, List.take_zero] at g0 g1
  obtain ⟨i, e0, _⟩ := DataW.trod_int Try.underlying3 g0
  obtain ⟨j, e1, _⟩ := DataW.trod_int Try.underlying3 g1
  simp at e0 e1
  subst e0 e1
  exact ⟨(i, j), rfl⟩
theorem open_pairs {H : Type} {enc : TypeId × Value → H} {W : World} {r : Reach} {base : Nat} {v : Value} {d : DataW H} {p : List MemPlace} (hv : Value.okWide Try.prog W r base 27 v) (h : DataW.Trod enc Try.prog W 0 (fun _ => true) true 27 v d p) :
    ∃ (A : Option Addr) (l : List (Int × Int)) (cap : Nat), v = .slice A l.length cap ∧ l.length ≤ 9223372036854775807 ∧ ChkR W W.heap.size A l := by
  obtain ⟨A, l, cap, rfl, hl, hr⟩ := open_rows (fun x : Int × Int => [.int .i64 x.1, .int .i64 x.2]) Try.underlying27 (by rw [cells_pair]; decide) el_pair hv h
  refine ⟨A, l, cap, rfl, hl, fun h0 => ?_⟩
  obtain ⟨b, off, hA, hb, hc⟩ := hr h0
  rw [cells_pair] at hc
  refine ⟨b, off, hA, hb, fun k c hk => ?_⟩
  have := hc k c hk
  exact ⟨this 0 (by decide), by have := this 1 (by decide); rwa [← Nat.add_assoc] at this⟩

/-- Is step j on the way between the two items of a check? -/
def wOn (l : List Bt) (c : Int × Int) (j : Nat) : Bool := onW l c.1 j != onW l c.2 j
theorem tg_on {n : Int} {l : List Bt} (hv : vld n l = true) {x : Int} (h0 : 0 ≤ x) (hn : x < n) (j : Nat) : ∀ {k : Nat}, k ≤ wayK l x → tgK l x k j = onK l x k j
  | 0, _ => rfl
  | k + 1, hk => by
    have ih := tg_on hv h0 hn j (k := k) (by omega)
    rw [onK_succ]
    show (tgK l x k j != (stF l (itL l x k) == (j : Int))) = _
    rw [ih]
    cases h : (stF l (itL l x k) == (j : Int))
    · cases onK l x k j <;> rfl
    · have hz : onK l x k j = false := by
        unfold onK
        rw [List.any_eq_false]
        intro m hm he
        rw [List.mem_range] at hm
        have h1 := way_down hv h0 hn (k := k) (j := m) hm (by omega)
        have h2 : stF l (itL l x m) = (j : Int) := by simpa using he
        have h3 : stF l (itL l x k) = (j : Int) := by simpa using h
        omega
      rw [hz]
      rfl
theorem onI_on {n : Int} {l : List Bt} (hv : vld n l = true) {c : Int × Int} (h1 : 0 ≤ c.1 ∧ c.1 < n) (h2 : 0 ≤ c.2 ∧ c.2 < n) (j : Nat) : onI l c 2 j = wOn l c j := by
  show ((false != tgW l c.1 j) != tgW l c.2 j) = _
  unfold tgW wOn
  rw [tg_on hv h1.1 h1.2 j (Nat.le_refl _), tg_on hv h2.1 h2.2 j (Nat.le_refl _), ← onW_eq, ← onW_eq]
  cases onW l c.1 j <;> rfl
theorem on_val (l : List Bt) (c : Int × Int) (j : Nat) (hj : j < l.length) : tog j (tog j false (selF (onW l c.1) l.length)) (selF (onW l c.2) l.length) = wOn l c j := by
  rw [tog_sel _ _ _ hj, tog_sel _ _ _ hj]
  unfold wOn
  cases onW l c.1 j <;> rfl
theorem cl_false {l : List Bt} {cs : List (Int × Int)} {fs : List Bool} {j : Nat} : ∀ {k : Nat}, clF l cs fs k j = false ↔ ∀ m, m < k → onI l (cs.getD m (0, 0)) 2 j = fs.getD m false
  | 0 => ⟨fun _ m hm => absurd hm (by omega), fun _ => rfl⟩
  | k + 1 => by
    show (clF l cs fs k j || (onI l (cs.getD k (0, 0)) 2 j != fs.getD k false)) = false ↔ _
    rw [Bool.or_eq_false_iff, cl_false (k := k)]
    constructor
    · rintro ⟨h1, h2⟩ m hm
      by_cases e : m = k
      · subst e; simpa using h2
      · exact h1 m (by omega)
    · intro h
      exact ⟨fun m hm => h m (by omega), by simpa using h k (by omega)⟩
theorem okC_at {n : Int} {cs : List (Int × Int)} (h : okC n cs = true) {k : Nat} {c : Int × Int} (hc : cs[k]? = some c) : 0 ≤ c.1 ∧ c.1 < n ∧ 0 ≤ c.2 ∧ c.2 < n := by
  unfold okC at h
  have := List.all_eq_true.1 h c (List.mem_of_getElem? hc)
  simpa using this
theorem sus_parts {n : Int} {l : List Bt} {cs : List (Int × Int)} {fs : List Bool} (h : susG n l cs fs = true) : vld n l = true ∧ cs.length = fs.length ∧ okC n cs = true := by
  unfold susG at h
  simp only [Bool.and_eq_true, decide_eq_true_eq] at h
  exact ⟨h.1, h.2.1.1, h.2.2⟩
/-- A suspect is on the way of a check exactly if it failed. -/
theorem sus_law {n : Int} {l : List Bt} {cs : List (Int × Int)} {fs : List Bool} (h : susG n l cs fs = true) {k : Nat} {c : Int × Int} (hc : cs[k]? = some c) {j : Nat} (hj : susS l cs fs j = true) : k < fs.length ∧ ∃ b, fs[k]? = some b ∧ wOn l c j = b := by
  obtain ⟨hv, hlen, hok⟩ := sus_parts h
  have hk := (List.getElem?_eq_some_iff.1 hc).1
  have ho := okC_at hok hc
  unfold susS at hj
  have h1 : clF l cs fs cs.length j = false := by simpa using hj
  have h2 := cl_false.1 h1 k hk
  rw [List.getD_eq_getElem?_getD, hc] at h2
  have hkf : k < fs.length := by omega
  refine ⟨hkf, fs[k], List.getElem?_eq_getElem hkf, ?_⟩
  rw [← onI_on hv ⟨ho.1, ho.2.1⟩ ⟨ho.2.2.1, ho.2.2.2⟩]
  have e : fs.getD k false = fs[k] := by simp [List.getD, List.getElem?_eq_getElem hkf]
  rw [← e]
  exact h2
/-- Which of the first k checks have step j on their way. -/
def ownL (l : List Bt) (cs : List (Int × Int)) (j k : Nat) : List Bool := (List.range k).map fun m => wOn l (cs.getD m (0, 0)) j
theorem own_snoc (l : List Bt) (cs : List (Int × Int)) (j k : Nat) : ownL l cs j (k + 1) = ownL l cs j k ++ [wOn l (cs.getD k (0, 0)) j] := by simp [ownL, List.range_succ]
theorem own_len (l : List Bt) (cs : List (Int × Int)) (j k : Nat) : (ownL l cs j k).length = k := by simp [ownL]
theorem own_law {n : Int} {l : List Bt} {cs : List (Int × Int)} (hv : vld n l = true) (hok : okC n cs = true) (h20 : cs.length ≤ 20) {j : Nat} (hj : j < l.length) :
    susG n l cs (ownL l cs j cs.length) = true ∧ (selF (susS l cs (ownL l cs j cs.length)) l.length).any (fun z => z == (j : Int)) = true := by
  refine ⟨?_, ?_⟩
  · unfold susG
    rw [hv, hok, own_len]
    simp
    omega
  · rw [List.any_eq_true]
    refine ⟨j, (sel_mem _ _ _).2 ⟨j, hj, ?_, rfl⟩, by simp⟩
    unfold susS
    rw [cl_false.2 fun m hm => ?_]
    · rfl
    · have hc : cs[m]? = some cs[m] := List.getElem?_eq_getElem hm
      have ho := okC_at hok hc
      have e1 : cs.getD m (0, 0) = cs[m] := by simp [List.getD, hc]
      have e2 : (ownL l cs j cs.length).getD m false = wOn l cs[m] j := by
        rw [← e1]
        simp [ownL, List.getD, hm]
      rw [e1, e2]
      exact onI_on hv ⟨ho.1, ho.2.1⟩ ⟨ho.2.2.1, ho.2.2.2⟩ j
theorem it_parts {n : Int} {l : List Bt} {x : Int} (h : itB n l x = true) : 0 ≤ x ∧ x < n := by
  unfold itB at h
  simp at h
  exact h.2
theorem it_bad {n : Int} {l : List Bt} {cs : List (Int × Int)} {fs : List Bool} {k : Nat} {c : Int × Int} (hc : cs[k]? = some c) (hv : vld n l = true) (h : itB n l c.1 = false ∨ itB n l c.2 = false) : susG n l cs fs = false := by
  cases hs : susG n l cs fs with
  | false => rfl
  | true =>
    exfalso
    obtain ⟨_, _, hok⟩ := sus_parts hs
    have ho := okC_at hok hc
    unfold itB at h
    rw [hv] at h
    simp at h
    omega
end Go.Proofs.Ytkgklmmkkhbimaa
