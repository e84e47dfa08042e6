/- The exchanged list in memory; what Run leaves of both lists. -/
import Derived.Test.YtkgklmmkkhbimaaPlainD
import Derived.Test.YtkgklmmkkhbimaaBenchU
import Derived.Deep.MidRow
namespace Go.Proofs.Ytkgklmmkkhbimaa
open Go.RowKit

/-- What Run leaves, as letters. -/
def OutO (N : Nat) (k : Int) (g h : Nat → Int × Int) (w : World) (e : Ending) (w' : World) : Prop := Below w.heap.size w w' ∧ ∃ (B : Option Addr) (c : Nat), e = .returned (.tuple #[.slice B N c, .int .i64 k]) ∧ BandsR w' w'.heap.size B N g h
theorem run_outO {n : Int} {l : List Bt} {f1 f2 e1 e2 : Int} : ∃ (N : Nat) (k : Int) (g h : Nat → Int × Int), N ≤ 40 ∧ ∀ w e w', RunP n l f1 f2 e1 e2 w e w' → OutO N k g h w e w' := by
  cases hg : runG n l f1 f2 e1 e2
  · refine ⟨0, 1, fun _ => (0, 0), fun _ => (0, 0), by omega, ?_⟩
    rintro w e w' ⟨hb, ⟨_, rfl⟩ | ⟨h, _⟩ | ⟨h, _⟩⟩
    · exact ⟨hb, none, 0, rfl, fun h => absurd h (by omega)⟩
    · rw [hg] at h; cases h
    · rw [hg] at h; cases h
  · have hn : n.toNat ≤ 40 := by
      have hg' := hg
      unfold runG at hg'
      simp only [Bool.and_eq_true] at hg'
      have := vld_len hg'.1
      omega
    cases hl : plO l (f1, f2) (fun _ => (-e1, e2)) l.length with
    | none =>
      refine ⟨0, 3, fun _ => (0, 0), fun _ => (0, 0), by omega, ?_⟩
      rintro w e w' ⟨hb, ⟨h, _⟩ | ⟨_, _, rfl⟩ | ⟨_, g, h, _, _, h1, _⟩⟩
      · rw [hg] at h; cases h
      · exact ⟨hb, none, 0, rfl, fun h => absurd h (by omega)⟩
      · rw [hl] at h1; cases h1
    | some g =>
      cases hh : plO l (f1, f2) (fun _ => (e1, e2)) l.length with
      | none =>
        refine ⟨0, 3, fun _ => (0, 0), fun _ => (0, 0), by omega, ?_⟩
        rintro w e w' ⟨hb, ⟨h, _⟩ | ⟨_, _, rfl⟩ | ⟨_, g, h, _, _, _, h1, _⟩⟩
        · rw [hg] at h; cases h
        · exact ⟨hb, none, 0, rfl, fun h => absurd h (by omega)⟩
        · rw [hh] at h1; cases h1
      | some h =>
        refine ⟨n.toNat, 0, g, h, hn, ?_⟩
        rintro w e w' ⟨hb, ⟨h', _⟩ | ⟨_, h', _⟩ | ⟨_, g', h', A, c, h1, h2, rfl, hB⟩⟩
        · rw [hg] at h'; cases h'
        · rcases h' with h' | h'
          · rw [hl] at h'; cases h'
          · rw [hh] at h'; cases h'
        · rw [hl] at h1
          rw [hh] at h2
          obtain rfl := Option.some.inj h1
          obtain rfl := Option.some.inj h2
          exact ⟨hb, A, c, rfl, hB⟩
theorem bands_sameO (N : Nat) (g h : Nat → Int × Int) (hN : N ≤ 40) (A B : Option Addr) (c d : Nat) (w : World) (hx : BandsR w w.heap.size A N g h) (hy : BandsR w w.heap.size B N g h) :
    Calls Try.prog 16 #[.slice A N c, .slice B N d] w (Ret (.bool true) w) := by
  have h1 := SameBands_c N N g h g h A B c d w hx hy (by omega) (by omega)
  rw [show sameB N N g h g h = true by simp [sameB]] at h1
  exact h1
theorem run_swap {n : Int} {l : List Bt} {i : Nat} (hi : i + 1 < l.length) (hv : vld n l = true) (hne : (l.getD (i + 1) default).fr ≠ (l.getD i default).to) {f1 f2 e1 e2 : Int} {w : World} {e : Ending} {w' : World}
    (h : RunP n (swapL l i) f1 f2 e1 e2 w e w') : RunP n l f1 f2 e1 e2 w e w' := by
  obtain ⟨p1, p2⟩ := swap_law hi hv hne (f1, f2) (-e1, e2)
  obtain ⟨_, p3⟩ := swap_law hi hv hne (f1, f2) (e1, e2)
  unfold RunP runG at h ⊢
  rw [swapL_len, p1, p2, p3] at h
  rw [hv]
  exact h

/-- The cells of a list of steps. -/
def btC (x : Bt) : List Value := [.int .i64 x.fr, .int .i64 x.to, .int .i64 x.p, .int .i64 x.q, .int .i64 x.rn, .int .i64 x.rd, .bool x.ab]
def btL (l : List Bt) : List Value := l.flatMap btC
theorem btL_len : ∀ l : List Bt, (btL l).length = l.length * 7
  | [] => rfl
  | x :: l => by
    show (btC x ++ btL l).length = _
    rw [List.length_append, btL_len l]
    simp [btC]
    omega
theorem btL_get : ∀ {l : List Bt} {k : Nat} {x : Bt} {t : Nat}, l[k]? = some x → t < 7 → (btL l)[k * 7 + t]? = (btC x)[t]?
  | [], k, x, t, h, _ => by simp at h
  | y :: l, 0, x, t, h, ht => by
    obtain rfl : y = x := by simpa using h
    show (btC y ++ btL l)[0 * 7 + t]? = _
    rw [Nat.zero_mul, Nat.zero_add, List.getElem?_append_left (by simpa [btC] using ht)]
  | y :: l, k + 1, x, t, h, ht => by
    show (btC y ++ btL l)[(k + 1) * 7 + t]? = _
    have hy : (btC y).length = 7 := rfl
    rw [List.getElem?_append_right (by omega), hy, show (k + 1) * 7 + t - 7 = k * 7 + t by omega]
    exact btL_get (by simpa using h) ht
theorem seven {t : Nat} (h : t < 7) : t = 0 ∨ t = 1 ∨ t = 2 ∨ t = 3 ∨ t = 4 ∨ t = 5 ∨ t = 6 := by omega
theorem bt_of {w : World} {b o : Nat} {x : Bt} (h : ∀ t, t < 7 → w.cell? ⟨b, o + t, none⟩ = (btC x)[t]?) : BtAt w b o x :=
  ⟨h 0 (by omega), h 1 (by omega), h 2 (by omega), h 3 (by omega), h 4 (by omega), h 5 (by omega), h 6 (by omega)⟩
theorem bt_at {w : World} {b o : Nat} {x : Bt} (h : BtAt w b o x) {t : Nat} (ht : t < 7) : w.cell? ⟨b, o + t, none⟩ = (btC x)[t]? := by
  obtain ⟨h0, h1, h2, h3, h4, h5, h6⟩ := h
  rcases seven ht with rfl | rfl | rfl | rfl | rfl | rfl | rfl
  · exact h0
  · exact h1
  · exact h2
  · exact h3
  · exact h4
  · exact h5
  · exact h6
theorem btL_src {w : World} {b o : Nat} {l : List Bt} (h : ∀ i x, l[i]? = some x → BtAt w b (o + i * 7) x) : ∀ (j : Nat) (u : Value), (btL l)[j]? = some u → w.cell? ((⟨b, o, none⟩ : Addr).add j) = some u := by
  intro j u hj
  have hlt : j < l.length * 7 := by
    rw [← btL_len]
    exact (List.getElem?_eq_some_iff.1 hj).1
  have hk : j / 7 < l.length := by omega
  have hx : l[j / 7]? = some (l[j / 7]'hk) := List.getElem?_eq_getElem _
  have ht : j % 7 < 7 := by omega
  have e : j / 7 * 7 + j % 7 = j := by omega
  have h1 := btL_get hx ht
  rw [e, hj] at h1
  have hadd : (⟨b, o, none⟩ : Addr).add j = ⟨b, o + j / 7 * 7 + j % 7, none⟩ := by
    rw [show o + j / 7 * 7 + j % 7 = o + j by omega]
    unfold Addr.add
    split
    · rename_i h; subst h; rfl
    · simp
  rw [hadd, bt_at (h _ _ hx) ht, ← h1]
theorem btL_one {l : List Bt} : ∀ u ∈ btL l, u.oneCell' = true := by
  intro u hu
  obtain ⟨x, _, hx⟩ := List.mem_flatMap.1 hu
  simp only [btC, List.mem_cons, List.not_mem_nil, or_false] at hx
  rcases hx with rfl | rfl | rfl | rfl | rfl | rfl | rfl <;> rfl
theorem btC_one (x : Bt) : (btC x).toArray.all (·.oneCell') = true := all_oneCell_toArray (fun u hx => by
  simp only [btC, List.mem_cons, List.not_mem_nil, or_false] at hx
  rcases hx with rfl | rfl | rfl | rfl | rfl | rfl | rfl <;> rfl)
theorem blk_far {g g' : Nat} {T : TypeId} {cs : Array Value} (hne : g' ≠ g) : ∀ (vs : List Value) (o : Nat) (w : World), Blk w g' T cs → Blk (w.setCells g o vs) g' T cs
  | [], _, _, h => h
  | v :: vs, o, _, h => blk_far hne vs (o + 1) _ (h.far (p := ⟨g, o, none⟩) hne v)
/-- Step k set to x. -/
def setBt (cur : Array Value) (k : Nat) (x : Bt) : Array Value :=
  ((((((cur.setIfInBounds (k * 7) (.int .i64 x.fr)).setIfInBounds (k * 7 + 1) (.int .i64 x.to)).setIfInBounds (k * 7 + 2) (.int .i64 x.p)).setIfInBounds (k * 7 + 3) (.int .i64 x.q)).setIfInBounds (k * 7 + 4) (.int .i64 x.rn)).setIfInBounds (k * 7 + 5) (.int .i64 x.rd)).setIfInBounds (k * 7 + 6) (.bool x.ab)
theorem setBt_size (cur : Array Value) (k : Nat) (x : Bt) : (setBt cur k x).size = cur.size := by simp [setBt]
theorem setBt_ne {cur : Array Value} {k j t : Nat} {x : Bt} (h : j ≠ k) (ht : t < 7) : (setBt cur k x)[j * 7 + t]? = cur[j * 7 + t]? := by
  unfold setBt
  simp only [Array.getElem?_setIfInBounds]
  rw [if_neg (by omega), if_neg (by omega), if_neg (by omega), if_neg (by omega), if_neg (by omega), if_neg (by omega), if_neg (by omega)]
theorem setBt_eq {cur : Array Value} {k t : Nat} {x : Bt} (hs : k * 7 + 6 < cur.size) (ht : t < 7) : (setBt cur k x)[k * 7 + t]? = (btC x)[t]? := by
  unfold setBt
  simp only [Array.getElem?_setIfInBounds, Array.size_setIfInBounds]
  have h0 : k * 7 < cur.size := by omega
  have h1 : k * 7 + 1 < cur.size := by omega
  have h2 : k * 7 + 2 < cur.size := by omega
  have h3 : k * 7 + 3 < cur.size := by omega
  have h4 : k * 7 + 4 < cur.size := by omega
  have h5 : k * 7 + 5 < cur.size := by omega
  rcases seven ht with rfl | rfl | rfl | rfl | rfl | rfl | rfl <;> simp [btC, h0, h1, h2, h3, h4, h5, hs]
theorem blk_setBt {w : World} {g : Nat} {T : TypeId} {cur : Array Value} (h : Blk w g T cur) (k : Nat) (x : Bt) : Blk (w.setCells g (k * 7) (btC x)) g T (setBt cur k x) :=
  ((((((h.set_ (k * 7) (.int .i64 x.fr)).set_ (k * 7 + 1) (.int .i64 x.to)).set_ (k * 7 + 2) (.int .i64 x.p)).set_ (k * 7 + 3) (.int .i64 x.q)).set_ (k * 7 + 4) (.int .i64 x.rn)).set_ (k * 7 + 5) (.int .i64 x.rd)).set_ (k * 7 + 6) (.bool x.ab)
theorem bl_setCells {B g : Nat} {w : World} (hg : B ≤ g) : ∀ (vs : List Value) (o : Nat) (w1 : World), Below B w w1 → Below B w (w1.setCells g o vs)
  | [], _, _, h => h
  | v :: vs, o, w1, h => bl_setCells hg vs (o + 1) _ (h.setCell (p := ⟨g, o, none⟩) hg v)
theorem there_of {w : World} {g : Nat} {T : TypeId} {cur : Array Value} (h : Blk w g T cur) {k L : Nat} (hk : k < L) (hs : L * 7 ≤ cur.size) : w.there g (k * 7) 7 := fun j hj => by
  refine ⟨?_, h.frozen _⟩
  rw [h.cell, Array.getElem?_eq_getElem (by omega)]
  rfl
theorem cur_get {cur : Array Value} {l : List Bt} (hc : cur.toList.take (l.length * 7) = btL l) {k t : Nat} {x : Bt} (hk : l[k]? = some x) (ht : t < 7) : cur[k * 7 + t]? = (btC x)[t]? := by
  have hkl := (List.getElem?_eq_some_iff.1 hk).1
  rw [← btL_get hk ht, ← hc, List.getElem?_take_of_lt (by omega)]
  simp
theorem lst_swap {W : World} {g i : Nat} {l : List Bt} {cur : Array Value} (hi : i + 1 < l.length) (hc : cur.toList.take (l.length * 7) = btL l)
    (hB : Blk W g 49 (setBt (setBt cur i (l.getD (i + 1) default)) (i + 1) (l.getD i default))) : Lst W W.heap.size (some ⟨g, 0, none⟩) (swapL l i) := fun _ => by
  have hlen : l.length * 7 ≤ cur.size := by
    have := congrArg List.length hc
    rw [btL_len, List.length_take] at this
    have h2 : cur.toList.length = cur.size := rfl
    omega
  have hcur : ∀ {k t : Nat} {x : Bt}, l[k]? = some x → t < 7 → cur[k * 7 + t]? = (btC x)[t]? := fun {k t x} hk ht => by
    have hkl := (List.getElem?_eq_some_iff.1 hk).1
    rw [← btL_get hk ht, ← hc, List.getElem?_take_of_lt (by omega)]
    simp
  refine ⟨g, 0, rfl, hB.lt, fun j x hx => bt_of fun t ht => ?_⟩
  rw [Nat.zero_add]
  refine (hB.cell _).trans ?_
  unfold swapL at hx
  rw [List.getElem?_set] at hx
  by_cases h1 : i + 1 = j
  · subst h1
    rw [if_pos rfl, if_pos (by simpa using hi)] at hx
    obtain rfl := Option.some.inj hx
    exact setBt_eq (by rw [setBt_size]; omega) ht
  · rw [if_neg h1, List.getElem?_set] at hx
    rw [setBt_ne (by omega) ht]
    by_cases h2 : i = j
    · subst h2
      rw [if_pos rfl, if_pos (by omega)] at hx
      obtain rfl := Option.some.inj hx
      exact setBt_eq (by omega) ht
    · rw [if_neg h2] at hx
      rw [setBt_ne (by omega) ht]
      exact hcur hx ht
end Go.Proofs.Ytkgklmmkkhbimaa
