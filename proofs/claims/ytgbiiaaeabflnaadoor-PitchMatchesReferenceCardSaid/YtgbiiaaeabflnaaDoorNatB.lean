/- Natural: product. -/
import Derived.Test.YtgbiiaaeabflnaaDoorNatA
import Derived.OwnWalk
namespace Go.Proofs.YtgbiiaaeabflnaaDoor
open Go.RowKit

/-- The cells of N limbs. -/
def arrN (c : Nat → Nat) (N : Nat) : Array Value := ((List.range N).map fun i => Value.int .u32 (c i : Int)).toArray
theorem arrN_zero (N : Nat) : arrN (fun _ => 0) N = Array.replicate N (.int .u32 0) := by
  apply Array.ext <;> simp [arrN]
theorem arrN_get (c : Nat → Nat) (N : Nat) {x : Nat} (h : x < N) : (arrN c N)[x]? = some (.int .u32 (c x : Int)) := by
  simp [arrN, h]
theorem arrN_set (c : Nat → Nat) (N k v : Nat) : (arrN c N).setIfInBounds k (.int .u32 (v : Int)) = arrN (upd c k v) N := by
  apply Array.ext
  · simp [arrN]
  · intro i h1 h2
    have hi : i < N := by simpa [arrN] using h2
    rw [Array.getElem_setIfInBounds (by simpa [arrN] using hi)]
    simp only [arrN, List.getElem_toArray, List.getElem_map, List.getElem_range]
    by_cases hk : k = i
    · subst hk; simp [upd]
    · simp [upd, hk, Ne.symm hk]
theorem Blk.nat {w : World} {g N : Nat} {t : TypeId} {c : Nat → Nat} (h : Blk w g t (arrN c N)) : NatAt w w.heap.size g c N := ⟨h.lt, fun i hi => (h.cell i).trans (arrN_get c N hi)⟩
theorem made_oneN (z : Value) (N : Nat) : madeCells #[z] N = Array.replicate N z := by
  apply Array.ext
  · simp [madeCells]
  · intro i h1 h2
    simp [madeCells, Nat.mod_one]
theorem Tryd.infoU32 : (Tryd.prog.info? 57).map (fun i => (i.zero, i.size, i.bytes)) = some (some (.int .u32 0), 1, 4) := by kernel_rfl
theorem make_limbs (N : Nat) (h : N ≤ 1000000) (W : World) : (Instr.makeSlice 45 (.int .i64 (N : Int)) (.int .i64 (N : Int))).run Tryd.prog W = .ok (.slice (some ⟨W.heap.size, 0, none⟩) N N) (W.alloc (.cells (arrN (fun _ => 0) N) 57)) := by
  rw [arrN_zero]
  obtain ⟨i, hi, hz0, hz1, hz2⟩ := info_parts Tryd.infoU32
  have := run_make (P := Tryd.prog) (w := W) 45 57 i (.int .u32 0) Tryd.underlying45 hi hz0 .i64 .i64 (N : Int) (N : Int) (by omega) (by omega) (by rw [hz2]; omega) (by omega)
  rw [this, hz1]
  simp only [Int.toNat_natCast, Nat.mul_one]
  rw [show (Value.int IntKind.u32 0).cells = #[.int .u32 0] from rfl, made_oneN]
/-- The state of the product after k rows. -/
structure Rows_ (fa fb : Nat → Nat) (N m k : Nat) (c : Nat → Nat) : Prop where
  lt : ∀ i, i < N → c i < 4294967296
  val : nvF c N = nvF fa k * nvF fb m
  zero : ∀ i, k + m ≤ i → i < N → c i = 0
/-- The state within row k, after l columns. -/
structure Cols_ (fa fb : Nat → Nat) (N m k l q : Nat) (c : Nat → Nat) : Prop where
  lt : ∀ i, i < N → c i < 4294967296
  car : q < 4294967296
  val : nvF c N + q * 4294967296 ^ (k + l) = nvF fa k * nvF fb m + fa k * nvF fb l * 4294967296 ^ k
  zero : ∀ i, k + m ≤ i → i < N → c i = 0
theorem upd_lt {c : Nat → Nat} {N k v : Nat} (h : ∀ i, i < N → c i < 4294967296) (hv : v < 4294967296) : ∀ i, i < N → upd c k v i < 4294967296 := fun i hi => by
  unfold upd
  split
  · exact hv
  · exact h i hi
theorem Cols_.start {fa fb c : Nat → Nat} {N m k : Nat} (h : Rows_ fa fb N m k c) : Cols_ fa fb N m k 0 0 c := ⟨h.lt, by omega, by rw [h.val]; show _ = _ + fa k * 0 * _; rw [Nat.mul_zero, Nat.zero_mul, Nat.zero_mul], h.zero⟩
theorem Cols_.step {fa fb c : Nat → Nat} {N m k l q : Nat} (h : Cols_ fa fb N m k l q c) (hl : l < m) (hN : k + m ≤ N) (ha : fa k < 4294967296) (hb : fb l < 4294967296) :
    Cols_ fa fb N m k (l + 1) ((fa k * fb l + c (k + l) + q) / 4294967296) (upd c (k + l) ((fa k * fb l + c (k + l) + q) % 4294967296)) := by
  obtain ⟨h1, h2, h3, h4⟩ := h
  obtain ⟨f1, f2⟩ := prod_fit ha hb (h1 (k + l) (by omega)) h2
  exact ⟨upd_lt h1 (Nat.mod_lt _ (by omega)), f2, prod_step (by omega) rfl h3, fun i hi hi2 => (upd_other c _ (by omega)).trans (h4 i hi hi2)⟩
theorem Cols_.done {fa fb c : Nat → Nat} {N m k q : Nat} (h : Cols_ fa fb N m k m q c) (hN : k + m < N) : Rows_ fa fb N m (k + 1) (upd c (k + m) q) := by
  obtain ⟨h1, h2, h3, h4⟩ := h
  exact ⟨upd_lt h1 h2, prod_row hN (h4 _ (by omega) hN) h3, fun i hi hi2 => (upd_other c _ (by omega)).trans (h4 i (by omega) hi2)⟩

/-- What product leaves. -/
def NumP (x : Nat) (w : World) (e : Ending) (w' : World) : Prop := Below w.heap.size w w' ∧ ∃ b n, w.heap.size ≤ b ∧ e = .returned (.slice (some ⟨b, 0, none⟩) n n) ∧ Num w' w'.heap.size b n x ∧ n ≤ 640
set_option maxRecDepth 100000 in
set_option maxHeartbeats 4000000 in
theorem product_c (ba bb n m x y ca cb : Nat) (w : World) (ha : Num w w.heap.size ba n x) (hb : Num w w.heap.size bb m y) (hn : n ≤ 640) (hm : m ≤ 640) (hxy : x * y < Cap) :
    Calls Tryd.prog 57 #[.slice (some ⟨ba, 0, none⟩) n ca, .slice (some ⟨bb, 0, none⟩) m cb] w (NumP (x * y) w) := by
  obtain ⟨fa, ⟨ha0, hac⟩, hA⟩ := ha
  obtain ⟨fb, ⟨hb0, hbc⟩, hB⟩ := hb
  have HA := Lib.hid hac
  have HB := Lib.hid hbc
  have LA := Lib.hid hA.lt
  have LB := Lib.hid hB.lt
  have hv : nvF fa n * nvF fb m = x * y := by rw [hA.val, hB.val]
  have HV := Lib.hid hv
  have HS := Lib.hid hxy
  clear hac hbc hA hB hv hxy
  have hmk := make_limbs (n + m) (by omega)
  rw [show ((n + m : Nat) : Int) = (n : Int) + m by omega] at hmk
  have HR0 : Hid (Rows_ fa fb (n + m) m 0 (fun _ => 0)) := Lib.hid ⟨fun _ _ => by omega, by rw [nvF_zero fun _ _ => rfl]; show _ = 0 * _; rw [Nat.zero_mul], fun _ _ _ => rfl⟩
  go_enter Tryd.func57, Tryd.ntmps57
  go_wp2
  go_loopw [20] (fun i wr => ∃ (k : Nat) (c : Nat → Nat), k ≤ n ∧ i = .int .i64 k ∧ Hid (Blk wr w.heap.size 57 (arrN c (n + m))) ∧ Below w.heap.size w wr ∧ Hid (Rows_ fa fb (n + m) m k c)) (fun i _ => n - (intOf i).toNat)
  case atStart =>
    refine ⟨0, fun _ => 0, Nat.zero_le _, rfl, Lib.hid (Blk.new _ _ _), ?_, HR0⟩
    (repeat (first | (with_reducible exact bl_refl _) | (with_reducible refine bl_drew ?_) | (with_reducible refine bl_alloc ?_ _) | (with_reducible refine bl_set' ?_ ?_; · (first | omega | (simp; done) | (simp; omega))) | (with_reducible refine bl_last (by assumption) ?_) | (with_reducible refine bl_drewN ?_ _)))
  case round =>
    obtain ⟨k, c, hk, rfl, HBl, hbw, HR⟩ := hrel
    have hz : w.heap.size < wr.heap.size := HBl.out.lt
    by_cases hlt : k < n
    · have c1 := (hbw.cell (p := ⟨ba, k, none⟩) ha0).trans (HA.out k hlt)
      have z1 : ba < wr.heap.size := by omega
      go_wp2
      obtain ⟨w0, hw0⟩ : ∃ w0 : World, w0 = wr := ⟨_, rfl⟩
      subst hw0
      have hAk := LA.out k hlt
      have HC0 := Lib.hid (Cols_.start HR.out)
      clear c1 z1 hz
      go_loopw [8, 27] (fun u j wj => ∃ (l q : Nat) (d : Nat → Nat), l ≤ m ∧ j = .int .i64 l ∧ u = .int .u64 q ∧ Hid (Blk wj w.heap.size 57 (arrN d (n + m))) ∧ Below w.heap.size w wj ∧ Hid (Cols_ fa fb (n + m) m k l q d)) (fun _ j _ => m - (intOf j).toNat)
      case atStart => exact ⟨0, 0, c, Nat.zero_le _, rfl, rfl, HBl, hbw, HC0⟩
      case round =>
        clear HBl hbw HR HC0
        obtain ⟨l, q, d, hl, rfl, rfl, HBl, hbw, HC⟩ := hrel
        have hz : w.heap.size < wr.heap.size := HBl.out.lt
        by_cases hlm : l < m
        · have c1 := (hbw.cell (p := ⟨bb, l, none⟩) hb0).trans (HB.out l hlm)
          have c2 := (HBl.out.cell (k + l)).trans (arrN_get d (n + m) (by omega))
          have c3 := HBl.out.frozen (k + l)
          have z1 : bb < wr.heap.size := by omega
          have hBl := LB.out l hlm
          have hd := HC.out.lt (k + l) (by omega)
          have hq := HC.out.car
          have HCS := Lib.hid (HC.out.step hlm (by omega) hAk hBl)
          have hkl : (k + l : Nat) < n + m := by omega
          obtain ⟨ft, fq⟩ := prod_fit hAk hBl hd hq
          have HBs := fun v => Lib.hid ((HBl.out.set_ (k + l) (.int .u32 ((v : Nat) : Int))).trans (by rw [arrN_set]))
          generalize fa k = X at *
          generalize fb l = Y at *
          generalize d (k + l) = C at *
          go_wp2
          have e1 : (((X : Int) * Y + C + q) % 4294967296) = (((X * Y + C + q) % 4294967296 : Nat) : Int) := by simp
          have e2 : (((X : Int) * Y + C + q) / 4294967296) = (((X * Y + C + q) / 4294967296 : Nat) : Int) := by simp
          rw [e1, e2]
          go_roundw
          case rel =>
            refine ⟨l + 1, _, _, by omega, by go_num, rfl, HBs _, ?_, HCS⟩
            exact hbw.setCell (p := ⟨w.heap.size, k + l, none⟩) (by show w.heap.size ≤ w.heap.size; omega) _
          case measure => simp [intOf]; omega
        · obtain rfl : l = m := by omega
          have c3 := HBl.out.frozen (k + l)
          have c2 := (HBl.out.cell (k + l)).trans (arrN_get d (n + l) (by omega))
          have hq := HC.out.car
          have hkl : (k + l : Nat) < n + l := by omega
          have HCS := Lib.hid (HC.out.done hkl)
          have HBs := Lib.hid ((HBl.out.set_ (k + l) (.int .u32 (q : Int))).trans (by rw [arrN_set]))
          generalize d (k + l) = C at *
          go_wp2
          go_roundw
          case rel =>
            refine ⟨k + 1, _, by omega, by go_num, HBs, ?_, HCS⟩
            exact hbw.setCell (p := ⟨w.heap.size, k + l, none⟩) (by show w.heap.size ≤ w.heap.size; omega) _
          case measure => simp [intOf]; omega
    · obtain rfl : k = n := by omega
      have hval : nvF c (k + m) = x * y := by rw [HR.out.val]; exact HV.out
      have HF := Lib.hid (form_c c (k + m) (k + m) w.heap.size wr HBl.out.nat (Nat.le_refl _) (by omega) HR.out.lt (by rw [hval]; exact HS.out))
      have HVV := Lib.hid hval
      clear hval
      go_wp2_with (go_at_call 58; ((with_reducible refine (HF.out).mono ?_); rintro e w' ⟨n', hn', rfl, rfl, hI⟩))
      go_ret
      rw [HVV.out] at hI
      exact ⟨hbw, w.heap.size, n', Nat.le_refl _, rfl, ⟨c, ⟨HBl.out.lt, fun i hi => HBl.out.nat.2 i (by omega)⟩, hI⟩, cap_len hI HS.out⟩
end Go.Proofs.YtgbiiaaeabflnaaDoor
