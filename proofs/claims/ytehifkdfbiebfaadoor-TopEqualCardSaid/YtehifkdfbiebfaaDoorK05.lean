/- Natural: limbs as data, and their value. Natural: product. -/
import Derived.Test.YtehifkdfbiebfaaDoorK00
import Derived.Test.YtehifkdfbiebfaaDoorK03
import Derived.OwnWalk
namespace Go.Proofs.YtehifkdfbiebfaaDoor
open Go.RowKit

/-- The value of the first n limbs. -/
def nvF (f : Nat → Nat) : Nat → Nat
  | 0 => 0
  | n + 1 => nvF f n + f n * 4294967296 ^ n
def upd (f : Nat → Nat) (i v : Nat) : Nat → Nat := fun j => if j = i then v else f j
theorem upd_same (f : Nat → Nat) (i v : Nat) : upd f i v i = v := by simp [upd]
theorem upd_other (f : Nat → Nat) {i j : Nat} (v : Nat) (h : j ≠ i) : upd f i v j = f j := by simp [upd, h]
theorem nvF_congr {f g : Nat → Nat} {n : Nat} (h : ∀ i, i < n → f i = g i) : nvF f n = nvF g n := by
  induction n with
  | zero => rfl
  | succ n ih =>
    show nvF f n + f n * _ = nvF g n + g n * _
    rw [ih fun i hi => h i (by omega), h n (by omega)]
theorem nvF_lt {f : Nat → Nat} {n : Nat} (h : ∀ i, i < n → f i < 4294967296) : nvF f n < 4294967296 ^ n := by
  induction n with
  | zero => exact Nat.one_pos
  | succ n ih =>
    show nvF f n + f n * _ < _
    have h1 := ih fun i hi => h i (by omega)
    have h2 := h n (by omega)
    have h3 : (f n + 1) * 4294967296 ^ n ≤ 4294967296 * 4294967296 ^ n := Nat.mul_le_mul_right _ h2
    rw [Nat.pow_succ, Nat.mul_comm (4294967296 ^ n)]
    rw [Nat.add_mul, Nat.one_mul] at h3
    omega
theorem nvF_set {f : Nat → Nat} {n i : Nat} (v : Nat) (h : i < n) : nvF (upd f i v) n + f i * 4294967296 ^ i = nvF f n + v * 4294967296 ^ i := by
  induction n with
  | zero => omega
  | succ n ih =>
    show nvF (upd f i v) n + upd f i v n * _ + _ = nvF f n + f n * _ + _
    by_cases hi : i = n
    · subst hi
      rw [upd_same, nvF_congr (f := upd f i v) (g := f) fun j hj => upd_other f v (by omega)]
      omega
    · rw [upd_other f v (Ne.symm hi)]
      have := ih (by omega)
      omega
theorem nvF_zero {f : Nat → Nat} {n : Nat} (h : ∀ i, i < n → f i = 0) : nvF f n = 0 := by
  induction n with
  | zero => rfl
  | succ n ih =>
    show nvF f n + f n * _ = 0
    rw [ih fun i hi => h i (by omega), h n (by omega), Nat.zero_mul]
theorem nvF_ge {f : Nat → Nat} {n : Nat} (h : f n ≠ 0) : 4294967296 ^ n ≤ nvF f (n + 1) := by
  show _ ≤ nvF f n + f n * _
  have : 1 * 4294967296 ^ n ≤ f n * 4294967296 ^ n := Nat.mul_le_mul_right _ (by omega)
  omega
theorem nvF_tail {f g : Nat → Nat} {m : Nat} : ∀ {n : Nat}, m ≤ n → (∀ i, m ≤ i → i < n → f i = g i) → nvF f n + nvF g m = nvF g n + nvF f m
  | 0, hm, _ => by obtain rfl : m = 0 := by omega
                   rfl
  | n + 1, hm, h => by
    by_cases e : m = n + 1
    · subst e; omega
    · have := nvF_tail (f := f) (g := g) (m := m) (n := n) (by omega) fun i h1 h2 => h i h1 (by omega)
      show nvF f n + f n * _ + _ = nvF g n + g n * _ + _
      rw [h n (by omega) (by omega)]
      omega
/-- The first n limbs of f are the natural number x, in its form. -/
structure IsN (f : Nat → Nat) (n x : Nat) : Prop where
  lt : ∀ i, i < n → f i < 4294967296
  val : nvF f n = x
  top : ∀ k, n = k + 1 → f k ≠ 0
theorem isN_lt {f : Nat → Nat} {n x : Nat} (h : IsN f n x) : x < 4294967296 ^ n := by rw [← h.val]; exact nvF_lt h.lt
theorem isN_ge {f : Nat → Nat} {n x : Nat} (h : IsN f (n + 1) x) : 4294967296 ^ n ≤ x := by rw [← h.val]; exact nvF_ge (h.top n rfl)
theorem isN_len {f : Nat → Nat} {n x k : Nat} (h : IsN f n x) (hx : x < 4294967296 ^ k) : n ≤ k := by
  rcases n with _ | n
  · omega
  · have h1 := Nat.lt_of_le_of_lt (isN_ge h) hx
    have := (Nat.pow_lt_pow_iff_right (by omega : 1 < 4294967296)).1 h1
    omega
/-- One more than the greatest number of at most so many digits; of 640. -/
def capOf (k : Nat) : Nat := 4294967296 ^ k
def Cap : Nat := capOf 640
theorem cap_is : ∃ k, k = 640 ∧ Cap = 4294967296 ^ k := ⟨640, rfl, by unfold Cap capOf; rfl⟩
theorem cap_len {f : Nat → Nat} {n x : Nat} (h : IsN f n x) (hx : x < Cap) : n ≤ 640 := by
  obtain ⟨c, hc, e⟩ := cap_is
  rw [e] at hx
  have := isN_len h hx
  omega
theorem isN_short {f g : Nat → Nat} {n m x y : Nat} (h : IsN f n x) (k : IsN g m y) (hl : n < m) : x < y := by
  obtain ⟨m, rfl⟩ : ∃ j, m = j + 1 := ⟨m - 1, by omega⟩
  have h1 := isN_lt h
  have h2 := isN_ge k
  have h3 : 4294967296 ^ n ≤ 4294967296 ^ m := Nat.pow_le_pow_right (by omega) (by omega)
  omega
theorem isN_less {f g : Nat → Nat} {n x y k : Nat} (h : IsN f n x) (h' : IsN g n y) (hk : k < n) (he : ∀ i, k + 1 ≤ i → i < n → f i = g i) (hl : f k < g k) : x < y := by
  have ht := nvF_tail (f := f) (g := g) (m := k + 1) (n := n) (by omega) he
  rw [h.val, h'.val] at ht
  have h1 : nvF f (k + 1) < nvF g (k + 1) := by
    show nvF f k + f k * _ < nvF g k + g k * _
    have h2 := nvF_lt (f := f) (n := k) fun i hi => h.lt i (by omega)
    have h3 : (f k + 1) * 4294967296 ^ k ≤ g k * 4294967296 ^ k := Nat.mul_le_mul_right _ hl
    rw [Nat.add_mul, Nat.one_mul] at h3
    omega
  omega
theorem isN_same {f g : Nat → Nat} {n x y : Nat} (h : IsN f n x) (h' : IsN g n y) (he : ∀ i, i < n → f i = g i) : x = y := by
  rw [← h.val, ← h'.val]
  exact nvF_congr he
theorem isN_nil (f : Nat → Nat) : IsN f 0 0 := ⟨fun i h => by omega, rfl, fun k h => by omega⟩
/-- Limbs without zeros at the end. -/
theorem isN_mk {f : Nat → Nat} {n N : Nat} (hn : n ≤ N) (hl : ∀ i, i < N → f i < 4294967296) (hv : nvF f n = nvF f N) (ht : ∀ k, n = k + 1 → f k ≠ 0) : IsN f n (nvF f N) := ⟨fun i hi => hl i (by omega), hv, ht⟩

/-- One step of a row of the product. -/
theorem prod_step {c fb : Nat → Nat} {N V x i j q y : Nat} (hN : i + j < N) (hy : fb j = y) (hI : nvF c N + q * 4294967296 ^ (i + j) = V + x * nvF fb j * 4294967296 ^ i) :
    nvF (upd c (i + j) ((x * y + c (i + j) + q) % 4294967296)) N + (x * y + c (i + j) + q) / 4294967296 * 4294967296 ^ (i + (j + 1)) = V + x * nvF fb (j + 1) * 4294967296 ^ i := by
  have hs := nvF_set (f := c) ((x * y + c (i + j) + q) % 4294967296) hN
  have hm := Nat.mod_add_div (x * y + c (i + j) + q) 4294967296
  generalize (x * y + c (i + j) + q) % 4294967296 = r at *
  generalize (x * y + c (i + j) + q) / 4294967296 = d at *
  have e1 : d * 4294967296 ^ (i + (j + 1)) = 4294967296 * d * 4294967296 ^ (i + j) := by
    rw [show i + (j + 1) = (i + j) + 1 by omega, Nat.pow_succ]
    grind
  have e2 : x * nvF fb (j + 1) * 4294967296 ^ i = x * nvF fb j * 4294967296 ^ i + x * y * 4294967296 ^ (i + j) := by
    show x * (nvF fb j + fb j * 4294967296 ^ j) * _ = _
    rw [hy, Nat.pow_add]
    grind
  rw [e1, e2]
  have e3 : (r + 4294967296 * d) * 4294967296 ^ (i + j) = (x * y + c (i + j) + q) * 4294967296 ^ (i + j) := by rw [hm]
  rw [Nat.add_mul, Nat.add_mul, Nat.add_mul] at e3
  omega
/-- The end of a row of the product. -/
theorem prod_row {c fa fb : Nat → Nat} {N i m q : Nat} (hN : i + m < N) (hz : c (i + m) = 0) (hI : nvF c N + q * 4294967296 ^ (i + m) = nvF fa i * nvF fb m + fa i * nvF fb m * 4294967296 ^ i) :
    nvF (upd c (i + m) q) N = nvF fa (i + 1) * nvF fb m := by
  have hs := nvF_set (f := c) q hN
  rw [hz, Nat.zero_mul] at hs
  show _ = (nvF fa i + fa i * 4294967296 ^ i) * nvF fb m
  rw [Nat.add_mul]
  have : fa i * 4294967296 ^ i * nvF fb m = fa i * nvF fb m * 4294967296 ^ i := by grind
  omega
/-- The step's sum fits 64 bits. -/
theorem prod_fit {x y c q : Nat} (h1 : x < 4294967296) (h2 : y < 4294967296) (h3 : c < 4294967296) (h4 : q < 4294967296) : x * y + c + q < 18446744073709551616 ∧ (x * y + c + q) / 4294967296 < 4294967296 := by
  have : x * y ≤ 4294967295 * 4294967295 := Nat.mul_le_mul (by omega) (by omega)
  omega

/-- The limbs f 0 .. f (n - 1) lie in block b, which lies below B. -/
def NatAt (w : World) (B b : Nat) (f : Nat → Nat) (n : Nat) : Prop := b < B ∧ ∀ i, i < n → w.cell? ⟨b, i, none⟩ = some (.int .u32 (f i : Int))
/-- The natural number x lies in block b, in n limbs. -/
def Num (w : World) (B b n x : Nat) : Prop := ∃ f, NatAt w B b f n ∧ IsN f n x
theorem NatAt.below {w w' : World} {B b n : Nat} {f : Nat → Nat} (h : NatAt w B b f n) (hb : Below B w w') : NatAt w' B b f n := ⟨h.1, fun i hi => (hb.cell (p := ⟨b, i, none⟩) h.1).trans (h.2 i hi)⟩
theorem NatAt.more {w : World} {B B' b n : Nat} {f : Nat → Nat} (h : NatAt w B b f n) (hB : B ≤ B') : NatAt w B' b f n := ⟨Nat.lt_of_lt_of_le h.1 hB, h.2⟩
theorem Num.below {w w' : World} {B b n x : Nat} (h : Num w B b n x) (hb : Below B w w') : Num w' B b n x := by
  obtain ⟨f, h1, h2⟩ := h
  exact ⟨f, h1.below hb, h2⟩
theorem Num.more {w : World} {B B' b n x : Nat} (h : Num w B b n x) (hB : B ≤ B') : Num w B' b n x := by
  obtain ⟨f, h1, h2⟩ := h
  exact ⟨f, h1.more hB, h2⟩

/-- What form leaves. -/
def FormP (f : Nat → Nat) (N b : Nat) (w : World) (e : Ending) (w' : World) : Prop := ∃ n, n ≤ N ∧ e = .returned (.slice (some ⟨b, 0, none⟩) n n) ∧ w = w' ∧ IsN f n (nvF f N)
set_option maxRecDepth 100000 in
set_option maxHeartbeats 1000000 in
theorem form_c (f : Nat → Nat) (N c b : Nat) (w : World) (h : NatAt w w.heap.size b f N) (hc : N ≤ c) (hN : N ≤ 100000) (hl : ∀ i, i < N → f i < 4294967296) (hv : nvF f N < Cap) :
    Calls Tryd.prog 88 #[.slice (some ⟨b, 0, none⟩) N c] w (FormP f N b w) := by
  obtain ⟨hb, hcell⟩ := h
  have HC := Lib.hid hcell
  have HL := Lib.hid (fun n hn hv ht => isN_mk (f := f) (n := n) hn hl hv ht)
  have H6 := Lib.hid (fun n (hI : IsN f n (nvF f N)) => cap_len hI hv)
  clear hcell hl hv
  go_enter Tryd.func88, Tryd.ntmps88
  go_wp2
  go_loop [3] (fun v => ∃ n : Nat, n ≤ N ∧ v = .int .i64 n ∧ Hid (nvF f n = nvF f N)) (fun v => (intOf v).toNat)
  case atStart => exact ⟨N, Nat.le_refl _, rfl, rfl⟩
  case round =>
    obtain ⟨n, hn, rfl, HV⟩ := hrel
    have hdone : (n = 0 ∨ ∃ k, n = k + 1 ∧ f k ≠ 0) ∨ (∃ k, n = k + 1 ∧ f k = 0) := by
      rcases n with _ | k
      · exact Or.inl (Or.inl rfl)
      · by_cases hk : f k = 0
        · exact Or.inr ⟨k, rfl, hk⟩
        · exact Or.inl (Or.inr ⟨k, rfl, hk⟩)
    rcases hdone with hd | ⟨k, rfl, hk⟩
    · have hI : IsN f n (nvF f N) := HL.out n hn HV.out (fun k hk => by
        rcases hd with rfl | ⟨j, rfl, hj⟩
        · omega
        · obtain rfl : j = k := by omega
          exact hj)
      have h6 := H6.out n hI
      have HI := Lib.hid hI
      clear hI
      rcases hd with rfl | ⟨k, rfl, hk⟩
      · go_wp2
        go_ret
        exact ⟨0, Nat.zero_le _, rfl, rfl, HI.out⟩
      · have hce := HC.out k (by omega)
        have hk' : ((f k : Int) == 0) = false := by simpa using hk
        have hkn : k < N := by omega
        rw [show ((k + 1 : Nat) : Int) = (k : Int) + 1 by omega]
        go_wp2
        go_ret
        exact ⟨k + 1, hn, rfl, rfl, HI.out⟩
    · have hce := HC.out k (by omega)
      rw [hk] at hce
      have hv' : nvF f k = nvF f N := by
        have := HV.out
        rw [show nvF f (k + 1) = nvF f k + f k * 4294967296 ^ k from rfl, hk, Nat.zero_mul, Nat.add_zero] at this
        exact this
      have HV2 := Lib.hid hv'
      have hkn : k < N := by omega
      clear hv'
      rw [show ((k + 1 : Nat) : Int) = (k : Int) + 1 by omega]
      go_wp2
      go_round
      case rel => exact ⟨k, by omega, by go_num, HV2⟩
      case measure => simp [intOf]
end Go.Proofs.YtehifkdfbiebfaaDoor
namespace Go.Proofs.YtehifkdfbiebfaaDoor
open Go.RowKit

/-- The cells of N limbs. -/
def arrN (c : Nat → Nat) (N : Nat) : Array Value := ((List.range N).map fun i => Value.int .u32 (c i : Int)).toArray
theorem arrN_zero (N : Nat) : arrN (fun _ => 0) N = Array.replicate N (.int .u32 0) := by
  apply Array.ext <;> simp [arrN]
theorem arrN_get (c : Nat → Nat) (N : Nat) {x : Nat} (h : x < N) : (arrN c N)[x]? = some (.int .u32 (c x : Int)) := by
  simp [arrN, h]
theorem arrN_set (c : Nat → Nat) (N k v : Nat) : (arrN c N).setIfInBounds k (.int .u32 (v : Int)) = arrN (upd c k v) N := by
  apply Array.ext
  · simp [arrN]
  · intro i h1 h2
    have hi : i < N := by simpa [arrN] using h2
    rw [Array.getElem_setIfInBounds (by simpa [arrN] using hi)]
    simp only [arrN, List.getElem_toArray, List.getElem_map, List.getElem_range]
    by_cases hk : k = i
    · subst hk; simp [upd]
    · simp [upd, hk, Ne.symm hk]
theorem Blk.nat {w : World} {g N : Nat} {t : TypeId} {c : Nat → Nat} (h : Blk w g t (arrN c N)) : NatAt w w.heap.size g c N := ⟨h.lt, fun i hi => (h.cell i).trans (arrN_get c N hi)⟩
theorem made_oneN (z : Value) (N : Nat) : madeCells #[z] N = Array.replicate N z := by
  apply Array.ext
  · simp [madeCells]
  · intro i h1 h2
    simp [madeCells, Nat.mod_one]
theorem Tryd.infoU32 : (Tryd.prog.info? 164).map (fun i => (i.zero, i.size, i.bytes)) = some (some (.int .u32 0), 1, 4) := by kernel_rfl
theorem make_limbs (N : Nat) (h : N ≤ 1000000) (W : World) : (Instr.makeSlice 83 (.int .i64 (N : Int)) (.int .i64 (N : Int))).run Tryd.prog W = .ok (.slice (some ⟨W.heap.size, 0, none⟩) N N) (W.alloc (.cells (arrN (fun _ => 0) N) 164)) := by
  rw [arrN_zero]
  obtain ⟨i, hi, hz0, hz1, hz2⟩ := info_parts Tryd.infoU32
  have := run_make (P := Tryd.prog) (w := W) 83 164 i (.int .u32 0) Tryd.underlying83 hi hz0 .i64 .i64 (N : Int) (N : Int) (by omega) (by omega) (by rw [hz2]; omega) (by omega)
  rw [this, hz1]
  simp only [Int.toNat_natCast, Nat.mul_one]
  rw [show (Value.int IntKind.u32 0).cells = #[.int .u32 0] from rfl, made_oneN]
/-- The state of the product after k rows. -/
structure Rows_ (fa fb : Nat → Nat) (N m k : Nat) (c : Nat → Nat) : Prop where
  lt : ∀ i, i < N → c i < 4294967296
  val : nvF c N = nvF fa k * nvF fb m
  zero : ∀ i, k + m ≤ i → i < N → c i = 0
/-- The state within row k, after l columns. -/
structure Cols_ (fa fb : Nat → Nat) (N m k l q : Nat) (c : Nat → Nat) : Prop where
  lt : ∀ i, i < N → c i < 4294967296
  car : q < 4294967296
  val : nvF c N + q * 4294967296 ^ (k + l) = nvF fa k * nvF fb m + fa k * nvF fb l * 4294967296 ^ k
  zero : ∀ i, k + m ≤ i → i < N → c i = 0
theorem upd_lt {c : Nat → Nat} {N k v : Nat} (h : ∀ i, i < N → c i < 4294967296) (hv : v < 4294967296) : ∀ i, i < N → upd c k v i < 4294967296 := fun i hi => by
  unfold upd
  split
  · exact hv
  · exact h i hi
theorem Cols_.start {fa fb c : Nat → Nat} {N m k : Nat} (h : Rows_ fa fb N m k c) : Cols_ fa fb N m k 0 0 c := ⟨h.lt, by omega, by rw [h.val]; show _ = _ + fa k * 0 * _; rw [Nat.mul_zero, Nat.zero_mul, Nat.zero_mul], h.zero⟩
theorem Cols_.step {fa fb c : Nat → Nat} {N m k l q : Nat} (h : Cols_ fa fb N m k l q c) (hl : l < m) (hN : k + m ≤ N) (ha : fa k < 4294967296) (hb : fb l < 4294967296) :
    Cols_ fa fb N m k (l + 1) ((fa k * fb l + c (k + l) + q) / 4294967296) (upd c (k + l) ((fa k * fb l + c (k + l) + q) % 4294967296)) := by
  obtain ⟨h1, h2, h3, h4⟩ := h
  obtain ⟨f1, f2⟩ := prod_fit ha hb (h1 (k + l) (by omega)) h2
  exact ⟨upd_lt h1 (Nat.mod_lt _ (by omega)), f2, prod_step (by omega) rfl h3, fun i hi hi2 => (upd_other c _ (by omega)).trans (h4 i hi hi2)⟩
theorem Cols_.done {fa fb c : Nat → Nat} {N m k q : Nat} (h : Cols_ fa fb N m k m q c) (hN : k + m < N) : Rows_ fa fb N m (k + 1) (upd c (k + m) q) := by
  obtain ⟨h1, h2, h3, h4⟩ := h
  exact ⟨upd_lt h1 h2, prod_row hN (h4 _ (by omega) hN) h3, fun i hi hi2 => (upd_other c _ (by omega)).trans (h4 i (by omega) hi2)⟩

/-- What product leaves. -/
def NumP (x : Nat) (w : World) (e : Ending) (w' : World) : Prop := Below w.heap.size w w' ∧ ∃ b n, w.heap.size ≤ b ∧ e = .returned (.slice (some ⟨b, 0, none⟩) n n) ∧ Num w' w'.heap.size b n x ∧ n ≤ 640
set_option maxRecDepth 100000 in
set_option maxHeartbeats 4000000 in
theorem product_c (ba bb n m x y ca cb : Nat) (w : World) (ha : Num w w.heap.size ba n x) (hb : Num w w.heap.size bb m y) (hn : n ≤ 640) (hm : m ≤ 640) (hxy : x * y < Cap) :
    Calls Tryd.prog 153 #[.slice (some ⟨ba, 0, none⟩) n ca, .slice (some ⟨bb, 0, none⟩) m cb] w (NumP (x * y) w) := by
  obtain ⟨fa, ⟨ha0, hac⟩, hA⟩ := ha
  obtain ⟨fb, ⟨hb0, hbc⟩, hB⟩ := hb
  have HA := Lib.hid hac
  have HB := Lib.hid hbc
  have LA := Lib.hid hA.lt
  have LB := Lib.hid hB.lt
  have hv : nvF fa n * nvF fb m = x * y := by rw [hA.val, hB.val]
  have HV := Lib.hid hv
  have HS := Lib.hid hxy
  clear hac hbc hA hB hv hxy
  have hmk := make_limbs (n + m) (by omega)
  rw [show ((n + m : Nat) : Int) = (n : Int) + m by omega] at hmk
  have HR0 : Hid (Rows_ fa fb (n + m) m 0 (fun _ => 0)) := Lib.hid ⟨fun _ _ => by omega, by rw [nvF_zero fun _ _ => rfl]; show _ = 0 * _; rw [Nat.zero_mul], fun _ _ _ => rfl⟩
  go_enter Tryd.func153, Tryd.ntmps153
  go_wp2
  go_loopw [20] (fun i wr => ∃ (k : Nat) (c : Nat → Nat), k ≤ n ∧ i = .int .i64 k ∧ Hid (Blk wr w.heap.size 164 (arrN c (n + m))) ∧ Below w.heap.size w wr ∧ Hid (Rows_ fa fb (n + m) m k c)) (fun i _ => n - (intOf i).toNat)
  case atStart =>
    refine ⟨0, fun _ => 0, Nat.zero_le _, rfl, Lib.hid (Blk.new _ _ _), ?_, HR0⟩
    (repeat (first | (with_reducible exact bl_refl _) | (with_reducible refine bl_drew ?_) | (with_reducible refine bl_alloc ?_ _) | (with_reducible refine bl_set' ?_ ?_; · (first | omega | (simp; done) | (simp; omega))) | (with_reducible refine bl_last (by assumption) ?_) | (with_reducible refine bl_drewN ?_ _)))
  case round =>
    obtain ⟨k, c, hk, rfl, HBl, hbw, HR⟩ := hrel
    have hz : w.heap.size < wr.heap.size := HBl.out.lt
    by_cases hlt : k < n
    · have c1 := (hbw.cell (p := ⟨ba, k, none⟩) ha0).trans (HA.out k hlt)
      have z1 : ba < wr.heap.size := by omega
      go_wp2
      obtain ⟨w0, hw0⟩ : ∃ w0 : World, w0 = wr := ⟨_, rfl⟩
      subst hw0
      have hAk := LA.out k hlt
      have HC0 := Lib.hid (Cols_.start HR.out)
      clear c1 z1 hz
      go_loopw [8, 27] (fun u j wj => ∃ (l q : Nat) (d : Nat → Nat), l ≤ m ∧ j = .int .i64 l ∧ u = .int .u64 q ∧ Hid (Blk wj w.heap.size 164 (arrN d (n + m))) ∧ Below w.heap.size w wj ∧ Hid (Cols_ fa fb (n + m) m k l q d)) (fun _ j _ => m - (intOf j).toNat)
      case atStart => exact ⟨0, 0, c, Nat.zero_le _, rfl, rfl, HBl, hbw, HC0⟩
      case round =>
        clear HBl hbw HR HC0
        obtain ⟨l, q, d, hl, rfl, rfl, HBl, hbw, HC⟩ := hrel
        have hz : w.heap.size < wr.heap.size := HBl.out.lt
        by_cases hlm : l < m
        · have c1 := (hbw.cell (p := ⟨bb, l, none⟩) hb0).trans (HB.out l hlm)
          have c2 := (HBl.out.cell (k + l)).trans (arrN_get d (n + m) (by omega))
          have c3 := HBl.out.frozen (k + l)
          have z1 : bb < wr.heap.size := by omega
          have hBl := LB.out l hlm
          have hd := HC.out.lt (k + l) (by omega)
          have hq := HC.out.car
          have HCS := Lib.hid (HC.out.step hlm (by omega) hAk hBl)
          have hkl : (k + l : Nat) < n + m := by omega
          obtain ⟨ft, fq⟩ := prod_fit hAk hBl hd hq
          have HBs := fun v => Lib.hid ((HBl.out.set_ (k + l) (.int .u32 ((v : Nat) : Int))).trans (by rw [arrN_set]))
          generalize fa k = X at *
          generalize fb l = Y at *
          generalize d (k + l) = C at *
          go_wp2
          have e1 : (((X : Int) * Y + C + q) % 4294967296) = (((X * Y + C + q) % 4294967296 : Nat) : Int) := by simp
          have e2 : (((X : Int) * Y + C + q) / 4294967296) = (((X * Y + C + q) / 4294967296 : Nat) : Int) := by simp
          rw [e1, e2]
          go_roundw
          case rel =>
            refine ⟨l + 1, _, _, by omega, by go_num, rfl, HBs _, ?_, HCS⟩
            exact hbw.setCell (p := ⟨w.heap.size, k + l, none⟩) (by show w.heap.size ≤ w.heap.size; omega) _
          case measure => simp [intOf]; omega
        · obtain rfl : l = m := by omega
          have c3 := HBl.out.frozen (k + l)
          have c2 := (HBl.out.cell (k + l)).trans (arrN_get d (n + l) (by omega))
          have hq := HC.out.car
          have hkl : (k + l : Nat) < n + l := by omega
          have HCS := Lib.hid (HC.out.done hkl)
          have HBs := Lib.hid ((HBl.out.set_ (k + l) (.int .u32 (q : Int))).trans (by rw [arrN_set]))
          generalize d (k + l) = C at *
          go_wp2
          go_roundw
          case rel =>
            refine ⟨k + 1, _, by omega, by go_num, HBs, ?_, HCS⟩
            exact hbw.setCell (p := ⟨w.heap.size, k + l, none⟩) (by show w.heap.size ≤ w.heap.size; omega) _
          case measure => simp [intOf]; omega
    · obtain rfl : k = n := by omega
      have hval : nvF c (k + m) = x * y := by rw [HR.out.val]; exact HV.out
      have HF := Lib.hid (form_c c (k + m) (k + m) w.heap.size wr HBl.out.nat (Nat.le_refl _) (by omega) HR.out.lt (by rw [hval]; exact HS.out))
      have HVV := Lib.hid hval
      clear hval
      go_wp2_with (go_at_call 88; ((with_reducible refine (HF.out).mono ?_); rintro e w' ⟨n', hn', rfl, rfl, hI⟩))
      go_ret
      rw [HVV.out] at hI
      exact ⟨hbw, w.heap.size, n', Nat.le_refl _, rfl, ⟨c, ⟨HBl.out.lt, fun i hi => HBl.out.nat.2 i (by omega)⟩, hI⟩, cap_len hI HS.out⟩
end Go.Proofs.YtehifkdfbiebfaaDoor
