/- TopTuned: what its plain law leans on, out of the laws on benches and beats. TopTuned: the plain law. -/
import Derived.Test.YtehifkdfbiebfaaDoorK38
import Derived.Test.YtehifkdfbiebfaaDoorK28
namespace Go.Proofs.YtehifkdfbiebfaaDoor
open Go Go.RowKit

theorem abs_le {o d e1 e2 v : Int} (he : 0 < e2) (h1 : o ≤ v) (h2 : -v ≤ o) (h : Le (v, d) (e1, e2)) : Le (o, d) (e1, e2) ∧ Le (-e1, e2) (o, d) := by
  unfold Le at h ⊢
  simp only at h ⊢
  have a := Int.mul_le_mul_of_nonneg_right h1 (Int.le_of_lt he)
  have b := Int.mul_le_mul_of_nonneg_right h2 (Int.le_of_lt he)
  have c : -v * e2 = -(v * e2) := by grind
  have d' : -e1 * d = -(e1 * d) := by grind
  rw [c] at b
  rw [d']
  constructor <;> omega
theorem ply_parts {n : Int} {l : List Bt} {f1 f2 : Int} {M : Nat} {off : Nat → Int × Int} (h : plyG n l f1 f2 M off = true) : vld n l = true ∧ sdV f1 f2 = true ∧ M = l.length ∧ allV off M = true := by
  unfold plyG at h
  simp only [Bool.and_eq_true, decide_eq_true_eq] at h
  exact ⟨h.1, h.2.1, h.2.2.1, h.2.2.2⟩
theorem run_parts {n : Int} {l : List Bt} {f1 f2 e1 e2 : Int} (h : runG n l f1 f2 e1 e2 = true) : vld n l = true ∧ sdV f1 f2 = true ∧ rtV e1 e2 = true ∧ 0 < e2 := by
  unfold runG at h
  simp only [Bool.and_eq_true] at h
  refine ⟨h.1, h.2.1, h.2.2, ?_⟩
  have := h.2.2
  unfold rtV at this
  simp only [Bool.and_eq_true] at this
  exact den_pos this.1
theorem bounds_law {n : Int} {l : List Bt} {f1 f2 e1 e2 : Int} {M : Nat} {off : Nat → Int × Int} {g h p : Nat → Int × Int} (hg : runG n l f1 f2 e1 e2 = true) (hp : plyG n l f1 f2 M off = true)
    (hl : ∀ j, j < M → Le (off j) (e1, e2) ∧ Le (-e1, e2) (off j)) (p1 : plO l (f1, f2) (fun _ => (-e1, e2)) l.length = some g) (p2 : plO l (f1, f2) (fun _ => (e1, e2)) l.length = some h)
    (q : plO l (f1, f2) off l.length = some p) (x : Nat) (hx : x < n.toNat) :
    (∃ c : Int, c ≤ 0 ∧ cmpV (g x).1 (g x).2 (p x).1 (p x).2 = .tuple #[.int .i64 c, .int .i64 0]) ∧ (∃ c : Int, c ≤ 0 ∧ cmpV (p x).1 (p x).2 (h x).1 (h x).2 = .tuple #[.int .i64 c, .int .i64 0]) := by
  obtain ⟨hv, hs, _⟩ := run_parts hg
  obtain ⟨_, _, hM, _⟩ := ply_parts hp
  exact ⟨cmp_le (play_all (f0 := (f1, f2)) hv hs p1 hx) (play_all (f0 := (f1, f2)) hv hs q hx) (plO_le (fun j hj => (hl j (by omega)).2) p1 q x), cmp_le (play_all (f0 := (f1, f2)) hv hs q hx) (play_all (f0 := (f1, f2)) hv hs p2 hx) (plO_le (fun j hj => (hl j (by omega)).1) q p2 x)⟩
theorem rt_v {n d : Int} (h : rtV n d = true) : vR n d = true := by
  unfold rtV at h
  simp only [Bool.and_eq_true] at h
  exact h.1
theorem seG_of {fn fd p q rn rd : Int} (h : seG fn fd p q rn rd = true) : sdV fn fd = true ∧ rtV rn rd = true ∧ ptV p = true ∧ ptV q = true := by simpa [seG] using h
/-- What Set returns, as an equation. -/
theorem se_spec {fn fd p q rn rd : Int} {above : Bool} (h : seE fn fd p q rn rd above = 0) :
    seG fn fd p q rn rd = true ∧ sdV (seX fn fd p q rn rd above) (seY fn fd p q rn rd above) = true ∧
      seX fn fd p q rn rd above * (q * fd * rd) = seN fn fd p rn rd above * seY fn fd p q rn rd above := by
  unfold seE at h
  split at h
  · rename_i hG
    split at h
    · rename_i hM
      unfold seX seY
      rw [if_pos hG, if_pos hG, if_pos hM, if_pos hM]
      unfold maE at hM
      simp only [Bool.and_eq_true, decide_eq_true_eq] at hM
      obtain ⟨_, _, h3⟩ := mk_spec hM.1
      exact ⟨hG, hM.2, h3⟩
    · cases h
  · cases h
theorem raG_mk {fn fd gn gd p q : Int} (h1 : sdV fn fd = true) (h2 : sdV gn gd = true) (h3 : ptV p = true) (h4 : ptV q = true) : raG fn fd gn gd p q = true := by simp [raG, h1, h2, h3, h4]
theorem raG_of {fn fd gn gd p q : Int} (h : raG fn fd gn gd p q = true) : (sdV fn fd = true ∧ sdV gn gd = true) ∧ ptV p = true ∧ ptV q = true := by simpa [raG] using h
/-- The rate is x / y if it has this value. -/
theorem ra_of {fn fd gn gd p q x y : Int} (hG : raG fn fd gn gd p q = true) (hv : rtV x y = true) (e : raN fn fd gn gd p q * y = x * (fd * gd)) : raX fn fd gn gd p q = x ∧ raY fn fd gn gd p q = y ∧ raE fn fd gn gd p q = 0 := by
  obtain ⟨⟨h1, h2⟩, _⟩ := raG_of hG
  have hd1 := (rt_of (sd_of h1).1).2.2.1
  have hd2 := (rt_of (sd_of h2).1).2.2.1
  obtain ⟨m1, m2, m3⟩ := mk_of (mul_ne (show 0 < fd by omega) (show 0 < gd by omega)) (rt_v hv) e
  have hM : maE rtV (raN fn fd gn gd p q) (fd * gd) = true := by
    unfold maE
    rw [m1, m2, m3, hv]
    rfl
  unfold raX raY raE maN maD maK
  rw [if_pos hG, if_pos hG, if_pos hG, if_pos hM, if_pos hM, if_pos hM]
  exact ⟨m2, m3, rfl⟩
theorem set_law {fn fd p q rn rd : Int} {above : Bool} (h : seE fn fd p q rn rd above = 0) :
    (raX fn fd (seX fn fd p q rn rd above) (seY fn fd p q rn rd above) p q = rn ∧ raY fn fd (seX fn fd p q rn rd above) (seY fn fd p q rn rd above) p q = rd ∧ raE fn fd (seX fn fd p q rn rd above) (seY fn fd p q rn rd above) p q = 0) ∧
      ((rn = 0 ∧ p * fn * seY fn fd p q rn rd above = q * seX fn fd p q rn rd above * fd) ∨ (rn ≠ 0 ∧ above = true ∧ p * fn * seY fn fd p q rn rd above < q * seX fn fd p q rn rd above * fd) ∨ (rn ≠ 0 ∧ above = false ∧ q * seX fn fd p q rn rd above * fd < p * fn * seY fn fd p q rn rd above)) := by
  obtain ⟨hG, hs, he⟩ := se_spec h
  obtain ⟨g1, g2, g3, g4⟩ := seG_of hG
  have r1 := rt_of (sd_of g1).1
  have r2 := rt_of g2
  have r3 := rt_of (sd_of hs).1
  have r3p := (sd_of hs).2
  unfold seN at he
  have hra := fun hN => ra_of (fn := fn) (fd := fd) (p := p) (q := q) (raG_mk g1 hs g3 g4) g2 hN
  unfold raN at hra
  generalize seX fn fd p q rn rd above = x at *
  generalize seY fn fd p q rn rd above = y at *
  have hC : 0 ≤ rn * fd * y := Int.mul_nonneg (Int.mul_nonneg r2.1 (by have := r1.2.2.1; omega)) (by have := r3.2.2.1; omega)
  have hrd : 0 < rd := by have := r2.2.2.1; omega
  cases above
  · simp only [Bool.false_eq_true, if_false] at he
    have e1 : (p * fn * y - q * x * fd) * rd = rn * fd * y := by grind
    have e2 : 0 ≤ p * fn * y - q * x * fd := by
      rcases Int.lt_or_le (p * fn * y - q * x * fd) 0 with g | g
      · have := Int.mul_neg_of_neg_of_pos g hrd
        omega
      · exact g
    refine ⟨hra ?_, ?_⟩
    · have e3 : ((p * fn * y - q * x * fd).natAbs : Int) = p * fn * y - q * x * fd := by omega
      rw [e3, e1]
      grind
    · by_cases h0 : rn = 0
      · refine Or.inl ⟨h0, ?_⟩
        rw [h0, Int.zero_mul, Int.zero_mul] at e1
        rcases Int.mul_eq_zero.1 e1 with g | g
        · omega
        · omega
      · refine Or.inr (Or.inr ⟨h0, rfl, ?_⟩)
        have hC2 : 0 < rn * fd * y := Int.mul_pos (Int.mul_pos (by have := r2.1; omega) (by have := r1.2.2.1; omega)) (by have := r3.2.2.1; omega)
        rcases Int.lt_or_le 0 (p * fn * y - q * x * fd) with g | g
        · omega
        · have : p * fn * y - q * x * fd = 0 := by omega
          rw [this, Int.zero_mul] at e1
          omega
  · simp only [if_true] at he
    have e1 : (q * x * fd - p * fn * y) * rd = rn * fd * y := by grind
    have e2 : 0 ≤ q * x * fd - p * fn * y := by
      rcases Int.lt_or_le (q * x * fd - p * fn * y) 0 with g | g
      · have := Int.mul_neg_of_neg_of_pos g hrd
        omega
      · exact g
    refine ⟨hra ?_, ?_⟩
    · have e3 : ((p * fn * y - q * x * fd).natAbs : Int) = q * x * fd - p * fn * y := by omega
      rw [e3, e1]
      grind
    · by_cases h0 : rn = 0
      · refine Or.inl ⟨h0, ?_⟩
        rw [h0, Int.zero_mul, Int.zero_mul] at e1
        rcases Int.mul_eq_zero.1 e1 with g | g
        · omega
        · omega
      · refine Or.inr (Or.inl ⟨h0, rfl, ?_⟩)
        have hC2 : 0 < rn * fd * y := Int.mul_pos (Int.mul_pos (by have := r2.1; omega) (by have := r1.2.2.1; omega)) (by have := r3.2.2.1; omega)
        rcases Int.lt_or_le 0 (q * x * fd - p * fn * y) with g | g
        · omega
        · have : q * x * fd - p * fn * y = 0 := by omega
          rw [this, Int.zero_mul] at e1
          omega
theorem co_ok {rn rd tn td : Int} (h : coK rn rd tn td = 0) : coG rn rd tn td = true ∧ coX rn rd tn td = coL rn rd tn td ∧ coY rn rd tn td = coM rn rd tn td := by
  unfold coX coY
  rw [if_pos h, if_pos h]
  unfold coK at h
  split at h
  · exact ⟨by assumption, rfl, rfl⟩
  · cases h
/-- The parts of what Band returns. -/
def baLN (c tn td : Int) : Int := if baO c tn td then mkN (baL c td) tn else 0
def baLD (c tn td : Int) : Int := if baO c tn td then mkD (baL c td) tn else 0
def baHN (c tn td : Int) : Int := if baO c tn td then mkN (baH c td) tn else 0
def baHD (c tn td : Int) : Int := if baO c tn td then mkD (baH c td) tn else 0
theorem baV_eq (c tn td : Int) : baV c tn td = .tuple #[.agg #[.int .i64 (baLN c tn td), .int .i64 (baLD c tn td), .int .i64 (baHN c tn td), .int .i64 (baHD c tn td)], .int .i64 (baK c tn td)] := rfl
theorem ma_spec {t : Int → Int → Bool} {n d : Int} (h : maE t n d = true) : t (mkN n d) (mkD n d) = true ∧ mkN n d * d = n * mkD n d := by
  unfold maE at h
  simp only [Bool.and_eq_true, decide_eq_true_eq] at h
  exact ⟨h.2, (mk_spec h.1).2.2⟩
theorem ba_spec {c tn td : Int} (h : baK c tn td = 0) : (0 ≤ c ∧ c ≤ 1000000) ∧ rtV (baLN c tn td) (baLD c tn td) = true ∧ rtV (baHN c tn td) (baHD c tn td) = true ∧ baLN c tn td * tn = (max c 1 - 1) * td * baLD c tn td ∧ baHN c tn td * tn = (c + 1) * td * baHD c tn td := by
  unfold baK at h
  split at h
  · rename_i ho
    unfold baLN baLD baHN baHD
    rw [if_pos ho, if_pos ho, if_pos ho, if_pos ho]
    unfold baO baG at ho
    simp only [Bool.and_eq_true, decide_eq_true_eq] at ho
    obtain ⟨⟨_, hc⟩, h1, h2⟩ := ho
    obtain ⟨a1, a2⟩ := ma_spec h1
    obtain ⟨b1, b2⟩ := ma_spec h2
    refine ⟨hc, a1, b1, ?_, b2⟩
    rw [a2]
    have : baL c td = (max c 1 - 1) * td := by unfold baL; rw [Int.sub_mul, Int.one_mul]
    rw [this]
  · split at h <;> cases h
theorem sg_le (x : Int) : (sgF x ≤ 0 ↔ x ≤ 0) ∧ (0 ≤ sgF x ↔ 0 ≤ x) := by
  rcases sg_ways x with ⟨h, e⟩ | ⟨h, e⟩ | ⟨h, e⟩ <;> rw [e] <;> omega
/-- The sign of a product with a positive number. -/
theorem pos_sign {x y a b : Int} (ha : 0 < a) (hb : 0 < b) (e : x * a = y * b) : (x ≤ 0 ↔ y ≤ 0) ∧ (0 ≤ x ↔ 0 ≤ y) := by
  have h1 : x ≤ 0 ↔ x * a ≤ 0 := by
    rcases Int.lt_or_le 0 x with h | h
    · have := Int.mul_pos h ha; omega
    · have := Int.mul_nonpos_of_nonpos_of_nonneg h (Int.le_of_lt ha); omega
  have h2 : y ≤ 0 ↔ y * b ≤ 0 := by
    rcases Int.lt_or_le 0 y with h | h
    · have := Int.mul_pos h hb; omega
    · have := Int.mul_nonpos_of_nonpos_of_nonneg h (Int.le_of_lt hb); omega
  have h3 : 0 ≤ x ↔ 0 ≤ x * a := by
    rcases Int.lt_or_le x 0 with h | h
    · have := Int.mul_neg_of_neg_of_pos h ha; omega
    · have := Int.mul_nonneg h (Int.le_of_lt ha); omega
  have h4 : 0 ≤ y ↔ 0 ≤ y * b := by
    rcases Int.lt_or_le y 0 with h | h
    · have := Int.mul_neg_of_neg_of_pos h hb; omega
    · have := Int.mul_nonneg h (Int.le_of_lt hb); omega
  rw [h1, h2, h3, h4, e]
  exact ⟨Iff.rfl, Iff.rfl⟩
theorem cnt_law {rn rd tn td c : Int} (h : coK rn rd tn td = 0) (hb : baK c tn td = 0) :
    cmpE (baLN c tn td) (baLD c tn td) rn rd = 0 ∧ cmpE rn rd (baHN c tn td) (baHD c tn td) = 0 ∧
      ((cmpN (baLN c tn td) (baLD c tn td) rn rd ≤ 0 ↔ (max c 1 - 1) * (rd * td) ≤ rn * tn) ∧ (0 ≤ cmpN (baLN c tn td) (baLD c tn td) rn rd ↔ rn * tn ≤ (max c 1 - 1) * (rd * td))) ∧
      ((cmpN rn rd (baHN c tn td) (baHD c tn td) ≤ 0 ↔ rn * tn ≤ (c + 1) * (rd * td)) ∧ (0 ≤ cmpN rn rd (baHN c tn td) (baHD c tn td) ↔ (c + 1) * (rd * td) ≤ rn * tn)) := by
  obtain ⟨hG, _⟩ := co_ok h
  obtain ⟨r1, r2, _⟩ := co_facts hG
  obtain ⟨_, l1, h1, l2, h2⟩ := ba_spec hb
  have ht := (sd_of r2).2
  have q1 := den_pos (rt_v l1)
  have q2 := den_pos (rt_v h1)
  unfold cmpE cmpN
  rw [rt_v l1, rt_v h1, rt_v r1]
  generalize baLN c tn td = LN at *
  generalize baLD c tn td = LD at *
  generalize baHN c tn td = HN at *
  generalize baHD c tn td = HD at *
  generalize max c 1 - 1 = m at *
  simp only [Bool.and_self, if_true, true_and]
  have s1 := pos_sign (x := LN * rd - rn * LD) (y := m * (rd * td) - rn * tn) ht q1 (by
    have : (LN * rd - rn * LD) * tn = LN * tn * rd - rn * LD * tn := by grind
    rw [this, l2]
    grind)
  have s2 := pos_sign (x := rn * HD - HN * rd) (y := rn * tn - (c + 1) * (rd * td)) ht q2 (by
    have : (rn * HD - HN * rd) * tn = rn * HD * tn - HN * tn * rd := by grind
    rw [this, h2]
    grind)
  have g1 := sg_le (LN * rd - rn * LD)
  have g2 := sg_le (rn * HD - HN * rd)
  generalize (c + 1) * (rd * td) = U at *
  generalize m * (rd * td) = V at *
  generalize rn * tn = W at *
  omega
theorem cnt_range {n d c : Int} (hn : 0 ≤ n) (hd : 0 < d) (hc : 0 ≤ c) :
    (0 ≤ n / d ∧ n / d ≤ (n + d - 1) / d ∧ (n + d - 1) / d ≤ n / d + 1) ∧
      ((n / d ≤ c ∧ c ≤ (n + d - 1) / d ∧ (max c 1 - 1) * d ≤ n ∧ n ≤ (c + 1) * d) ∨ ((¬ n / d ≤ c ∨ ¬ c ≤ (n + d - 1) / d) ∧ (n ≤ (max c 1 - 1) * d ∨ (c + 1) * d ≤ n))) := by
  have e1 := Int.mul_ediv_add_emod n d
  have e2 := Int.emod_nonneg n (show d ≠ 0 by omega)
  have e3 := Int.emod_lt_of_pos n hd
  have f1 := Int.mul_ediv_add_emod (n + d - 1) d
  have f2 := Int.emod_nonneg (n + d - 1) (show d ≠ 0 by omega)
  have f3 := Int.emod_lt_of_pos (n + d - 1) hd
  have k0 : 0 ≤ n / d := Int.ediv_nonneg hn (by omega)
  have k1 : 0 ≤ (n + d - 1) / d := Int.ediv_nonneg (by omega) (by omega)
  have lt_of : ∀ a b : Int, d * a < d * b → a < b := fun a b h => Int.lt_of_mul_lt_mul_left h (Int.le_of_lt hd)
  have le_to : ∀ a b : Int, a ≤ b → d * a ≤ d * b := fun a b h => Int.mul_le_mul_of_nonneg_left h (Int.le_of_lt hd)
  generalize n / d = L at *
  generalize (n + d - 1) / d = M at *
  generalize n % d = s at *
  generalize (n + d - 1) % d = t at *
  have z1 : d * (L + 1) = d * L + d := by rw [Int.mul_add, Int.mul_one]
  have z2 : d * (M + 1) = d * M + d := by rw [Int.mul_add, Int.mul_one]
  have z3 : d * (L + 1 + 1) = d * L + d + d := by rw [Int.mul_add, Int.mul_one, z1]
  have z4 : d * (c + 1) = d * c + d := by rw [Int.mul_add, Int.mul_one]
  have z5 : (c + 1) * d = d * c + d := by rw [Int.mul_comm, z4]
  refine ⟨⟨k0, ?_, ?_⟩, ?_⟩
  · have := lt_of L (M + 1) (by omega); omega
  · have := lt_of M (L + 1 + 1) (by omega); omega
  rw [z5]
  have zm : (max c 1 - 1) * d = d * c - d ∧ 1 ≤ c ∨ (max c 1 - 1) * d = 0 ∧ c = 0 := by
    rcases Int.lt_or_le c 1 with g | g
    · refine Or.inr ⟨?_, by omega⟩
      rw [show max c 1 - 1 = 0 by omega, Int.zero_mul]
    · refine Or.inl ⟨?_, g⟩
      rw [show max c 1 - 1 = c - 1 by omega, Int.sub_mul, Int.one_mul, Int.mul_comm]
  generalize (max c 1 - 1) * d = V at *
  by_cases g1 : L ≤ c
  · by_cases g2 : c ≤ M
    · have a1 := le_to _ _ g1
      have a2 := le_to _ _ g2
      refine Or.inl ⟨g1, g2, ?_, by omega⟩
      rcases zm with ⟨h1, _⟩ | ⟨h1, _⟩ <;> omega
    · have a2 := le_to (M + 1) c (by omega)
      refine Or.inr ⟨Or.inr g2, Or.inl ?_⟩
      rcases zm with ⟨h1, _⟩ | ⟨h1, h2⟩ <;> omega
  · have a1 := le_to (c + 1) L (by omega)
    exact Or.inr ⟨Or.inl g1, Or.inr (by omega)⟩
/-- What a step sets from f. -/
def stepE (f : Int × Int) (b : Bt) (o : Int × Int) : Int := moE f.1 f.2 b.p b.q (sgn b.ab b.rn) b.rd o.1 o.2
def stepF (f : Int × Int) (b : Bt) (o : Int × Int) : Int × Int := (moX f.1 f.2 b.p b.q (sgn b.ab b.rn) b.rd o.1 o.2, moY f.1 f.2 b.p b.q (sgn b.ab b.rn) b.rd o.1 o.2)
theorem getD_of {l : List Bt} {k : Nat} {b : Bt} (h : l[k]? = some b) : l.getD k default = b := by rw [List.getD_eq_getElem?_getD, h]; rfl
/-- The frequencies are what the steps set, each from the final frequency of its first item. -/
theorem play_fix {n : Int} {l : List Bt} {f0 : Int × Int} {off : Nat → Int × Int} (hv : vld n l = true) : ∀ {k : Nat} {g : Nat → Int × Int}, k ≤ l.length → plO l f0 off k = some g →
    g 0 = f0 ∧ ∀ i b, i < k → l[i]? = some b → stepE (g b.fr.toNat) b (off i) = 0 ∧ g b.to.toNat = stepF (g b.fr.toNat) b (off i)
  | 0, g, _, h => by
    simp only [plO, Option.some.injEq] at h
    subst h
    exact ⟨by simp, fun i b hi => absurd hi (by omega)⟩
  | k + 1, g', hk, h => by
    simp only [plO, Option.bind_eq_some_iff] at h
    obtain ⟨g, hg, h⟩ := h
    obtain ⟨c, hc⟩ : ∃ c, l[k]? = some c := ⟨l[k], by simp⟩
    rw [getD_of hc] at h
    obtain ⟨i0, ih⟩ := play_fix hv (by omega) hg
    have hp := (ok_parts (vld_at hv hc)).2.2.2
    split at h
    case isFalse => cases h
    case isTrue e1 =>
      simp only [Option.some.injEq] at h
      subst h
      have hno := stF_none.1 hp.2.2.1
      have hfr : ∀ i b, i ≤ k → l[i]? = some b → b.fr.toNat ≠ c.to.toNat := by
        intro i b hi hb
        have hq := (ok_parts (vld_at hv hb)).2.2.2.2.2.2
        rcases hq with h0 | ⟨h0, _, h1⟩
        · omega
        · obtain ⟨y, hy, ht⟩ := stF_get h1
          have hm : y ∈ l.take k := by
            have := (List.getElem?_eq_some_iff.1 hy)
            obtain ⟨hl, he⟩ := this
            rw [List.length_take] at hl
            rw [List.mem_take_iff_getElem]
            refine ⟨(stF (l.take i) b.fr).toNat, by omega, ?_⟩
            rw [← he, List.getElem_take]
          have := hno y hm
          omega
      refine ⟨?_, fun i b hi hb => ?_⟩
      · have : ¬ 0 = c.to.toNat := by omega
        simp only [this, if_false]
        exact i0
      · have h1 := hfr i b (by omega) hb
        simp only [h1, if_false]
        by_cases hik : i = k
        · subst hik
          rw [hc] at hb
          obtain rfl := Option.some.inj hb
          simp only [if_true]
          exact ⟨e1, rfl⟩
        · have hm : b ∈ l.take k := by
            rw [List.mem_take_iff_getElem]
            have := (List.getElem?_eq_some_iff.1 hb)
            obtain ⟨hl, he⟩ := this
            exact ⟨i, by omega, he⟩
          have h2 := hno b hm
          have h3 := (ok_parts (vld_at hv hb)).2.2.2
          have h4 : ¬ b.to.toNat = c.to.toNat := by omega
          simp only [h4, if_false]
          exact ih i b (by omega) hb
end Go.Proofs.YtehifkdfbiebfaaDoor
namespace Go.Proofs.YtehifkdfbiebfaaDoor
open Go Go.RowKit

/-- The sum of a step, and the rate at which its items beat. -/
theorem tn_rate {fn fd p q s sd o od : Int} (h : moE fn fd p q s sd o od = 0) :
    addV s sd o od = .tuple #[.agg #[.int .i64 (adN s sd o od), .int .i64 (adD s sd o od)], .int .i64 0] ∧
      raV fn fd (moX fn fd p q s sd o od) (moY fn fd p q s sd o od) p q = .tuple #[.agg #[.int .i64 ((adN s sd o od).natAbs : Int), .int .i64 (adD s sd o od)], .int .i64 0] := by
  have h' := h
  unfold moE at h'
  split at h'
  case isFalse => omega
  case isTrue hh =>
    obtain ⟨ha, hs⟩ := hh
    have hX : moX fn fd p q s sd o od = seX fn fd p q (adN s sd o od).natAbs (adD s sd o od) (decide (0 ≤ adN s sd o od)) := by unfold moX; rw [if_pos h]
    have hY : moY fn fd p q s sd o od = seY fn fd p q (adN s sd o od).natAbs (adD s sd o od) (decide (0 ≤ adN s sd o od)) := by unfold moY; rw [if_pos h]
    obtain ⟨⟨e1, e2, e3⟩, _⟩ := set_law hs
    rw [hX, hY]
    refine ⟨by rw [addV_eq, ha], ?_⟩
    rw [raV_eq, e1, e2, e3]
/-- The band of a count that a rate allows has the rate. -/
theorem tn_count {rn rd tn td c : Int} (h : coK rn rd tn td = 0) (hc : c = coX rn rd tn td ∨ c = coY rn rd tn td) (hb : baK c tn td = 0) :
    (∃ x : Int, decide (x ≤ 0) = true ∧ cmpV (baLN c tn td) (baLD c tn td) rn rd = .tuple #[.int .i64 x, .int .i64 0]) ∧
      (∃ x : Int, decide (x ≤ 0) = true ∧ cmpV rn rd (baHN c tn td) (baHD c tn td) = .tuple #[.int .i64 x, .int .i64 0]) := by
  obtain ⟨g1, g2, g3⟩ := co_ok h
  obtain ⟨_, _, ⟨m0, _⟩, m2, _⟩ := co_facts g1
  obtain ⟨l1, l2, ⟨l3, _⟩, ⟨l5, _⟩⟩ := cnt_law h hb
  have hr := cnt_range (n := rn * tn) (d := rd * td) (c := c) m0 (by omega) (ba_spec hb).1.1
  have h1 : coL rn rd tn td ≤ c ∧ c ≤ coM rn rd tn td := by
    have := hr.1
    rw [g2, g3] at hc
    unfold coL coM at *
    omega
  unfold coL coM at h1
  have h2 : (max c 1 - 1) * (rd * td) ≤ rn * tn ∧ rn * tn ≤ (c + 1) * (rd * td) := by
    rcases hr.2 with ⟨_, _, a, b⟩ | ⟨a, _⟩
    · exact ⟨a, b⟩
    · omega
  unfold cmpV
  rw [l1, l2]
  exact ⟨⟨_, decide_eq_true (l3.2 h2.1), rfl⟩, ⟨_, decide_eq_true (l5.2 h2.2), rfl⟩⟩
theorem mk_neg (n d : Int) : mkE (-n) d = mkE n d ∧ mkN (-n) d = -mkN n d ∧ mkD (-n) d = mkD n d := by
  have e : xF (-n) d = xF n d ∧ yF (-n) d = yF n d := by
    have e1 : absF (-n) = absF n := Int.natAbs_neg n
    unfold xF yF gF
    rw [e1]
    exact ⟨rfl, rfl⟩
  have hE : mkE (-n) d = mkE n d := by unfold mkE; rw [e.1, e.2]
  refine ⟨hE, ?_, ?_⟩
  · by_cases h : mkE n d = 0
    · have hd := (mk_spec h).1
      obtain ⟨_, v, q⟩ := mk_spec h
      obtain ⟨_, v', q'⟩ := mk_spec (hE.trans h)
      have vn : vR (-mkN n d) (mkD n d) = true := by
        have a := v_of v
        exact v_mk ⟨a.1, by rw [show absF (-mkN n d) = absF (mkN n d) from Int.natAbs_neg _]; exact (low_of v).2⟩ (by omega) (by unfold absF; omega)
      refine (vR_eq v' vn ?_).1
      have y1 := den_pos v
      have y2 := den_pos v'
      have : (mkN (-n) d * mkD n d + mkN n d * mkD (-n) d) * d = 0 := by
        have a1 : mkN (-n) d * mkD n d * d = mkN (-n) d * d * mkD n d := by grind
        have a2 : mkN n d * mkD (-n) d * d = mkN n d * d * mkD (-n) d := by grind
        rw [Int.add_mul, a1, a2, q, q']
        grind
      rcases Int.mul_eq_zero.1 this with z | z
      · grind
      · exact absurd z hd
    · unfold mkN; rw [if_neg (by rw [hE]; exact h), if_neg h]; rfl
  · unfold mkD; rw [hE, e.2]
theorem ad_neg_l (an ad bn bd : Int) (ha : vR an ad = true) (hb : vR bn bd = true) : (adE (-an) ad bn bd = suE an ad bn bd ∧ adN (-an) ad bn bd = -suN an ad bn bd ∧ adD (-an) ad bn bd = suD an ad bn bd) ∧
    (adE (-an) ad (-bn) bd = adE an ad bn bd ∧ adN (-an) ad (-bn) bd = -adN an ad bn bd ∧ adD (-an) ad (-bn) bd = adD an ad bn bd) ∧
    (adE an ad (-bn) bd = suE an ad bn bd ∧ adN an ad (-bn) bd = suN an ad bn bd ∧ adD an ad (-bn) bd = suD an ad bn bd) := by
  have hv : ∀ {x y : Int}, vR x y = true → vR (-x) y = true := fun {x y} v => by
    have a := v_of v
    exact v_mk ⟨a.1, by rw [show absF (-x) = absF x from Int.natAbs_neg _]; exact (low_of v).2⟩ (by omega) (by unfold absF; omega)
  have e1 : -an * bd + bn * ad = -(an * bd - bn * ad) := by grind
  have e2 : -an * bd + -bn * ad = -(an * bd + bn * ad) := by grind
  have e3 : an * bd + -bn * ad = an * bd - bn * ad := by grind
  obtain ⟨p1, p2, p3⟩ := mk_neg (an * bd - bn * ad) (ad * bd)
  obtain ⟨q1, q2, q3⟩ := mk_neg (an * bd + bn * ad) (ad * bd)
  unfold adE adN adD suE suN suD
  simp only [hv ha, hv hb, ha, hb, Bool.and_self, if_true, e1, e2, e3, p1, p2, p3, q1, q2, q3, and_self]
theorem se_zero (fn fd p q rd : Int) (a b : Bool) : seX fn fd p q 0 rd a = seX fn fd p q 0 rd b ∧ seY fn fd p q 0 rd a = seY fn fd p q 0 rd b := by
  unfold seX seY seN
  cases a <;> cases b <;> simp
/-- What Set makes of a signed rate. -/
theorem mo_set {fn fd p q s sd o od x y : Int} {ab : Bool} (h : moE fn fd p q s sd o od = 0) (hx : adN s sd o od = if ab then x else -x) (hy : adD s sd o od = y) (h0 : 0 ≤ x) :
    moX fn fd p q s sd o od = seX fn fd p q x y ab ∧ moY fn fd p q s sd o od = seY fn fd p q x y ab := by
  have hX : moX fn fd p q s sd o od = seX fn fd p q (adN s sd o od).natAbs (adD s sd o od) (decide (0 ≤ adN s sd o od)) := by unfold moX; rw [if_pos h]
  have hY : moY fn fd p q s sd o od = seY fn fd p q (adN s sd o od).natAbs (adD s sd o od) (decide (0 ≤ adN s sd o od)) := by unfold moY; rw [if_pos h]
  rw [hX, hY, hx, hy]
  cases ab
  · simp only [Bool.false_eq_true, if_false]
    rw [show (((-x).natAbs : Nat) : Int) = x by omega]
    by_cases hz : x = 0
    · subst hz
      exact se_zero _ _ _ _ _ _ _
    · rw [decide_eq_false (show ¬ 0 ≤ -x by omega)]
      exact ⟨rfl, rfl⟩
  · simp only [if_true]
    rw [show ((x.natAbs : Nat) : Int) = x by omega, decide_eq_true h0]
    exact ⟨rfl, rfl⟩
/-- What Move returns for the band of the item from which a step sets is the band of the other one. -/
theorem tn_move {f1 f2 g1 g2 p q rn rd e1 e2 : Int} {ab : Bool} (hr : vR rn rd = true) (he : vR e1 e2 = true) (hl : 0 ≤ e1) (hge : 0 ≤ rn * e2 - e1 * rd) (h1 : moE f1 f2 p q (sgn ab rn) rd (-e1) e2 = 0) (h2 : moE g1 g2 p q (sgn ab rn) rd e1 e2 = 0)
    (hs : suE rn rd e1 e2 = 0) (ha : adE rn rd e1 e2 = 0) (hK : mvK f1 f2 g1 g2 p q (suN rn rd e1 e2) (suD rn rd e1 e2) (adN rn rd e1 e2) (adD rn rd e1 e2) ab = 0) :
    mvV f1 f2 g1 g2 p q (suN rn rd e1 e2) (suD rn rd e1 e2) (adN rn rd e1 e2) (adD rn rd e1 e2) ab =
      .tuple #[.agg #[.int .i64 (moX f1 f2 p q (sgn ab rn) rd (-e1) e2), .int .i64 (moY f1 f2 p q (sgn ab rn) rd (-e1) e2), .int .i64 (moX g1 g2 p q (sgn ab rn) rd e1 e2), .int .i64 (moY g1 g2 p q (sgn ab rn) rd e1 e2)], .int .i64 0] := by
  have hO : mvO f1 f2 g1 g2 p q (suN rn rd e1 e2) (suD rn rd e1 e2) (adN rn rd e1 e2) (adD rn rd e1 e2) ab = true := by
    unfold mvK at hK
    split at hK
    · assumption
    · split at hK <;> cases hK
  have dr := den_pos hr
  have de := den_pos he
  have dd := Int.mul_pos dr de
  obtain ⟨_, _, v3, q3⟩ := su_spec hs
  obtain ⟨_, _, v4, q4⟩ := ad_spec ha
  have d3 := den_pos v3
  have d4 := den_pos v4
  have h3 : 0 ≤ suN rn rd e1 e2 := by
    rcases Int.lt_or_le (suN rn rd e1 e2) 0 with g | g
    · have a1 := Int.mul_neg_of_neg_of_pos g dd
      have a2 := Int.mul_nonneg hge (Int.le_of_lt d3)
      omega
    · exact g
  have hge2 : 0 ≤ rn * e2 + e1 * rd := by
    have := Int.mul_nonneg hl (Int.le_of_lt dr)
    omega
  have h4 : 0 ≤ adN rn rd e1 e2 := by
    rcases Int.lt_or_le (adN rn rd e1 e2) 0 with g | g
    · have a1 := Int.mul_neg_of_neg_of_pos g dd
      have a2 := Int.mul_nonneg hge2 (Int.le_of_lt d4)
      omega
    · exact g
  obtain ⟨n1, n2, n3⟩ := ad_neg_l rn rd e1 e2 hr he
  unfold mvV
  rw [if_pos hO, if_pos hO, if_pos hO, if_pos hO, hK]
  cases ab
  · have s1 := mo_set (ab := false) (x := adN rn rd e1 e2) (y := adD rn rd e1 e2) h1 (by show adN (-rn) rd (-e1) e2 = _; rw [n2.2.1]; rfl) (by show adD (-rn) rd (-e1) e2 = _; exact n2.2.2) h4
    have s2 := mo_set (ab := false) (x := suN rn rd e1 e2) (y := suD rn rd e1 e2) h2 (by show adN (-rn) rd e1 e2 = _; rw [n1.2.1]; rfl) (by show adD (-rn) rd e1 e2 = _; exact n1.2.2) h3
    rw [s1.1, s1.2, s2.1, s2.2]
    rfl
  · have s1 := mo_set (ab := true) (x := suN rn rd e1 e2) (y := suD rn rd e1 e2) h1 (by show adN rn rd (-e1) e2 = _; rw [n3.2.1]; rfl) (by show adD rn rd (-e1) e2 = _; exact n3.2.2) h3
    have s2 := mo_set (ab := true) (x := adN rn rd e1 e2) (y := adD rn rd e1 e2) h2 rfl rfl h4
    rw [s1.1, s1.2, s2.1, s2.2]
    rfl
end Go.Proofs.YtehifkdfbiebfaaDoor
