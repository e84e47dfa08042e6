/- RationalMatchesReference: the walk (genrm02.py prints it). -/
import Derived.Test.YtmjbcoapceoakaaDoorRatU
import Derived.Test.YtmjbcoapceoakaaDoorRatNR
import Derived.Test.YtmjbcoapceoakaaDoorRatSR
import Derived.Test.YtmjbcoapceoakaaDoorRdP
import Derived.Test.YtmjbcoapceoakaaDoorBlksP
import Derived.Deep.RegionHeldLaw
namespace Go.Proofs.YtmjbcoapceoakaaDoor
open Go Go.RowKit

theorem blk_drew {W : World} {g : Nat} {t : TypeId} {cs : Array Value} (h : Blk W g t cs) : Blk W.drew g t cs := blk_up h (bl_drew (bl_refl W))
theorem exit_letter {K : Act → World → Prop} {Q : Exit → Act → World → Prop} {e : Exit} {a : Act} {w : World} (h : ∀ W, W = w → Exit.then K Q e a W) : Exit.then K Q e a w := h w rfl
def NQ (aN aD most N D E : Int) : Prop := (nrG aN aD most = false ∧ N = 0 ∧ D = 0 ∧ E = 1) ∨ (nrG aN aD most = true ∧ E = 0 ∧ PickZ aN aD most N D)
theorem nq_own {aN aD most : Int} {w w' : World} {e : Ending} (h : NearQ aN aD most w e w') : Below w.heap.size w w' ∧ ∃ N D E : Int, e = .returned (.tuple #[.agg #[.int .i64 N, .int .i64 D], .int .i64 E]) ∧ NQ aN aD most N D E := by
  obtain ⟨hb, ⟨hg, rfl⟩ | ⟨hg, N, D, rfl, hn⟩⟩ := h
  · exact ⟨hb, 0, 0, 1, rfl, Or.inl ⟨hg, rfl, rfl, rfl⟩⟩
  · exact ⟨hb, N, D, 0, rfl, Or.inr ⟨hg, rfl, hn.2⟩⟩
theorem nq_ref {aN aD most : Int} {w w' : World} {e : Ending} (h : RNearQ aN aD most w e w') : Below w.heap.size w w' ∧ ∃ N D E : Int, e = .returned (.tuple #[.agg #[.int .i64 N, .int .i64 D], .int .i64 E]) ∧ NQ aN aD most N D E := by
  obtain ⟨hb, ⟨hg, rfl⟩ | ⟨hg, N, D, rfl, hn⟩⟩ := h
  · exact ⟨hb, 0, 0, 1, rfl, Or.inl ⟨hg, rfl, rfl, rfl⟩⟩
  · exact ⟨hb, N, D, 0, rfl, Or.inr ⟨hg, rfl, hn⟩⟩
theorem nq_uni {aN aD most N D E N' D' E' : Int} (h : NQ aN aD most N D E) (h' : NQ aN aD most N' D' E') : N = N' ∧ D = D' ∧ E = E' := by
  rcases h with ⟨g, rfl, rfl, rfl⟩ | ⟨g, rfl, hp⟩ <;> rcases h' with ⟨g', rfl, rfl, rfl⟩ | ⟨g', rfl, hp'⟩
  · exact ⟨rfl, rfl, rfl⟩
  · rw [g] at g'; cases g'
  · rw [g] at g'; cases g'
  · have hD : 0 < aD := by
      unfold nrG at g
      simp only [Bool.and_eq_true] at g
      have := (v_of g.1).1
      omega
    obtain ⟨rfl, rfl⟩ := pick_uni hD hp hp'
    exact ⟨rfl, rfl, rfl⟩
def SQ (aN aD bN bD N D E : Int) : Prop := (smG aN aD bN bD = false ∧ N = 0 ∧ D = 0 ∧ E = 1) ∨ (smG aN aD bN bD = true ∧ E = 0 ∧ Simp aN aD bN bD N D)
theorem sq_of {aN aD bN bD : Int} {w w' : World} {e : Ending} (h : SimP aN aD bN bD w e w') : Below w.heap.size w w' ∧ ∃ N D E : Int, e = .returned (.tuple #[.agg #[.int .i64 N, .int .i64 D], .int .i64 E]) ∧ SQ aN aD bN bD N D E := by
  obtain ⟨hb, ⟨hg, rfl⟩ | ⟨hg, N, D, rfl, hn⟩⟩ := h
  · exact ⟨hb, 0, 0, 1, rfl, Or.inl ⟨hg, rfl, rfl, rfl⟩⟩
  · exact ⟨hb, N, D, 0, rfl, Or.inr ⟨hg, rfl, hn⟩⟩
theorem sq_uni {aN aD bN bD N D E N' D' E' : Int} (h : SQ aN aD bN bD N D E) (h' : SQ aN aD bN bD N' D' E') : N = N' ∧ D = D' ∧ E = E' := by
  rcases h with ⟨g, rfl, rfl, rfl⟩ | ⟨g, rfl, hp⟩ <;> rcases h' with ⟨g', rfl, rfl, rfl⟩ | ⟨g', rfl, hp'⟩
  · exact ⟨rfl, rfl, rfl⟩
  · rw [g] at g'; cases g'
  · rw [g] at g'; cases g'
  · unfold smG at g
    simp only [Bool.and_eq_true] at g
    have h1 := (v_of g.1).1
    have h2 := (v_of g.2.1).1
    have h3 := (v_of hp.1).1
    have h4 := (v_of hp'.1).1
    obtain ⟨rfl, rfl⟩ := simp_uni hp hp' (by omega) (by omega) (by omega) (by omega)
    exact ⟨rfl, rfl, rfl⟩
theorem pa_shape {l : List UInt8} {v : Value} (h : PaP l v) : ∃ N D E : Int, v = .tuple #[.agg #[.int .i64 N, .int .i64 D], .int .i64 E] := by
  rcases h with ⟨n, d, _, _, rfl⟩ | ⟨_, rfl⟩
  · exact ⟨_, _, _, rfl⟩
  · exact ⟨_, _, _, rfl⟩
theorem add_sh (an ad bn bd : Int) : ∃ N D E : Int, addV an ad bn bd = .tuple #[.agg #[.int .i64 N, .int .i64 D], .int .i64 E] := by
  unfold addV
  first | exact ⟨_, _, _, rfl⟩ | (split <;> exact ⟨_, _, _, rfl⟩) | (split <;> (try split) <;> exact ⟨_, _, _, rfl⟩)
theorem sub_sh (an ad bn bd : Int) : ∃ N D E : Int, subV an ad bn bd = .tuple #[.agg #[.int .i64 N, .int .i64 D], .int .i64 E] := by
  unfold subV
  first | exact ⟨_, _, _, rfl⟩ | (split <;> exact ⟨_, _, _, rfl⟩) | (split <;> (try split) <;> exact ⟨_, _, _, rfl⟩)
theorem mul_sh (an ad bn bd : Int) : ∃ N D E : Int, mulV an ad bn bd = .tuple #[.agg #[.int .i64 N, .int .i64 D], .int .i64 E] := by
  unfold mulV
  first | exact ⟨_, _, _, rfl⟩ | (split <;> exact ⟨_, _, _, rfl⟩) | (split <;> (try split) <;> exact ⟨_, _, _, rfl⟩)
theorem div_sh (an ad bn bd : Int) : ∃ N D E : Int, divV an ad bn bd = .tuple #[.agg #[.int .i64 N, .int .i64 D], .int .i64 E] := by
  unfold divV
  first | exact ⟨_, _, _, rfl⟩ | (split <;> exact ⟨_, _, _, rfl⟩) | (split <;> (try split) <;> exact ⟨_, _, _, rfl⟩)
theorem mk_sh (n d : Int) : ∃ N D E : Int, mkV n d = .tuple #[.agg #[.int .i64 N, .int .i64 D], .int .i64 E] := by
  unfold mkV
  first | exact ⟨_, _, _, rfl⟩ | (split <;> exact ⟨_, _, _, rfl⟩) | (split <;> (try split) <;> exact ⟨_, _, _, rfl⟩)
theorem cmp_sh (an ad bn bd : Int) : ∃ C E : Int, cmpV an ad bn bd = .tuple #[.int .i64 C, .int .i64 E] := by
  unfold cmpV
  first | exact ⟨_, _, rfl⟩ | (split <;> exact ⟨_, _, rfl⟩)
theorem fl_sh (an ad : Int) : ∃ C E : Int, flV an ad = .tuple #[.int .i64 C, .int .i64 E] := by
  unfold flV
  split <;> exact ⟨_, _, rfl⟩
theorem txv_sh (an ad : Int) : ∃ (X : ByteArray) (E : Int), txV an ad = .tuple #[.string X, .int .i64 E] := ⟨_, _, rfl⟩
set_option maxRecDepth 100000 in
set_option maxHeartbeats 32000000 in
theorem walk_RationalMatchesReference (an ad bn bd n d : Int) (s : ByteArray) (w : World) (_ : (Lit.int .i64 an).wf = true) (_ : (Lit.int .i64 ad).wf = true) (_ : (Lit.int .i64 bn).wf = true) (_ : (Lit.int .i64 bd).wf = true) (wn : (Lit.int .i64 n).wf = true) (wd : (Lit.int .i64 d).wf = true)
    (hs : s.size ≤ 140737488351232) (ht : TW w) :
    Calls Tryd.prog 10 #[.agg #[.int .i64 an, .int .i64 ad], .agg #[.int .i64 bn, .int .i64 bd], .int .i64 n, .int .i64 d, .string s] w (Ret (.bool true) w) := by
  have hn : I64 n := by
    have h1 : (decide ((-9223372036854775808 : Int) ≤ n) && decide (n ≤ 9223372036854775807)) = true := wn
    simpa [I64] using h1
  have hd : I64 d := by
    have h1 : (decide ((-9223372036854775808 : Int) ≤ d) && decide (d ≤ 9223372036854775807)) = true := wd
    simpa [I64] using h1
  have HT := Lib.hid ht
  have HH := Lib.hid (fun w h => head02_c w h)
  clear ht wn wd
  have HV1 := Lib.hid (fun W => Valid_c an ad W)
  have HV2 := Lib.hid (fun W => RValid_c an ad W)
  have hA := fun W => Make_c n d W hn hd
  have hB := fun W => RMake_c n d W hn hd
  obtain ⟨mN, mD, mE, hS⟩ := mk_sh n d
  rw [hS] at hA hB
  have HAm := Lib.hid hA
  have HBm := Lib.hid hB
  clear hA hB hS
  have hA := fun W => Add_c an ad bn bd W
  have hB := fun W => RAdd_c an ad bn bd W
  obtain ⟨aN, aD, aE, hS⟩ := add_sh an ad bn bd
  rw [hS] at hA hB
  have HAa := Lib.hid hA
  have HBa := Lib.hid hB
  clear hA hB hS
  have hA := fun W => Sub_c an ad bn bd W
  have hB := fun W => RSub_c an ad bn bd W
  obtain ⟨sN, sD, sE, hS⟩ := sub_sh an ad bn bd
  rw [hS] at hA hB
  have HAs := Lib.hid hA
  have HBs := Lib.hid hB
  clear hA hB hS
  have hA := fun W => Mul_c an ad bn bd W
  have hB := fun W => RMul_c an ad bn bd W
  obtain ⟨pN, pD, pE, hS⟩ := mul_sh an ad bn bd
  rw [hS] at hA hB
  have HAp := Lib.hid hA
  have HBp := Lib.hid hB
  clear hA hB hS
  have hA := fun W => Div_c an ad bn bd W
  have hB := fun W => RDiv_c an ad bn bd W
  obtain ⟨qN, qD, qE, hS⟩ := div_sh an ad bn bd
  rw [hS] at hA hB
  have HAq := Lib.hid hA
  have HBq := Lib.hid hB
  clear hA hB hS
  have hA := fun W => Cmp_c an ad bn bd W
  have hB := fun W => RCmp_c an ad bn bd W
  obtain ⟨cC, cE, hS⟩ := cmp_sh an ad bn bd
  rw [hS] at hA hB
  have HAc := Lib.hid hA
  have HBc := Lib.hid hB
  clear hA hB hS
  have hA := fun W => Floor_c an ad W
  have hB := fun W => RFloor_c an ad W
  obtain ⟨fC, fE, hS⟩ := fl_sh an ad
  rw [hS] at hA hB
  have HAf := Lib.hid hA
  have HBf := Lib.hid hB
  clear hA hB hS
  have hA := fun W (h : TW W) => Text_c an ad W h.pw
  have hB := fun W => RText_c an ad W
  obtain ⟨X, xE, hS⟩ := txv_sh an ad
  rw [hS] at hA hB
  have HAx := Lib.hid hA
  have HBx := Lib.hid hB
  clear hA hB hS
  have HAn := Lib.hid (fun W => NearZ_c an ad n W)
  have HBn := Lib.hid (fun W => RNear_c an ad n W)
  have HAi := Lib.hid (fun W => Simple_c an ad bn bd W)
  have HBi := Lib.hid (fun W => RSimple_c an ad bn bd W)
  have HAr := Lib.hid (fun W (h : TW W) => Parse_c s W hs h)
  have HBr := Lib.hid (fun W => RParse_c s W hs)
  clear hn hd hs
  go_enter Tryd.func10, Tryd.ntmps10
  go_wp2_with fail
  ((with_reducible refine (HH.out _ (HT.out.up (by (repeat (first | (with_reducible exact bl_refl _) | (with_reducible refine bl_drew ?_) | (with_reducible refine bl_alloc ?_ _) | (with_reducible refine bl_set' ?_ ?_; · (first | omega | (simp; done) | (simp; omega))) | (with_reducible refine bl_last (by assumption) ?_) | (with_reducible refine bl_drewN ?_ _))))).pw).mono ?_); rintro e u0 ⟨rfl, d0⟩)
  obtain ⟨hz0, hc0, hf0⟩ := bcl d0 (by first | (simp; rfl) | rfl)
  have z0_0 : w.heap.size < u0.heap.size := by omega
  have z0_1 : w.heap.size + 1 < u0.heap.size := by omega
  go_upto_region 2 with fail
  refine wp_letter ?_
  intro W0 hW0
  have k0 : Below w.heap.size w W0 := by
    rw [hW0]
    (repeat (first | (with_reducible assumption) | (with_reducible exact bl_refl _) | (with_reducible refine bl_alloc ?_ _) | (with_reducible refine bl_drew ?_) | (with_reducible refine bl_set' ?_ ?_; · (dsimp only; first | assumption | exact Nat.le_refl _ | omega)) | (with_reducible refine bl_last (by assumption) ?_)))
  have A0 : Blk W0 (w.heap.size) 25 #[.int .i64 an, .int .i64 ad] := by
    rw [hW0]
    (repeat (first | (with_reducible assumption) | (with_reducible apply Blk.new) | (with_reducible exact blkAt _ _ _ _ (by simp; done)) | (with_reducible apply blk_st2) | (with_reducible apply blk_st4) | (with_reducible apply blk_st6) | (with_reducible apply blk_far (hne := by first | (with_reducible assumption) | omega)) | (with_reducible apply blk_up (hb := by assumption)) | (with_reducible apply Blk.alloc) | (with_reducible apply blk_drew)))
  have B0 : Blk W0 (w.heap.size + 1) 25 #[.int .i64 bn, .int .i64 bd] := by
    rw [hW0]
    (repeat (first | (with_reducible assumption) | (with_reducible apply Blk.new) | (with_reducible exact blkAt _ _ _ _ (by simp; done)) | (with_reducible apply blk_st2) | (with_reducible apply blk_st4) | (with_reducible apply blk_st6) | (with_reducible apply blk_far (hne := by first | (with_reducible assumption) | omega)) | (with_reducible apply blk_up (hb := by assumption)) | (with_reducible apply Blk.alloc) | (with_reducible apply blk_drew)))
  clear hW0
  try clear hz0
  try clear hc0
  try clear hf0
  try clear d0
  try clear z0_0
  try clear z0_1
  have y0 := k0.size
  have gA0 := A0.lt
  have lA0 := Nat.le_of_lt gA0
  have gB0 := B0.lt
  have lB0 := Nat.le_of_lt gB0
  have cA0_0 := A0.cell 0
  have cA0_1 := A0.cell 1
  simp only [List.getElem?_toArray, List.getElem?_cons_zero, List.getElem?_cons_succ] at cA0_0 cA0_1
  go_region_held3 (fun W => W.cell? ⟨w.heap.size, 0, none⟩ = some (.int .i64 an) ∧ W.cell? ⟨w.heap.size, 1, none⟩ = some (.int .i64 ad))
    (first | go_keep | (refine ⟨?_, ?_⟩ <;> (go_simp; done)))
    (first | (go_at_call 13; ((with_reducible refine (HV1.out _).mono ?_); rintro en x91 ⟨rfl, b91⟩; obtain ⟨bz91, bc91, bf91⟩ := bcl b91 (by first | (simp; rfl) | rfl))) | (go_at_call 26; ((with_reducible refine (HV2.out _).mono ?_); rintro en x92 ⟨rfl, b92⟩; obtain ⟨bz92, bc92, bf92⟩ := bcl b92 (by first | (simp; rfl) | rfl))))
  refine exit_letter ?_
  intro W1 hW1
  have k1 : Below w.heap.size w W1 := by
    rw [hW1]
    (repeat (first | (with_reducible assumption) | (with_reducible exact bl_refl _) | (with_reducible refine bl_alloc ?_ _) | (with_reducible refine bl_drew ?_) | (with_reducible refine bl_set' ?_ ?_; · (dsimp only; first | assumption | exact Nat.le_refl _ | omega)) | (with_reducible refine bl_last (by assumption) ?_)))
  have A1 : Blk W1 (w.heap.size) 25 #[.int .i64 an, .int .i64 ad] := by
    rw [hW1]
    (repeat (first | (with_reducible assumption) | (with_reducible apply Blk.new) | (with_reducible exact blkAt _ _ _ _ (by simp; done)) | (with_reducible apply blk_st2) | (with_reducible apply blk_st4) | (with_reducible apply blk_st6) | (with_reducible apply blk_far (hne := by first | (with_reducible assumption) | omega)) | (with_reducible apply blk_up (hb := by assumption)) | (with_reducible apply Blk.alloc) | (with_reducible apply blk_drew)))
  have B1 : Blk W1 (w.heap.size + 1) 25 #[.int .i64 bn, .int .i64 bd] := by
    rw [hW1]
    (repeat (first | (with_reducible assumption) | (with_reducible apply Blk.new) | (with_reducible exact blkAt _ _ _ _ (by simp; done)) | (with_reducible apply blk_st2) | (with_reducible apply blk_st4) | (with_reducible apply blk_st6) | (with_reducible apply blk_far (hne := by first | (with_reducible assumption) | omega)) | (with_reducible apply blk_up (hb := by assumption)) | (with_reducible apply Blk.alloc) | (with_reducible apply blk_drew)))
  clear hW1
  try clear cA0_0
  try clear cA0_1
  try clear y0
  try clear k0
  try clear A0
  try clear B0
  try clear gA0
  try clear lA0
  try clear gB0
  try clear lB0
  try clear b91
  try clear b92
  try clear bz91
  try clear bz92
  try clear bc91
  try clear bc92
  try clear bf91
  try clear bf92
  have y1 := k1.size
  have gA1 := A1.lt
  have lA1 := Nat.le_of_lt gA1
  have gB1 := B1.lt
  have lB1 := Nat.le_of_lt gB1
  clear HV1 HV2
  go_wp2_with fail
  ((with_reducible refine (HAm.out _).mono ?_); rintro e u1 ⟨rfl, d1⟩)
  obtain ⟨hz1, hc1, hf1⟩ := bcl d1 (by first | (simp; rfl) | rfl)
  have qA1 : w.heap.size < u1.heap.size := by omega
  have pA1 : w.heap.size ≤ u1.heap.size := by omega
  have qB1 : w.heap.size + 1 < u1.heap.size := by omega
  have pB1 : w.heap.size + 1 ≤ u1.heap.size := by omega
  have oX : w.heap.size ≤ u1.heap.size := by omega
  have nAX : w.heap.size ≠ u1.heap.size := by omega
  have mAX : u1.heap.size ≠ w.heap.size := by omega
  have nBX : w.heap.size + 1 ≠ u1.heap.size := by omega
  have mBX : u1.heap.size ≠ w.heap.size + 1 := by omega
  go_wp2_with fail
  refine calls_letter ?_
  intro W2 hW2
  have k2 : Below w.heap.size w W2 := by
    rw [hW2]
    (repeat (first | (with_reducible assumption) | (with_reducible exact bl_refl _) | (with_reducible refine bl_alloc ?_ _) | (with_reducible refine bl_drew ?_) | (with_reducible refine bl_set' ?_ ?_; · (dsimp only; first | assumption | exact Nat.le_refl _ | omega)) | (with_reducible refine bl_last (by assumption) ?_)))
  have A2 : Blk W2 (w.heap.size) 25 #[.int .i64 an, .int .i64 ad] := by
    rw [hW2]
    (repeat (first | (with_reducible assumption) | (with_reducible apply Blk.new) | (with_reducible exact blkAt _ _ _ _ (by simp; done)) | (with_reducible apply blk_st2) | (with_reducible apply blk_st4) | (with_reducible apply blk_st6) | (with_reducible apply blk_far (hne := by first | (with_reducible assumption) | omega)) | (with_reducible apply blk_up (hb := by assumption)) | (with_reducible apply Blk.alloc) | (with_reducible apply blk_drew)))
  have B2 : Blk W2 (w.heap.size + 1) 25 #[.int .i64 bn, .int .i64 bd] := by
    rw [hW2]
    (repeat (first | (with_reducible assumption) | (with_reducible apply Blk.new) | (with_reducible exact blkAt _ _ _ _ (by simp; done)) | (with_reducible apply blk_st2) | (with_reducible apply blk_st4) | (with_reducible apply blk_st6) | (with_reducible apply blk_far (hne := by first | (with_reducible assumption) | omega)) | (with_reducible apply blk_up (hb := by assumption)) | (with_reducible apply Blk.alloc) | (with_reducible apply blk_drew)))
  have X2 : Blk W2 (u1.heap.size) 25 #[.int .i64 mN, .int .i64 mD] := by
    rw [hW2]
    (repeat (first | (with_reducible assumption) | (with_reducible apply Blk.new) | (with_reducible exact blkAt _ _ _ _ (by simp; done)) | (with_reducible apply blk_st2) | (with_reducible apply blk_st4) | (with_reducible apply blk_st6) | (with_reducible apply blk_far (hne := by first | (with_reducible assumption) | omega)) | (with_reducible apply blk_up (hb := by assumption)) | (with_reducible apply Blk.alloc) | (with_reducible apply blk_drew)))
  clear hW2
  try clear qB1
  try clear pB1
  try clear qA1
  try clear pA1
  try clear hz1
  try clear hc1
  try clear hf1
  try clear d1
  try clear y1
  try clear k1
  try clear A1
  try clear B1
  try clear gA1
  try clear lA1
  try clear gB1
  try clear lB1
  have y2 := k2.size
  have gA2 := A2.lt
  have lA2 := Nat.le_of_lt gA2
  have gB2 := B2.lt
  have lB2 := Nat.le_of_lt gB2
  have gX2 := X2.lt
  have lX2 := Nat.le_of_lt gX2
  have cX2_0 := X2.cell 0
  have cX2_1 := X2.cell 1
  simp only [List.getElem?_toArray, List.getElem?_cons_zero, List.getElem?_cons_succ] at cX2_0 cX2_1
  have cA2_0 := A2.cell 0
  have cA2_1 := A2.cell 1
  simp only [List.getElem?_toArray, List.getElem?_cons_zero, List.getElem?_cons_succ] at cA2_0 cA2_1
  have cB2_0 := B2.cell 0
  have cB2_1 := B2.cell 1
  simp only [List.getElem?_toArray, List.getElem?_cons_zero, List.getElem?_cons_succ] at cB2_0 cB2_1
  ((with_reducible refine (HBm.out _).mono ?_); rintro e u2 ⟨rfl, d2⟩)
  obtain ⟨hz2, hc2, hf2⟩ := bcl d2 (by first | (simp; rfl) | rfl)
  have qA2 : w.heap.size < u2.heap.size := by omega
  have pA2 : w.heap.size ≤ u2.heap.size := by omega
  have qB2 : w.heap.size + 1 < u2.heap.size := by omega
  have pB2 : w.heap.size + 1 ≤ u2.heap.size := by omega
  have qX2 : u1.heap.size < u2.heap.size := by omega
  have pX2 : u1.heap.size ≤ u2.heap.size := by omega
  have oY : w.heap.size ≤ u2.heap.size := by omega
  have nAY : w.heap.size ≠ u2.heap.size := by omega
  have mAY : u2.heap.size ≠ w.heap.size := by omega
  have nBY : w.heap.size + 1 ≠ u2.heap.size := by omega
  have mBY : u2.heap.size ≠ w.heap.size + 1 := by omega
  have nXY : u1.heap.size ≠ u2.heap.size := by omega
  have mXY : u2.heap.size ≠ u1.heap.size := by omega
  go_wp2_with fail
  refine calls_letter ?_
  intro W3 hW3
  have k3 : Below w.heap.size w W3 := by
    rw [hW3]
    (repeat (first | (with_reducible assumption) | (with_reducible exact bl_refl _) | (with_reducible refine bl_alloc ?_ _) | (with_reducible refine bl_drew ?_) | (with_reducible refine bl_set' ?_ ?_; · (dsimp only; first | assumption | exact Nat.le_refl _ | omega)) | (with_reducible refine bl_last (by assumption) ?_)))
  have A3 : Blk W3 (w.heap.size) 25 #[.int .i64 an, .int .i64 ad] := by
    rw [hW3]
    (repeat (first | (with_reducible assumption) | (with_reducible apply Blk.new) | (with_reducible exact blkAt _ _ _ _ (by simp; done)) | (with_reducible apply blk_st2) | (with_reducible apply blk_st4) | (with_reducible apply blk_st6) | (with_reducible apply blk_far (hne := by first | (with_reducible assumption) | omega)) | (with_reducible apply blk_up (hb := by assumption)) | (with_reducible apply Blk.alloc) | (with_reducible apply blk_drew)))
  have B3 : Blk W3 (w.heap.size + 1) 25 #[.int .i64 bn, .int .i64 bd] := by
    rw [hW3]
    (repeat (first | (with_reducible assumption) | (with_reducible apply Blk.new) | (with_reducible exact blkAt _ _ _ _ (by simp; done)) | (with_reducible apply blk_st2) | (with_reducible apply blk_st4) | (with_reducible apply blk_st6) | (with_reducible apply blk_far (hne := by first | (with_reducible assumption) | omega)) | (with_reducible apply blk_up (hb := by assumption)) | (with_reducible apply Blk.alloc) | (with_reducible apply blk_drew)))
  have X3 : Blk W3 (u1.heap.size) 25 #[.int .i64 mN, .int .i64 mD] := by
    rw [hW3]
    (repeat (first | (with_reducible assumption) | (with_reducible apply Blk.new) | (with_reducible exact blkAt _ _ _ _ (by simp; done)) | (with_reducible apply blk_st2) | (with_reducible apply blk_st4) | (with_reducible apply blk_st6) | (with_reducible apply blk_far (hne := by first | (with_reducible assumption) | omega)) | (with_reducible apply blk_up (hb := by assumption)) | (with_reducible apply Blk.alloc) | (with_reducible apply blk_drew)))
  have Y3 : Blk W3 (u2.heap.size) 25 #[.int .i64 mN, .int .i64 mD] := by
    rw [hW3]
    (repeat (first | (with_reducible assumption) | (with_reducible apply Blk.new) | (with_reducible exact blkAt _ _ _ _ (by simp; done)) | (with_reducible apply blk_st2) | (with_reducible apply blk_st4) | (with_reducible apply blk_st6) | (with_reducible apply blk_far (hne := by first | (with_reducible assumption) | omega)) | (with_reducible apply blk_up (hb := by assumption)) | (with_reducible apply Blk.alloc) | (with_reducible apply blk_drew)))
  clear hW3
  try clear qX2
  try clear pX2
  try clear qB2
  try clear pB2
  try clear qA2
  try clear pA2
  try clear hz2
  try clear hc2
  try clear hf2
  try clear d2
  try clear cB2_0
  try clear cB2_1
  try clear cA2_0
  try clear cA2_1
  try clear cX2_0
  try clear cX2_1
  try clear y2
  try clear k2
  try clear A2
  try clear B2
  try clear X2
  try clear gA2
  try clear lA2
  try clear gB2
  try clear lB2
  try clear gX2
  try clear lX2
  have y3 := k3.size
  have gA3 := A3.lt
  have lA3 := Nat.le_of_lt gA3
  have gB3 := B3.lt
  have lB3 := Nat.le_of_lt gB3
  have gX3 := X3.lt
  have lX3 := Nat.le_of_lt gX3
  have gY3 := Y3.lt
  have lY3 := Nat.le_of_lt gY3
  have cA3_0 := A3.cell 0
  have cA3_1 := A3.cell 1
  simp only [List.getElem?_toArray, List.getElem?_cons_zero, List.getElem?_cons_succ] at cA3_0 cA3_1
  have cB3_0 := B3.cell 0
  have cB3_1 := B3.cell 1
  simp only [List.getElem?_toArray, List.getElem?_cons_zero, List.getElem?_cons_succ] at cB3_0 cB3_1
  have cX3_0 := X3.cell 0
  have cX3_1 := X3.cell 1
  simp only [List.getElem?_toArray, List.getElem?_cons_zero, List.getElem?_cons_succ] at cX3_0 cX3_1
  have fX3_0 := X3.frozen 0
  have fX3_1 := X3.frozen 1
  ((with_reducible refine (HAa.out _).mono ?_); rintro e u3 ⟨rfl, d3⟩)
  obtain ⟨hz3, hc3, hf3⟩ := bcl d3 (by first | (simp; rfl) | rfl)
  have qA3 : w.heap.size < u3.heap.size := by omega
  have pA3 : w.heap.size ≤ u3.heap.size := by omega
  have qB3 : w.heap.size + 1 < u3.heap.size := by omega
  have pB3 : w.heap.size + 1 ≤ u3.heap.size := by omega
  have qX3 : u1.heap.size < u3.heap.size := by omega
  have pX3 : u1.heap.size ≤ u3.heap.size := by omega
  have qY3 : u2.heap.size < u3.heap.size := by omega
  have pY3 : u2.heap.size ≤ u3.heap.size := by omega
  go_wp2_with fail
  refine calls_letter ?_
  intro W4 hW4
  have k4 : Below w.heap.size w W4 := by
    rw [hW4]
    (repeat (first | (with_reducible assumption) | (with_reducible exact bl_refl _) | (with_reducible refine bl_alloc ?_ _) | (with_reducible refine bl_drew ?_) | (with_reducible refine bl_set' ?_ ?_; · (dsimp only; first | assumption | exact Nat.le_refl _ | omega)) | (with_reducible refine bl_last (by assumption) ?_)))
  have A4 : Blk W4 (w.heap.size) 25 #[.int .i64 an, .int .i64 ad] := by
    rw [hW4]
    (repeat (first | (with_reducible assumption) | (with_reducible apply Blk.new) | (with_reducible exact blkAt _ _ _ _ (by simp; done)) | (with_reducible apply blk_st2) | (with_reducible apply blk_st4) | (with_reducible apply blk_st6) | (with_reducible apply blk_far (hne := by first | (with_reducible assumption) | omega)) | (with_reducible apply blk_up (hb := by assumption)) | (with_reducible apply Blk.alloc) | (with_reducible apply blk_drew)))
  have B4 : Blk W4 (w.heap.size + 1) 25 #[.int .i64 bn, .int .i64 bd] := by
    rw [hW4]
    (repeat (first | (with_reducible assumption) | (with_reducible apply Blk.new) | (with_reducible exact blkAt _ _ _ _ (by simp; done)) | (with_reducible apply blk_st2) | (with_reducible apply blk_st4) | (with_reducible apply blk_st6) | (with_reducible apply blk_far (hne := by first | (with_reducible assumption) | omega)) | (with_reducible apply blk_up (hb := by assumption)) | (with_reducible apply Blk.alloc) | (with_reducible apply blk_drew)))
  have X4 : Blk W4 (u1.heap.size) 25 #[.int .i64 aN, .int .i64 aD] := by
    rw [hW4]
    (repeat (first | (with_reducible assumption) | (with_reducible apply Blk.new) | (with_reducible exact blkAt _ _ _ _ (by simp; done)) | (with_reducible apply blk_st2) | (with_reducible apply blk_st4) | (with_reducible apply blk_st6) | (with_reducible apply blk_far (hne := by first | (with_reducible assumption) | omega)) | (with_reducible apply blk_up (hb := by assumption)) | (with_reducible apply Blk.alloc) | (with_reducible apply blk_drew)))
  have Y4 : Blk W4 (u2.heap.size) 25 #[.int .i64 mN, .int .i64 mD] := by
    rw [hW4]
    (repeat (first | (with_reducible assumption) | (with_reducible apply Blk.new) | (with_reducible exact blkAt _ _ _ _ (by simp; done)) | (with_reducible apply blk_st2) | (with_reducible apply blk_st4) | (with_reducible apply blk_st6) | (with_reducible apply blk_far (hne := by first | (with_reducible assumption) | omega)) | (with_reducible apply blk_up (hb := by assumption)) | (with_reducible apply Blk.alloc) | (with_reducible apply blk_drew)))
  clear hW4
  try clear qY3
  try clear pY3
  try clear qX3
  try clear pX3
  try clear qB3
  try clear pB3
  try clear qA3
  try clear pA3
  try clear hz3
  try clear hc3
  try clear hf3
  try clear d3
  try clear fX3_1
  try clear fX3_0
  try clear cX3_0
  try clear cX3_1
  try clear cB3_0
  try clear cB3_1
  try clear cA3_0
  try clear cA3_1
  try clear y3
  try clear k3
  try clear A3
  try clear B3
  try clear X3
  try clear Y3
  try clear gA3
  try clear lA3
  try clear gB3
  try clear lB3
  try clear gX3
  try clear lX3
  try clear gY3
  try clear lY3
  have y4 := k4.size
  have gA4 := A4.lt
  have lA4 := Nat.le_of_lt gA4
  have gB4 := B4.lt
  have lB4 := Nat.le_of_lt gB4
  have gX4 := X4.lt
  have lX4 := Nat.le_of_lt gX4
  have gY4 := Y4.lt
  have lY4 := Nat.le_of_lt gY4
  have cX4_0 := X4.cell 0
  have cX4_1 := X4.cell 1
  simp only [List.getElem?_toArray, List.getElem?_cons_zero, List.getElem?_cons_succ] at cX4_0 cX4_1
  have cA4_0 := A4.cell 0
  have cA4_1 := A4.cell 1
  simp only [List.getElem?_toArray, List.getElem?_cons_zero, List.getElem?_cons_succ] at cA4_0 cA4_1
  have cB4_0 := B4.cell 0
  have cB4_1 := B4.cell 1
  simp only [List.getElem?_toArray, List.getElem?_cons_zero, List.getElem?_cons_succ] at cB4_0 cB4_1
  have cY4_0 := Y4.cell 0
  have cY4_1 := Y4.cell 1
  simp only [List.getElem?_toArray, List.getElem?_cons_zero, List.getElem?_cons_succ] at cY4_0 cY4_1
  have fY4_0 := Y4.frozen 0
  have fY4_1 := Y4.frozen 1
  ((with_reducible refine (HBa.out _).mono ?_); rintro e u4 ⟨rfl, d4⟩)
  obtain ⟨hz4, hc4, hf4⟩ := bcl d4 (by first | (simp; rfl) | rfl)
  have qA4 : w.heap.size < u4.heap.size := by omega
  have pA4 : w.heap.size ≤ u4.heap.size := by omega
  have qB4 : w.heap.size + 1 < u4.heap.size := by omega
  have pB4 : w.heap.size + 1 ≤ u4.heap.size := by omega
  have qX4 : u1.heap.size < u4.heap.size := by omega
  have pX4 : u1.heap.size ≤ u4.heap.size := by omega
  have qY4 : u2.heap.size < u4.heap.size := by omega
  have pY4 : u2.heap.size ≤ u4.heap.size := by omega
  go_wp2_with fail
  refine calls_letter ?_
  intro W5 hW5
  have k5 : Below w.heap.size w W5 := by
    rw [hW5]
    (repeat (first | (with_reducible assumption) | (with_reducible exact bl_refl _) | (with_reducible refine bl_alloc ?_ _) | (with_reducible refine bl_drew ?_) | (with_reducible refine bl_set' ?_ ?_; · (dsimp only; first | assumption | exact Nat.le_refl _ | omega)) | (with_reducible refine bl_last (by assumption) ?_)))
  have A5 : Blk W5 (w.heap.size) 25 #[.int .i64 an, .int .i64 ad] := by
    rw [hW5]
    (repeat (first | (with_reducible assumption) | (with_reducible apply Blk.new) | (with_reducible exact blkAt _ _ _ _ (by simp; done)) | (with_reducible apply blk_st2) | (with_reducible apply blk_st4) | (with_reducible apply blk_st6) | (with_reducible apply blk_far (hne := by first | (with_reducible assumption) | omega)) | (with_reducible apply blk_up (hb := by assumption)) | (with_reducible apply Blk.alloc) | (with_reducible apply blk_drew)))
  have B5 : Blk W5 (w.heap.size + 1) 25 #[.int .i64 bn, .int .i64 bd] := by
    rw [hW5]
    (repeat (first | (with_reducible assumption) | (with_reducible apply Blk.new) | (with_reducible exact blkAt _ _ _ _ (by simp; done)) | (with_reducible apply blk_st2) | (with_reducible apply blk_st4) | (with_reducible apply blk_st6) | (with_reducible apply blk_far (hne := by first | (with_reducible assumption) | omega)) | (with_reducible apply blk_up (hb := by assumption)) | (with_reducible apply Blk.alloc) | (with_reducible apply blk_drew)))
  have X5 : Blk W5 (u1.heap.size) 25 #[.int .i64 aN, .int .i64 aD] := by
    rw [hW5]
    (repeat (first | (with_reducible assumption) | (with_reducible apply Blk.new) | (with_reducible exact blkAt _ _ _ _ (by simp; done)) | (with_reducible apply blk_st2) | (with_reducible apply blk_st4) | (with_reducible apply blk_st6) | (with_reducible apply blk_far (hne := by first | (with_reducible assumption) | omega)) | (with_reducible apply blk_up (hb := by assumption)) | (with_reducible apply Blk.alloc) | (with_reducible apply blk_drew)))
  have Y5 : Blk W5 (u2.heap.size) 25 #[.int .i64 aN, .int .i64 aD] := by
    rw [hW5]
    (repeat (first | (with_reducible assumption) | (with_reducible apply Blk.new) | (with_reducible exact blkAt _ _ _ _ (by simp; done)) | (with_reducible apply blk_st2) | (with_reducible apply blk_st4) | (with_reducible apply blk_st6) | (with_reducible apply blk_far (hne := by first | (with_reducible assumption) | omega)) | (with_reducible apply blk_up (hb := by assumption)) | (with_reducible apply Blk.alloc) | (with_reducible apply blk_drew)))
  clear hW5
  try clear qY4
  try clear pY4
  try clear qX4
  try clear pX4
  try clear qB4
  try clear pB4
  try clear qA4
  try clear pA4
  try clear hz4
  try clear hc4
  try clear hf4
  try clear d4
  try clear fY4_1
  try clear fY4_0
  try clear cY4_0
  try clear cY4_1
  try clear cB4_0
  try clear cB4_1
  try clear cA4_0
  try clear cA4_1
  try clear cX4_0
  try clear cX4_1
  try clear y4
  try clear k4
  try clear A4
  try clear B4
  try clear X4
  try clear Y4
  try clear gA4
  try clear lA4
  try clear gB4
  try clear lB4
  try clear gX4
  try clear lX4
  try clear gY4
  try clear lY4
  have y5 := k5.size
  have gA5 := A5.lt
  have lA5 := Nat.le_of_lt gA5
  have gB5 := B5.lt
  have lB5 := Nat.le_of_lt gB5
  have gX5 := X5.lt
  have lX5 := Nat.le_of_lt gX5
  have gY5 := Y5.lt
  have lY5 := Nat.le_of_lt gY5
  have cA5_0 := A5.cell 0
  have cA5_1 := A5.cell 1
  simp only [List.getElem?_toArray, List.getElem?_cons_zero, List.getElem?_cons_succ] at cA5_0 cA5_1
  have cB5_0 := B5.cell 0
  have cB5_1 := B5.cell 1
  simp only [List.getElem?_toArray, List.getElem?_cons_zero, List.getElem?_cons_succ] at cB5_0 cB5_1
  have cX5_0 := X5.cell 0
  have cX5_1 := X5.cell 1
  simp only [List.getElem?_toArray, List.getElem?_cons_zero, List.getElem?_cons_succ] at cX5_0 cX5_1
  have fX5_0 := X5.frozen 0
  have fX5_1 := X5.frozen 1
  ((with_reducible refine (HAs.out _).mono ?_); rintro e u5 ⟨rfl, d5⟩)
  obtain ⟨hz5, hc5, hf5⟩ := bcl d5 (by first | (simp; rfl) | rfl)
  have qA5 : w.heap.size < u5.heap.size := by omega
  have pA5 : w.heap.size ≤ u5.heap.size := by omega
  have qB5 : w.heap.size + 1 < u5.heap.size := by omega
  have pB5 : w.heap.size + 1 ≤ u5.heap.size := by omega
  have qX5 : u1.heap.size < u5.heap.size := by omega
  have pX5 : u1.heap.size ≤ u5.heap.size := by omega
  have qY5 : u2.heap.size < u5.heap.size := by omega
  have pY5 : u2.heap.size ≤ u5.heap.size := by omega
  go_wp2_with fail
  refine calls_letter ?_
  intro W6 hW6
  have k6 : Below w.heap.size w W6 := by
    rw [hW6]
    (repeat (first | (with_reducible assumption) | (with_reducible exact bl_refl _) | (with_reducible refine bl_alloc ?_ _) | (with_reducible refine bl_drew ?_) | (with_reducible refine bl_set' ?_ ?_; · (dsimp only; first | assumption | exact Nat.le_refl _ | omega)) | (with_reducible refine bl_last (by assumption) ?_)))
  have A6 : Blk W6 (w.heap.size) 25 #[.int .i64 an, .int .i64 ad] := by
    rw [hW6]
    (repeat (first | (with_reducible assumption) | (with_reducible apply Blk.new) | (with_reducible exact blkAt _ _ _ _ (by simp; done)) | (with_reducible apply blk_st2) | (with_reducible apply blk_st4) | (with_reducible apply blk_st6) | (with_reducible apply blk_far (hne := by first | (with_reducible assumption) | omega)) | (with_reducible apply blk_up (hb := by assumption)) | (with_reducible apply Blk.alloc) | (with_reducible apply blk_drew)))
  have B6 : Blk W6 (w.heap.size + 1) 25 #[.int .i64 bn, .int .i64 bd] := by
    rw [hW6]
    (repeat (first | (with_reducible assumption) | (with_reducible apply Blk.new) | (with_reducible exact blkAt _ _ _ _ (by simp; done)) | (with_reducible apply blk_st2) | (with_reducible apply blk_st4) | (with_reducible apply blk_st6) | (with_reducible apply blk_far (hne := by first | (with_reducible assumption) | omega)) | (with_reducible apply blk_up (hb := by assumption)) | (with_reducible apply Blk.alloc) | (with_reducible apply blk_drew)))
  have X6 : Blk W6 (u1.heap.size) 25 #[.int .i64 sN, .int .i64 sD] := by
    rw [hW6]
    (repeat (first | (with_reducible assumption) | (with_reducible apply Blk.new) | (with_reducible exact blkAt _ _ _ _ (by simp; done)) | (with_reducible apply blk_st2) | (with_reducible apply blk_st4) | (with_reducible apply blk_st6) | (with_reducible apply blk_far (hne := by first | (with_reducible assumption) | omega)) | (with_reducible apply blk_up (hb := by assumption)) | (with_reducible apply Blk.alloc) | (with_reducible apply blk_drew)))
  have Y6 : Blk W6 (u2.heap.size) 25 #[.int .i64 aN, .int .i64 aD] := by
    rw [hW6]
    (repeat (first | (with_reducible assumption) | (with_reducible apply Blk.new) | (with_reducible exact blkAt _ _ _ _ (by simp; done)) | (with_reducible apply blk_st2) | (with_reducible apply blk_st4) | (with_reducible apply blk_st6) | (with_reducible apply blk_far (hne := by first | (with_reducible assumption) | omega)) | (with_reducible apply blk_up (hb := by assumption)) | (with_reducible apply Blk.alloc) | (with_reducible apply blk_drew)))
  clear hW6
  try clear qY5
  try clear pY5
  try clear qX5
  try clear pX5
  try clear qB5
  try clear pB5
  try clear qA5
  try clear pA5
  try clear hz5
  try clear hc5
  try clear hf5
  try clear d5
  try clear fX5_1
  try clear fX5_0
  try clear cX5_0
  try clear cX5_1
  try clear cB5_0
  try clear cB5_1
  try clear cA5_0
  try clear cA5_1
  try clear y5
  try clear k5
  try clear A5
  try clear B5
  try clear X5
  try clear Y5
  try clear gA5
  try clear lA5
  try clear gB5
  try clear lB5
  try clear gX5
  try clear lX5
  try clear gY5
  try clear lY5
  have y6 := k6.size
  have gA6 := A6.lt
  have lA6 := Nat.le_of_lt gA6
  have gB6 := B6.lt
  have lB6 := Nat.le_of_lt gB6
  have gX6 := X6.lt
  have lX6 := Nat.le_of_lt gX6
  have gY6 := Y6.lt
  have lY6 := Nat.le_of_lt gY6
  have cX6_0 := X6.cell 0
  have cX6_1 := X6.cell 1
  simp only [List.getElem?_toArray, List.getElem?_cons_zero, List.getElem?_cons_succ] at cX6_0 cX6_1
  have cA6_0 := A6.cell 0
  have cA6_1 := A6.cell 1
  simp only [List.getElem?_toArray, List.getElem?_cons_zero, List.getElem?_cons_succ] at cA6_0 cA6_1
  have cB6_0 := B6.cell 0
  have cB6_1 := B6.cell 1
  simp only [List.getElem?_toArray, List.getElem?_cons_zero, List.getElem?_cons_succ] at cB6_0 cB6_1
  have cY6_0 := Y6.cell 0
  have cY6_1 := Y6.cell 1
  simp only [List.getElem?_toArray, List.getElem?_cons_zero, List.getElem?_cons_succ] at cY6_0 cY6_1
  have fY6_0 := Y6.frozen 0
  have fY6_1 := Y6.frozen 1
  ((with_reducible refine (HBs.out _).mono ?_); rintro e u6 ⟨rfl, d6⟩)
  obtain ⟨hz6, hc6, hf6⟩ := bcl d6 (by first | (simp; rfl) | rfl)
  have qA6 : w.heap.size < u6.heap.size := by omega
  have pA6 : w.heap.size ≤ u6.heap.size := by omega
  have qB6 : w.heap.size + 1 < u6.heap.size := by omega
  have pB6 : w.heap.size + 1 ≤ u6.heap.size := by omega
  have qX6 : u1.heap.size < u6.heap.size := by omega
  have pX6 : u1.heap.size ≤ u6.heap.size := by omega
  have qY6 : u2.heap.size < u6.heap.size := by omega
  have pY6 : u2.heap.size ≤ u6.heap.size := by omega
  go_wp2_with fail
  refine calls_letter ?_
  intro W7 hW7
  have k7 : Below w.heap.size w W7 := by
    rw [hW7]
    (repeat (first | (with_reducible assumption) | (with_reducible exact bl_refl _) | (with_reducible refine bl_alloc ?_ _) | (with_reducible refine bl_drew ?_) | (with_reducible refine bl_set' ?_ ?_; · (dsimp only; first | assumption | exact Nat.le_refl _ | omega)) | (with_reducible refine bl_last (by assumption) ?_)))
  have A7 : Blk W7 (w.heap.size) 25 #[.int .i64 an, .int .i64 ad] := by
    rw [hW7]
    (repeat (first | (with_reducible assumption) | (with_reducible apply Blk.new) | (with_reducible exact blkAt _ _ _ _ (by simp; done)) | (with_reducible apply blk_st2) | (with_reducible apply blk_st4) | (with_reducible apply blk_st6) | (with_reducible apply blk_far (hne := by first | (with_reducible assumption) | omega)) | (with_reducible apply blk_up (hb := by assumption)) | (with_reducible apply Blk.alloc) | (with_reducible apply blk_drew)))
  have B7 : Blk W7 (w.heap.size + 1) 25 #[.int .i64 bn, .int .i64 bd] := by
    rw [hW7]
    (repeat (first | (with_reducible assumption) | (with_reducible apply Blk.new) | (with_reducible exact blkAt _ _ _ _ (by simp; done)) | (with_reducible apply blk_st2) | (with_reducible apply blk_st4) | (with_reducible apply blk_st6) | (with_reducible apply blk_far (hne := by first | (with_reducible assumption) | omega)) | (with_reducible apply blk_up (hb := by assumption)) | (with_reducible apply Blk.alloc) | (with_reducible apply blk_drew)))
  have X7 : Blk W7 (u1.heap.size) 25 #[.int .i64 sN, .int .i64 sD] := by
    rw [hW7]
    (repeat (first | (with_reducible assumption) | (with_reducible apply Blk.new) | (with_reducible exact blkAt _ _ _ _ (by simp; done)) | (with_reducible apply blk_st2) | (with_reducible apply blk_st4) | (with_reducible apply blk_st6) | (with_reducible apply blk_far (hne := by first | (with_reducible assumption) | omega)) | (with_reducible apply blk_up (hb := by assumption)) | (with_reducible apply Blk.alloc) | (with_reducible apply blk_drew)))
  have Y7 : Blk W7 (u2.heap.size) 25 #[.int .i64 sN, .int .i64 sD] := by
    rw [hW7]
    (repeat (first | (with_reducible assumption) | (with_reducible apply Blk.new) | (with_reducible exact blkAt _ _ _ _ (by simp; done)) | (with_reducible apply blk_st2) | (with_reducible apply blk_st4) | (with_reducible apply blk_st6) | (with_reducible apply blk_far (hne := by first | (with_reducible assumption) | omega)) | (with_reducible apply blk_up (hb := by assumption)) | (with_reducible apply Blk.alloc) | (with_reducible apply blk_drew)))
  clear hW7
  try clear qY6
  try clear pY6
  try clear qX6
  try clear pX6
  try clear qB6
  try clear pB6
  try clear qA6
  try clear pA6
  try clear hz6
  try clear hc6
  try clear hf6
  try clear d6
  try clear fY6_1
  try clear fY6_0
  try clear cY6_0
  try clear cY6_1
  try clear cB6_0
  try clear cB6_1
  try clear cA6_0
  try clear cA6_1
  try clear cX6_0
  try clear cX6_1
  try clear y6
  try clear k6
  try clear A6
  try clear B6
  try clear X6
  try clear Y6
  try clear gA6
  try clear lA6
  try clear gB6
  try clear lB6
  try clear gX6
  try clear lX6
  try clear gY6
  try clear lY6
  have y7 := k7.size
  have gA7 := A7.lt
  have lA7 := Nat.le_of_lt gA7
  have gB7 := B7.lt
  have lB7 := Nat.le_of_lt gB7
  have gX7 := X7.lt
  have lX7 := Nat.le_of_lt gX7
  have gY7 := Y7.lt
  have lY7 := Nat.le_of_lt gY7
  have cA7_0 := A7.cell 0
  have cA7_1 := A7.cell 1
  simp only [List.getElem?_toArray, List.getElem?_cons_zero, List.getElem?_cons_succ] at cA7_0 cA7_1
  have cB7_0 := B7.cell 0
  have cB7_1 := B7.cell 1
  simp only [List.getElem?_toArray, List.getElem?_cons_zero, List.getElem?_cons_succ] at cB7_0 cB7_1
  have cX7_0 := X7.cell 0
  have cX7_1 := X7.cell 1
  simp only [List.getElem?_toArray, List.getElem?_cons_zero, List.getElem?_cons_succ] at cX7_0 cX7_1
  have fX7_0 := X7.frozen 0
  have fX7_1 := X7.frozen 1
  ((with_reducible refine (HAp.out _).mono ?_); rintro e u7 ⟨rfl, d7⟩)
  obtain ⟨hz7, hc7, hf7⟩ := bcl d7 (by first | (simp; rfl) | rfl)
  have qA7 : w.heap.size < u7.heap.size := by omega
  have pA7 : w.heap.size ≤ u7.heap.size := by omega
  have qB7 : w.heap.size + 1 < u7.heap.size := by omega
  have pB7 : w.heap.size + 1 ≤ u7.heap.size := by omega
  have qX7 : u1.heap.size < u7.heap.size := by omega
  have pX7 : u1.heap.size ≤ u7.heap.size := by omega
  have qY7 : u2.heap.size < u7.heap.size := by omega
  have pY7 : u2.heap.size ≤ u7.heap.size := by omega
  go_wp2_with fail
  refine calls_letter ?_
  intro W8 hW8
  have k8 : Below w.heap.size w W8 := by
    rw [hW8]
    (repeat (first | (with_reducible assumption) | (with_reducible exact bl_refl _) | (with_reducible refine bl_alloc ?_ _) | (with_reducible refine bl_drew ?_) | (with_reducible refine bl_set' ?_ ?_; · (dsimp only; first | assumption | exact Nat.le_refl _ | omega)) | (with_reducible refine bl_last (by assumption) ?_)))
  have A8 : Blk W8 (w.heap.size) 25 #[.int .i64 an, .int .i64 ad] := by
    rw [hW8]
    (repeat (first | (with_reducible assumption) | (with_reducible apply Blk.new) | (with_reducible exact blkAt _ _ _ _ (by simp; done)) | (with_reducible apply blk_st2) | (with_reducible apply blk_st4) | (with_reducible apply blk_st6) | (with_reducible apply blk_far (hne := by first | (with_reducible assumption) | omega)) | (with_reducible apply blk_up (hb := by assumption)) | (with_reducible apply Blk.alloc) | (with_reducible apply blk_drew)))
  have B8 : Blk W8 (w.heap.size + 1) 25 #[.int .i64 bn, .int .i64 bd] := by
    rw [hW8]
    (repeat (first | (with_reducible assumption) | (with_reducible apply Blk.new) | (with_reducible exact blkAt _ _ _ _ (by simp; done)) | (with_reducible apply blk_st2) | (with_reducible apply blk_st4) | (with_reducible apply blk_st6) | (with_reducible apply blk_far (hne := by first | (with_reducible assumption) | omega)) | (with_reducible apply blk_up (hb := by assumption)) | (with_reducible apply Blk.alloc) | (with_reducible apply blk_drew)))
  have X8 : Blk W8 (u1.heap.size) 25 #[.int .i64 pN, .int .i64 pD] := by
    rw [hW8]
    (repeat (first | (with_reducible assumption) | (with_reducible apply Blk.new) | (with_reducible exact blkAt _ _ _ _ (by simp; done)) | (with_reducible apply blk_st2) | (with_reducible apply blk_st4) | (with_reducible apply blk_st6) | (with_reducible apply blk_far (hne := by first | (with_reducible assumption) | omega)) | (with_reducible apply blk_up (hb := by assumption)) | (with_reducible apply Blk.alloc) | (with_reducible apply blk_drew)))
  have Y8 : Blk W8 (u2.heap.size) 25 #[.int .i64 sN, .int .i64 sD] := by
    rw [hW8]
    (repeat (first | (with_reducible assumption) | (with_reducible apply Blk.new) | (with_reducible exact blkAt _ _ _ _ (by simp; done)) | (with_reducible apply blk_st2) | (with_reducible apply blk_st4) | (with_reducible apply blk_st6) | (with_reducible apply blk_far (hne := by first | (with_reducible assumption) | omega)) | (with_reducible apply blk_up (hb := by assumption)) | (with_reducible apply Blk.alloc) | (with_reducible apply blk_drew)))
  clear hW8
  try clear qY7
  try clear pY7
  try clear qX7
  try clear pX7
  try clear qB7
  try clear pB7
  try clear qA7
  try clear pA7
  try clear hz7
  try clear hc7
  try clear hf7
  try clear d7
  try clear fX7_1
  try clear fX7_0
  try clear cX7_0
  try clear cX7_1
  try clear cB7_0
  try clear cB7_1
  try clear cA7_0
  try clear cA7_1
  try clear y7
  try clear k7
  try clear A7
  try clear B7
  try clear X7
  try clear Y7
  try clear gA7
  try clear lA7
  try clear gB7
  try clear lB7
  try clear gX7
  try clear lX7
  try clear gY7
  try clear lY7
  have y8 := k8.size
  have gA8 := A8.lt
  have lA8 := Nat.le_of_lt gA8
  have gB8 := B8.lt
  have lB8 := Nat.le_of_lt gB8
  have gX8 := X8.lt
  have lX8 := Nat.le_of_lt gX8
  have gY8 := Y8.lt
  have lY8 := Nat.le_of_lt gY8
  have cX8_0 := X8.cell 0
  have cX8_1 := X8.cell 1
  simp only [List.getElem?_toArray, List.getElem?_cons_zero, List.getElem?_cons_succ] at cX8_0 cX8_1
  have cA8_0 := A8.cell 0
  have cA8_1 := A8.cell 1
  simp only [List.getElem?_toArray, List.getElem?_cons_zero, List.getElem?_cons_succ] at cA8_0 cA8_1
  have cB8_0 := B8.cell 0
  have cB8_1 := B8.cell 1
  simp only [List.getElem?_toArray, List.getElem?_cons_zero, List.getElem?_cons_succ] at cB8_0 cB8_1
  have cY8_0 := Y8.cell 0
  have cY8_1 := Y8.cell 1
  simp only [List.getElem?_toArray, List.getElem?_cons_zero, List.getElem?_cons_succ] at cY8_0 cY8_1
  have fY8_0 := Y8.frozen 0
  have fY8_1 := Y8.frozen 1
  ((with_reducible refine (HBp.out _).mono ?_); rintro e u8 ⟨rfl, d8⟩)
  obtain ⟨hz8, hc8, hf8⟩ := bcl d8 (by first | (simp; rfl) | rfl)
  have qA8 : w.heap.size < u8.heap.size := by omega
  have pA8 : w.heap.size ≤ u8.heap.size := by omega
  have qB8 : w.heap.size + 1 < u8.heap.size := by omega
  have pB8 : w.heap.size + 1 ≤ u8.heap.size := by omega
  have qX8 : u1.heap.size < u8.heap.size := by omega
  have pX8 : u1.heap.size ≤ u8.heap.size := by omega
  have qY8 : u2.heap.size < u8.heap.size := by omega
  have pY8 : u2.heap.size ≤ u8.heap.size := by omega
  go_wp2_with fail
  refine calls_letter ?_
  intro W9 hW9
  have k9 : Below w.heap.size w W9 := by
    rw [hW9]
    (repeat (first | (with_reducible assumption) | (with_reducible exact bl_refl _) | (with_reducible refine bl_alloc ?_ _) | (with_reducible refine bl_drew ?_) | (with_reducible refine bl_set' ?_ ?_; · (dsimp only; first | assumption | exact Nat.le_refl _ | omega)) | (with_reducible refine bl_last (by assumption) ?_)))
  have A9 : Blk W9 (w.heap.size) 25 #[.int .i64 an, .int .i64 ad] := by
    rw [hW9]
    (repeat (first | (with_reducible assumption) | (with_reducible apply Blk.new) | (with_reducible exact blkAt _ _ _ _ (by simp; done)) | (with_reducible apply blk_st2) | (with_reducible apply blk_st4) | (with_reducible apply blk_st6) | (with_reducible apply blk_far (hne := by first | (with_reducible assumption) | omega)) | (with_reducible apply blk_up (hb := by assumption)) | (with_reducible apply Blk.alloc) | (with_reducible apply blk_drew)))
  have B9 : Blk W9 (w.heap.size + 1) 25 #[.int .i64 bn, .int .i64 bd] := by
    rw [hW9]
    (repeat (first | (with_reducible assumption) | (with_reducible apply Blk.new) | (with_reducible exact blkAt _ _ _ _ (by simp; done)) | (with_reducible apply blk_st2) | (with_reducible apply blk_st4) | (with_reducible apply blk_st6) | (with_reducible apply blk_far (hne := by first | (with_reducible assumption) | omega)) | (with_reducible apply blk_up (hb := by assumption)) | (with_reducible apply Blk.alloc) | (with_reducible apply blk_drew)))
  have X9 : Blk W9 (u1.heap.size) 25 #[.int .i64 pN, .int .i64 pD] := by
    rw [hW9]
    (repeat (first | (with_reducible assumption) | (with_reducible apply Blk.new) | (with_reducible exact blkAt _ _ _ _ (by simp; done)) | (with_reducible apply blk_st2) | (with_reducible apply blk_st4) | (with_reducible apply blk_st6) | (with_reducible apply blk_far (hne := by first | (with_reducible assumption) | omega)) | (with_reducible apply blk_up (hb := by assumption)) | (with_reducible apply Blk.alloc) | (with_reducible apply blk_drew)))
  have Y9 : Blk W9 (u2.heap.size) 25 #[.int .i64 pN, .int .i64 pD] := by
    rw [hW9]
    (repeat (first | (with_reducible assumption) | (with_reducible apply Blk.new) | (with_reducible exact blkAt _ _ _ _ (by simp; done)) | (with_reducible apply blk_st2) | (with_reducible apply blk_st4) | (with_reducible apply blk_st6) | (with_reducible apply blk_far (hne := by first | (with_reducible assumption) | omega)) | (with_reducible apply blk_up (hb := by assumption)) | (with_reducible apply Blk.alloc) | (with_reducible apply blk_drew)))
  clear hW9
  try clear qY8
  try clear pY8
  try clear qX8
  try clear pX8
  try clear qB8
  try clear pB8
  try clear qA8
  try clear pA8
  try clear hz8
  try clear hc8
  try clear hf8
  try clear d8
  try clear fY8_1
  try clear fY8_0
  try clear cY8_0
  try clear cY8_1
  try clear cB8_0
  try clear cB8_1
  try clear cA8_0
  try clear cA8_1
  try clear cX8_0
  try clear cX8_1
  try clear y8
  try clear k8
  try clear A8
  try clear B8
  try clear X8
  try clear Y8
  try clear gA8
  try clear lA8
  try clear gB8
  try clear lB8
  try clear gX8
  try clear lX8
  try clear gY8
  try clear lY8
  have y9 := k9.size
  have gA9 := A9.lt
  have lA9 := Nat.le_of_lt gA9
  have gB9 := B9.lt
  have lB9 := Nat.le_of_lt gB9
  have gX9 := X9.lt
  have lX9 := Nat.le_of_lt gX9
  have gY9 := Y9.lt
  have lY9 := Nat.le_of_lt gY9
  have cA9_0 := A9.cell 0
  have cA9_1 := A9.cell 1
  simp only [List.getElem?_toArray, List.getElem?_cons_zero, List.getElem?_cons_succ] at cA9_0 cA9_1
  have cB9_0 := B9.cell 0
  have cB9_1 := B9.cell 1
  simp only [List.getElem?_toArray, List.getElem?_cons_zero, List.getElem?_cons_succ] at cB9_0 cB9_1
  have cX9_0 := X9.cell 0
  have cX9_1 := X9.cell 1
  simp only [List.getElem?_toArray, List.getElem?_cons_zero, List.getElem?_cons_succ] at cX9_0 cX9_1
  have fX9_0 := X9.frozen 0
  have fX9_1 := X9.frozen 1
  ((with_reducible refine (HAq.out _).mono ?_); rintro e u9 ⟨rfl, d9⟩)
  obtain ⟨hz9, hc9, hf9⟩ := bcl d9 (by first | (simp; rfl) | rfl)
  have qA9 : w.heap.size < u9.heap.size := by omega
  have pA9 : w.heap.size ≤ u9.heap.size := by omega
  have qB9 : w.heap.size + 1 < u9.heap.size := by omega
  have pB9 : w.heap.size + 1 ≤ u9.heap.size := by omega
  have qX9 : u1.heap.size < u9.heap.size := by omega
  have pX9 : u1.heap.size ≤ u9.heap.size := by omega
  have qY9 : u2.heap.size < u9.heap.size := by omega
  have pY9 : u2.heap.size ≤ u9.heap.size := by omega
  go_wp2_with fail
  refine calls_letter ?_
  intro W10 hW10
  have k10 : Below w.heap.size w W10 := by
    rw [hW10]
    (repeat (first | (with_reducible assumption) | (with_reducible exact bl_refl _) | (with_reducible refine bl_alloc ?_ _) | (with_reducible refine bl_drew ?_) | (with_reducible refine bl_set' ?_ ?_; · (dsimp only; first | assumption | exact Nat.le_refl _ | omega)) | (with_reducible refine bl_last (by assumption) ?_)))
  have A10 : Blk W10 (w.heap.size) 25 #[.int .i64 an, .int .i64 ad] := by
    rw [hW10]
    (repeat (first | (with_reducible assumption) | (with_reducible apply Blk.new) | (with_reducible exact blkAt _ _ _ _ (by simp; done)) | (with_reducible apply blk_st2) | (with_reducible apply blk_st4) | (with_reducible apply blk_st6) | (with_reducible apply blk_far (hne := by first | (with_reducible assumption) | omega)) | (with_reducible apply blk_up (hb := by assumption)) | (with_reducible apply Blk.alloc) | (with_reducible apply blk_drew)))
  have B10 : Blk W10 (w.heap.size + 1) 25 #[.int .i64 bn, .int .i64 bd] := by
    rw [hW10]
    (repeat (first | (with_reducible assumption) | (with_reducible apply Blk.new) | (with_reducible exact blkAt _ _ _ _ (by simp; done)) | (with_reducible apply blk_st2) | (with_reducible apply blk_st4) | (with_reducible apply blk_st6) | (with_reducible apply blk_far (hne := by first | (with_reducible assumption) | omega)) | (with_reducible apply blk_up (hb := by assumption)) | (with_reducible apply Blk.alloc) | (with_reducible apply blk_drew)))
  have X10 : Blk W10 (u1.heap.size) 25 #[.int .i64 qN, .int .i64 qD] := by
    rw [hW10]
    (repeat (first | (with_reducible assumption) | (with_reducible apply Blk.new) | (with_reducible exact blkAt _ _ _ _ (by simp; done)) | (with_reducible apply blk_st2) | (with_reducible apply blk_st4) | (with_reducible apply blk_st6) | (with_reducible apply blk_far (hne := by first | (with_reducible assumption) | omega)) | (with_reducible apply blk_up (hb := by assumption)) | (with_reducible apply Blk.alloc) | (with_reducible apply blk_drew)))
  have Y10 : Blk W10 (u2.heap.size) 25 #[.int .i64 pN, .int .i64 pD] := by
    rw [hW10]
    (repeat (first | (with_reducible assumption) | (with_reducible apply Blk.new) | (with_reducible exact blkAt _ _ _ _ (by simp; done)) | (with_reducible apply blk_st2) | (with_reducible apply blk_st4) | (with_reducible apply blk_st6) | (with_reducible apply blk_far (hne := by first | (with_reducible assumption) | omega)) | (with_reducible apply blk_up (hb := by assumption)) | (with_reducible apply Blk.alloc) | (with_reducible apply blk_drew)))
  clear hW10
  try clear qY9
  try clear pY9
  try clear qX9
  try clear pX9
  try clear qB9
  try clear pB9
  try clear qA9
  try clear pA9
  try clear hz9
  try clear hc9
  try clear hf9
  try clear d9
  try clear fX9_1
  try clear fX9_0
  try clear cX9_0
  try clear cX9_1
  try clear cB9_0
  try clear cB9_1
  try clear cA9_0
  try clear cA9_1
  try clear y9
  try clear k9
  try clear A9
  try clear B9
  try clear X9
  try clear Y9
  try clear gA9
  try clear lA9
  try clear gB9
  try clear lB9
  try clear gX9
  try clear lX9
  try clear gY9
  try clear lY9
  have y10 := k10.size
  have gA10 := A10.lt
  have lA10 := Nat.le_of_lt gA10
  have gB10 := B10.lt
  have lB10 := Nat.le_of_lt gB10
  have gX10 := X10.lt
  have lX10 := Nat.le_of_lt gX10
  have gY10 := Y10.lt
  have lY10 := Nat.le_of_lt gY10
  have cX10_0 := X10.cell 0
  have cX10_1 := X10.cell 1
  simp only [List.getElem?_toArray, List.getElem?_cons_zero, List.getElem?_cons_succ] at cX10_0 cX10_1
  have cA10_0 := A10.cell 0
  have cA10_1 := A10.cell 1
  simp only [List.getElem?_toArray, List.getElem?_cons_zero, List.getElem?_cons_succ] at cA10_0 cA10_1
  have cY10_0 := Y10.cell 0
  have cY10_1 := Y10.cell 1
  simp only [List.getElem?_toArray, List.getElem?_cons_zero, List.getElem?_cons_succ] at cY10_0 cY10_1
  have fY10_0 := Y10.frozen 0
  have fY10_1 := Y10.frozen 1
  ((with_reducible refine (HBq.out _).mono ?_); rintro e u10 ⟨rfl, d10⟩)
  obtain ⟨hz10, hc10, hf10⟩ := bcl d10 (by first | (simp; rfl) | rfl)
  have qA10 : w.heap.size < u10.heap.size := by omega
  have pA10 : w.heap.size ≤ u10.heap.size := by omega
  have qB10 : w.heap.size + 1 < u10.heap.size := by omega
  have pB10 : w.heap.size + 1 ≤ u10.heap.size := by omega
  have qX10 : u1.heap.size < u10.heap.size := by omega
  have pX10 : u1.heap.size ≤ u10.heap.size := by omega
  have qY10 : u2.heap.size < u10.heap.size := by omega
  have pY10 : u2.heap.size ≤ u10.heap.size := by omega
  go_wp2_with fail
  refine calls_letter ?_
  intro W11 hW11
  have k11 : Below w.heap.size w W11 := by
    rw [hW11]
    (repeat (first | (with_reducible assumption) | (with_reducible exact bl_refl _) | (with_reducible refine bl_alloc ?_ _) | (with_reducible refine bl_drew ?_) | (with_reducible refine bl_set' ?_ ?_; · (dsimp only; first | assumption | exact Nat.le_refl _ | omega)) | (with_reducible refine bl_last (by assumption) ?_)))
  have A11 : Blk W11 (w.heap.size) 25 #[.int .i64 an, .int .i64 ad] := by
    rw [hW11]
    (repeat (first | (with_reducible assumption) | (with_reducible apply Blk.new) | (with_reducible exact blkAt _ _ _ _ (by simp; done)) | (with_reducible apply blk_st2) | (with_reducible apply blk_st4) | (with_reducible apply blk_st6) | (with_reducible apply blk_far (hne := by first | (with_reducible assumption) | omega)) | (with_reducible apply blk_up (hb := by assumption)) | (with_reducible apply Blk.alloc) | (with_reducible apply blk_drew)))
  have B11 : Blk W11 (w.heap.size + 1) 25 #[.int .i64 bn, .int .i64 bd] := by
    rw [hW11]
    (repeat (first | (with_reducible assumption) | (with_reducible apply Blk.new) | (with_reducible exact blkAt _ _ _ _ (by simp; done)) | (with_reducible apply blk_st2) | (with_reducible apply blk_st4) | (with_reducible apply blk_st6) | (with_reducible apply blk_far (hne := by first | (with_reducible assumption) | omega)) | (with_reducible apply blk_up (hb := by assumption)) | (with_reducible apply Blk.alloc) | (with_reducible apply blk_drew)))
  have X11 : Blk W11 (u1.heap.size) 25 #[.int .i64 qN, .int .i64 qD] := by
    rw [hW11]
    (repeat (first | (with_reducible assumption) | (with_reducible apply Blk.new) | (with_reducible exact blkAt _ _ _ _ (by simp; done)) | (with_reducible apply blk_st2) | (with_reducible apply blk_st4) | (with_reducible apply blk_st6) | (with_reducible apply blk_far (hne := by first | (with_reducible assumption) | omega)) | (with_reducible apply blk_up (hb := by assumption)) | (with_reducible apply Blk.alloc) | (with_reducible apply blk_drew)))
  have Y11 : Blk W11 (u2.heap.size) 25 #[.int .i64 qN, .int .i64 qD] := by
    rw [hW11]
    (repeat (first | (with_reducible assumption) | (with_reducible apply Blk.new) | (with_reducible exact blkAt _ _ _ _ (by simp; done)) | (with_reducible apply blk_st2) | (with_reducible apply blk_st4) | (with_reducible apply blk_st6) | (with_reducible apply blk_far (hne := by first | (with_reducible assumption) | omega)) | (with_reducible apply blk_up (hb := by assumption)) | (with_reducible apply Blk.alloc) | (with_reducible apply blk_drew)))
  clear hW11
  try clear qY10
  try clear pY10
  try clear qX10
  try clear pX10
  try clear qB10
  try clear pB10
  try clear qA10
  try clear pA10
  try clear hz10
  try clear hc10
  try clear hf10
  try clear d10
  try clear fY10_1
  try clear fY10_0
  try clear cY10_0
  try clear cY10_1
  try clear cA10_0
  try clear cA10_1
  try clear cX10_0
  try clear cX10_1
  try clear y10
  try clear k10
  try clear A10
  try clear B10
  try clear X10
  try clear Y10
  try clear gA10
  try clear lA10
  try clear gB10
  try clear lB10
  try clear gX10
  try clear lX10
  try clear gY10
  try clear lY10
  have y11 := k11.size
  have gA11 := A11.lt
  have lA11 := Nat.le_of_lt gA11
  have gB11 := B11.lt
  have lB11 := Nat.le_of_lt gB11
  have gX11 := X11.lt
  have lX11 := Nat.le_of_lt gX11
  have gY11 := Y11.lt
  have lY11 := Nat.le_of_lt gY11
  have cA11_0 := A11.cell 0
  have cA11_1 := A11.cell 1
  simp only [List.getElem?_toArray, List.getElem?_cons_zero, List.getElem?_cons_succ] at cA11_0 cA11_1
  have cX11_0 := X11.cell 0
  have cX11_1 := X11.cell 1
  simp only [List.getElem?_toArray, List.getElem?_cons_zero, List.getElem?_cons_succ] at cX11_0 cX11_1
  have fX11_0 := X11.frozen 0
  have fX11_1 := X11.frozen 1
  ((with_reducible refine (HAn.out _).mono ?_); intro e u11 hE)
  obtain ⟨d11, N, D, E, rfl, hN⟩ := nq_own hE
  have HN := Lib.hid hN
  clear hE hN
  obtain ⟨hz11, hc11, hf11⟩ := bcl d11 (by first | (simp; rfl) | rfl)
  have qA11 : w.heap.size < u11.heap.size := by omega
  have pA11 : w.heap.size ≤ u11.heap.size := by omega
  have qB11 : w.heap.size + 1 < u11.heap.size := by omega
  have pB11 : w.heap.size + 1 ≤ u11.heap.size := by omega
  have qX11 : u1.heap.size < u11.heap.size := by omega
  have pX11 : u1.heap.size ≤ u11.heap.size := by omega
  have qY11 : u2.heap.size < u11.heap.size := by omega
  have pY11 : u2.heap.size ≤ u11.heap.size := by omega
  go_wp2_with fail
  refine calls_letter ?_
  intro W12 hW12
  have k12 : Below w.heap.size w W12 := by
    rw [hW12]
    (repeat (first | (with_reducible assumption) | (with_reducible exact bl_refl _) | (with_reducible refine bl_alloc ?_ _) | (with_reducible refine bl_drew ?_) | (with_reducible refine bl_set' ?_ ?_; · (dsimp only; first | assumption | exact Nat.le_refl _ | omega)) | (with_reducible refine bl_last (by assumption) ?_)))
  have A12 : Blk W12 (w.heap.size) 25 #[.int .i64 an, .int .i64 ad] := by
    rw [hW12]
    (repeat (first | (with_reducible assumption) | (with_reducible apply Blk.new) | (with_reducible exact blkAt _ _ _ _ (by simp; done)) | (with_reducible apply blk_st2) | (with_reducible apply blk_st4) | (with_reducible apply blk_st6) | (with_reducible apply blk_far (hne := by first | (with_reducible assumption) | omega)) | (with_reducible apply blk_up (hb := by assumption)) | (with_reducible apply Blk.alloc) | (with_reducible apply blk_drew)))
  have B12 : Blk W12 (w.heap.size + 1) 25 #[.int .i64 bn, .int .i64 bd] := by
    rw [hW12]
    (repeat (first | (with_reducible assumption) | (with_reducible apply Blk.new) | (with_reducible exact blkAt _ _ _ _ (by simp; done)) | (with_reducible apply blk_st2) | (with_reducible apply blk_st4) | (with_reducible apply blk_st6) | (with_reducible apply blk_far (hne := by first | (with_reducible assumption) | omega)) | (with_reducible apply blk_up (hb := by assumption)) | (with_reducible apply Blk.alloc) | (with_reducible apply blk_drew)))
  have X12 : Blk W12 (u1.heap.size) 25 #[.int .i64 N, .int .i64 D] := by
    rw [hW12]
    (repeat (first | (with_reducible assumption) | (with_reducible apply Blk.new) | (with_reducible exact blkAt _ _ _ _ (by simp; done)) | (with_reducible apply blk_st2) | (with_reducible apply blk_st4) | (with_reducible apply blk_st6) | (with_reducible apply blk_far (hne := by first | (with_reducible assumption) | omega)) | (with_reducible apply blk_up (hb := by assumption)) | (with_reducible apply Blk.alloc) | (with_reducible apply blk_drew)))
  have Y12 : Blk W12 (u2.heap.size) 25 #[.int .i64 qN, .int .i64 qD] := by
    rw [hW12]
    (repeat (first | (with_reducible assumption) | (with_reducible apply Blk.new) | (with_reducible exact blkAt _ _ _ _ (by simp; done)) | (with_reducible apply blk_st2) | (with_reducible apply blk_st4) | (with_reducible apply blk_st6) | (with_reducible apply blk_far (hne := by first | (with_reducible assumption) | omega)) | (with_reducible apply blk_up (hb := by assumption)) | (with_reducible apply Blk.alloc) | (with_reducible apply blk_drew)))
  clear hW12
  try clear qY11
  try clear pY11
  try clear qX11
  try clear pX11
  try clear qB11
  try clear pB11
  try clear qA11
  try clear pA11
  try clear hz11
  try clear hc11
  try clear hf11
  try clear d11
  try clear fX11_1
  try clear fX11_0
  try clear cX11_0
  try clear cX11_1
  try clear cA11_0
  try clear cA11_1
  try clear y11
  try clear k11
  try clear A11
  try clear B11
  try clear X11
  try clear Y11
  try clear gA11
  try clear lA11
  try clear gB11
  try clear lB11
  try clear gX11
  try clear lX11
  try clear gY11
  try clear lY11
  have y12 := k12.size
  have gA12 := A12.lt
  have lA12 := Nat.le_of_lt gA12
  have gB12 := B12.lt
  have lB12 := Nat.le_of_lt gB12
  have gX12 := X12.lt
  have lX12 := Nat.le_of_lt gX12
  have gY12 := Y12.lt
  have lY12 := Nat.le_of_lt gY12
  have cX12_0 := X12.cell 0
  have cX12_1 := X12.cell 1
  simp only [List.getElem?_toArray, List.getElem?_cons_zero, List.getElem?_cons_succ] at cX12_0 cX12_1
  have cA12_0 := A12.cell 0
  have cA12_1 := A12.cell 1
  simp only [List.getElem?_toArray, List.getElem?_cons_zero, List.getElem?_cons_succ] at cA12_0 cA12_1
  have cB12_0 := B12.cell 0
  have cB12_1 := B12.cell 1
  simp only [List.getElem?_toArray, List.getElem?_cons_zero, List.getElem?_cons_succ] at cB12_0 cB12_1
  have cY12_0 := Y12.cell 0
  have cY12_1 := Y12.cell 1
  simp only [List.getElem?_toArray, List.getElem?_cons_zero, List.getElem?_cons_succ] at cY12_0 cY12_1
  have fY12_0 := Y12.frozen 0
  have fY12_1 := Y12.frozen 1
  ((with_reducible refine (HBn.out _).mono ?_); intro e u12 hE)
  obtain ⟨d12, N2, D2, E2, rfl, hN⟩ := nq_ref hE
  obtain ⟨rfl, rfl, rfl⟩ := nq_uni HN.out hN
  clear hE hN HN
  obtain ⟨hz12, hc12, hf12⟩ := bcl d12 (by first | (simp; rfl) | rfl)
  have qA12 : w.heap.size < u12.heap.size := by omega
  have pA12 : w.heap.size ≤ u12.heap.size := by omega
  have qB12 : w.heap.size + 1 < u12.heap.size := by omega
  have pB12 : w.heap.size + 1 ≤ u12.heap.size := by omega
  have qX12 : u1.heap.size < u12.heap.size := by omega
  have pX12 : u1.heap.size ≤ u12.heap.size := by omega
  have qY12 : u2.heap.size < u12.heap.size := by omega
  have pY12 : u2.heap.size ≤ u12.heap.size := by omega
  go_wp2_with fail
  refine calls_letter ?_
  intro W13 hW13
  have k13 : Below w.heap.size w W13 := by
    rw [hW13]
    (repeat (first | (with_reducible assumption) | (with_reducible exact bl_refl _) | (with_reducible refine bl_alloc ?_ _) | (with_reducible refine bl_drew ?_) | (with_reducible refine bl_set' ?_ ?_; · (dsimp only; first | assumption | exact Nat.le_refl _ | omega)) | (with_reducible refine bl_last (by assumption) ?_)))
  have A13 : Blk W13 (w.heap.size) 25 #[.int .i64 an, .int .i64 ad] := by
    rw [hW13]
    (repeat (first | (with_reducible assumption) | (with_reducible apply Blk.new) | (with_reducible exact blkAt _ _ _ _ (by simp; done)) | (with_reducible apply blk_st2) | (with_reducible apply blk_st4) | (with_reducible apply blk_st6) | (with_reducible apply blk_far (hne := by first | (with_reducible assumption) | omega)) | (with_reducible apply blk_up (hb := by assumption)) | (with_reducible apply Blk.alloc) | (with_reducible apply blk_drew)))
  have B13 : Blk W13 (w.heap.size + 1) 25 #[.int .i64 bn, .int .i64 bd] := by
    rw [hW13]
    (repeat (first | (with_reducible assumption) | (with_reducible apply Blk.new) | (with_reducible exact blkAt _ _ _ _ (by simp; done)) | (with_reducible apply blk_st2) | (with_reducible apply blk_st4) | (with_reducible apply blk_st6) | (with_reducible apply blk_far (hne := by first | (with_reducible assumption) | omega)) | (with_reducible apply blk_up (hb := by assumption)) | (with_reducible apply Blk.alloc) | (with_reducible apply blk_drew)))
  have X13 : Blk W13 (u1.heap.size) 25 #[.int .i64 N, .int .i64 D] := by
    rw [hW13]
    (repeat (first | (with_reducible assumption) | (with_reducible apply Blk.new) | (with_reducible exact blkAt _ _ _ _ (by simp; done)) | (with_reducible apply blk_st2) | (with_reducible apply blk_st4) | (with_reducible apply blk_st6) | (with_reducible apply blk_far (hne := by first | (with_reducible assumption) | omega)) | (with_reducible apply blk_up (hb := by assumption)) | (with_reducible apply Blk.alloc) | (with_reducible apply blk_drew)))
  have Y13 : Blk W13 (u2.heap.size) 25 #[.int .i64 N, .int .i64 D] := by
    rw [hW13]
    (repeat (first | (with_reducible assumption) | (with_reducible apply Blk.new) | (with_reducible exact blkAt _ _ _ _ (by simp; done)) | (with_reducible apply blk_st2) | (with_reducible apply blk_st4) | (with_reducible apply blk_st6) | (with_reducible apply blk_far (hne := by first | (with_reducible assumption) | omega)) | (with_reducible apply blk_up (hb := by assumption)) | (with_reducible apply Blk.alloc) | (with_reducible apply blk_drew)))
  clear hW13
  try clear qY12
  try clear pY12
  try clear qX12
  try clear pX12
  try clear qB12
  try clear pB12
  try clear qA12
  try clear pA12
  try clear hz12
  try clear hc12
  try clear hf12
  try clear d12
  try clear fY12_1
  try clear fY12_0
  try clear cY12_0
  try clear cY12_1
  try clear cB12_0
  try clear cB12_1
  try clear cA12_0
  try clear cA12_1
  try clear cX12_0
  try clear cX12_1
  try clear y12
  try clear k12
  try clear A12
  try clear B12
  try clear X12
  try clear Y12
  try clear gA12
  try clear lA12
  try clear gB12
  try clear lB12
  try clear gX12
  try clear lX12
  try clear gY12
  try clear lY12
  have y13 := k13.size
  have gA13 := A13.lt
  have lA13 := Nat.le_of_lt gA13
  have gB13 := B13.lt
  have lB13 := Nat.le_of_lt gB13
  have gX13 := X13.lt
  have lX13 := Nat.le_of_lt gX13
  have gY13 := Y13.lt
  have lY13 := Nat.le_of_lt gY13
  have cA13_0 := A13.cell 0
  have cA13_1 := A13.cell 1
  simp only [List.getElem?_toArray, List.getElem?_cons_zero, List.getElem?_cons_succ] at cA13_0 cA13_1
  have cB13_0 := B13.cell 0
  have cB13_1 := B13.cell 1
  simp only [List.getElem?_toArray, List.getElem?_cons_zero, List.getElem?_cons_succ] at cB13_0 cB13_1
  have cX13_0 := X13.cell 0
  have cX13_1 := X13.cell 1
  simp only [List.getElem?_toArray, List.getElem?_cons_zero, List.getElem?_cons_succ] at cX13_0 cX13_1
  have fX13_0 := X13.frozen 0
  have fX13_1 := X13.frozen 1
  ((with_reducible refine (HAi.out _).mono ?_); intro e u13 hE)
  obtain ⟨d13, I, J, F, rfl, hN⟩ := sq_of hE
  have HN := Lib.hid hN
  clear hE hN
  obtain ⟨hz13, hc13, hf13⟩ := bcl d13 (by first | (simp; rfl) | rfl)
  have qA13 : w.heap.size < u13.heap.size := by omega
  have pA13 : w.heap.size ≤ u13.heap.size := by omega
  have qB13 : w.heap.size + 1 < u13.heap.size := by omega
  have pB13 : w.heap.size + 1 ≤ u13.heap.size := by omega
  have qX13 : u1.heap.size < u13.heap.size := by omega
  have pX13 : u1.heap.size ≤ u13.heap.size := by omega
  have qY13 : u2.heap.size < u13.heap.size := by omega
  have pY13 : u2.heap.size ≤ u13.heap.size := by omega
  go_wp2_with fail
  refine calls_letter ?_
  intro W14 hW14
  have k14 : Below w.heap.size w W14 := by
    rw [hW14]
    (repeat (first | (with_reducible assumption) | (with_reducible exact bl_refl _) | (with_reducible refine bl_alloc ?_ _) | (with_reducible refine bl_drew ?_) | (with_reducible refine bl_set' ?_ ?_; · (dsimp only; first | assumption | exact Nat.le_refl _ | omega)) | (with_reducible refine bl_last (by assumption) ?_)))
  have A14 : Blk W14 (w.heap.size) 25 #[.int .i64 an, .int .i64 ad] := by
    rw [hW14]
    (repeat (first | (with_reducible assumption) | (with_reducible apply Blk.new) | (with_reducible exact blkAt _ _ _ _ (by simp; done)) | (with_reducible apply blk_st2) | (with_reducible apply blk_st4) | (with_reducible apply blk_st6) | (with_reducible apply blk_far (hne := by first | (with_reducible assumption) | omega)) | (with_reducible apply blk_up (hb := by assumption)) | (with_reducible apply Blk.alloc) | (with_reducible apply blk_drew)))
  have B14 : Blk W14 (w.heap.size + 1) 25 #[.int .i64 bn, .int .i64 bd] := by
    rw [hW14]
    (repeat (first | (with_reducible assumption) | (with_reducible apply Blk.new) | (with_reducible exact blkAt _ _ _ _ (by simp; done)) | (with_reducible apply blk_st2) | (with_reducible apply blk_st4) | (with_reducible apply blk_st6) | (with_reducible apply blk_far (hne := by first | (with_reducible assumption) | omega)) | (with_reducible apply blk_up (hb := by assumption)) | (with_reducible apply Blk.alloc) | (with_reducible apply blk_drew)))
  have X14 : Blk W14 (u1.heap.size) 25 #[.int .i64 I, .int .i64 J] := by
    rw [hW14]
    (repeat (first | (with_reducible assumption) | (with_reducible apply Blk.new) | (with_reducible exact blkAt _ _ _ _ (by simp; done)) | (with_reducible apply blk_st2) | (with_reducible apply blk_st4) | (with_reducible apply blk_st6) | (with_reducible apply blk_far (hne := by first | (with_reducible assumption) | omega)) | (with_reducible apply blk_up (hb := by assumption)) | (with_reducible apply Blk.alloc) | (with_reducible apply blk_drew)))
  have Y14 : Blk W14 (u2.heap.size) 25 #[.int .i64 N, .int .i64 D] := by
    rw [hW14]
    (repeat (first | (with_reducible assumption) | (with_reducible apply Blk.new) | (with_reducible exact blkAt _ _ _ _ (by simp; done)) | (with_reducible apply blk_st2) | (with_reducible apply blk_st4) | (with_reducible apply blk_st6) | (with_reducible apply blk_far (hne := by first | (with_reducible assumption) | omega)) | (with_reducible apply blk_up (hb := by assumption)) | (with_reducible apply Blk.alloc) | (with_reducible apply blk_drew)))
  clear hW14
  try clear qY13
  try clear pY13
  try clear qX13
  try clear pX13
  try clear qB13
  try clear pB13
  try clear qA13
  try clear pA13
  try clear hz13
  try clear hc13
  try clear hf13
  try clear d13
  try clear fX13_1
  try clear fX13_0
  try clear cX13_0
  try clear cX13_1
  try clear cB13_0
  try clear cB13_1
  try clear cA13_0
  try clear cA13_1
  try clear y13
  try clear k13
  try clear A13
  try clear B13
  try clear X13
  try clear Y13
  try clear gA13
  try clear lA13
  try clear gB13
  try clear lB13
  try clear gX13
  try clear lX13
  try clear gY13
  try clear lY13
  have y14 := k14.size
  have gA14 := A14.lt
  have lA14 := Nat.le_of_lt gA14
  have gB14 := B14.lt
  have lB14 := Nat.le_of_lt gB14
  have gX14 := X14.lt
  have lX14 := Nat.le_of_lt gX14
  have gY14 := Y14.lt
  have lY14 := Nat.le_of_lt gY14
  have cX14_0 := X14.cell 0
  have cX14_1 := X14.cell 1
  simp only [List.getElem?_toArray, List.getElem?_cons_zero, List.getElem?_cons_succ] at cX14_0 cX14_1
  have cY14_0 := Y14.cell 0
  have cY14_1 := Y14.cell 1
  simp only [List.getElem?_toArray, List.getElem?_cons_zero, List.getElem?_cons_succ] at cY14_0 cY14_1
  have fY14_0 := Y14.frozen 0
  have fY14_1 := Y14.frozen 1
  ((with_reducible refine (HBi.out _).mono ?_); intro e u14 hE)
  obtain ⟨d14, I2, J2, F2, rfl, hN⟩ := sq_of hE
  obtain ⟨rfl, rfl, rfl⟩ := sq_uni HN.out hN
  clear hE hN HN
  obtain ⟨hz14, hc14, hf14⟩ := bcl d14 (by first | (simp; rfl) | rfl)
  have qA14 : w.heap.size < u14.heap.size := by omega
  have pA14 : w.heap.size ≤ u14.heap.size := by omega
  have qB14 : w.heap.size + 1 < u14.heap.size := by omega
  have pB14 : w.heap.size + 1 ≤ u14.heap.size := by omega
  have qX14 : u1.heap.size < u14.heap.size := by omega
  have pX14 : u1.heap.size ≤ u14.heap.size := by omega
  have qY14 : u2.heap.size < u14.heap.size := by omega
  have pY14 : u2.heap.size ≤ u14.heap.size := by omega
  go_wp2_with fail
  refine calls_letter ?_
  intro W15 hW15
  have k15 : Below w.heap.size w W15 := by
    rw [hW15]
    (repeat (first | (with_reducible assumption) | (with_reducible exact bl_refl _) | (with_reducible refine bl_alloc ?_ _) | (with_reducible refine bl_drew ?_) | (with_reducible refine bl_set' ?_ ?_; · (dsimp only; first | assumption | exact Nat.le_refl _ | omega)) | (with_reducible refine bl_last (by assumption) ?_)))
  have A15 : Blk W15 (w.heap.size) 25 #[.int .i64 an, .int .i64 ad] := by
    rw [hW15]
    (repeat (first | (with_reducible assumption) | (with_reducible apply Blk.new) | (with_reducible exact blkAt _ _ _ _ (by simp; done)) | (with_reducible apply blk_st2) | (with_reducible apply blk_st4) | (with_reducible apply blk_st6) | (with_reducible apply blk_far (hne := by first | (with_reducible assumption) | omega)) | (with_reducible apply blk_up (hb := by assumption)) | (with_reducible apply Blk.alloc) | (with_reducible apply blk_drew)))
  have B15 : Blk W15 (w.heap.size + 1) 25 #[.int .i64 bn, .int .i64 bd] := by
    rw [hW15]
    (repeat (first | (with_reducible assumption) | (with_reducible apply Blk.new) | (with_reducible exact blkAt _ _ _ _ (by simp; done)) | (with_reducible apply blk_st2) | (with_reducible apply blk_st4) | (with_reducible apply blk_st6) | (with_reducible apply blk_far (hne := by first | (with_reducible assumption) | omega)) | (with_reducible apply blk_up (hb := by assumption)) | (with_reducible apply Blk.alloc) | (with_reducible apply blk_drew)))
  have X15 : Blk W15 (u1.heap.size) 25 #[.int .i64 I, .int .i64 J] := by
    rw [hW15]
    (repeat (first | (with_reducible assumption) | (with_reducible apply Blk.new) | (with_reducible exact blkAt _ _ _ _ (by simp; done)) | (with_reducible apply blk_st2) | (with_reducible apply blk_st4) | (with_reducible apply blk_st6) | (with_reducible apply blk_far (hne := by first | (with_reducible assumption) | omega)) | (with_reducible apply blk_up (hb := by assumption)) | (with_reducible apply Blk.alloc) | (with_reducible apply blk_drew)))
  have Y15 : Blk W15 (u2.heap.size) 25 #[.int .i64 I, .int .i64 J] := by
    rw [hW15]
    (repeat (first | (with_reducible assumption) | (with_reducible apply Blk.new) | (with_reducible exact blkAt _ _ _ _ (by simp; done)) | (with_reducible apply blk_st2) | (with_reducible apply blk_st4) | (with_reducible apply blk_st6) | (with_reducible apply blk_far (hne := by first | (with_reducible assumption) | omega)) | (with_reducible apply blk_up (hb := by assumption)) | (with_reducible apply Blk.alloc) | (with_reducible apply blk_drew)))
  clear hW15
  try clear qY14
  try clear pY14
  try clear qX14
  try clear pX14
  try clear qB14
  try clear pB14
  try clear qA14
  try clear pA14
  try clear hz14
  try clear hc14
  try clear hf14
  try clear d14
  try clear fY14_1
  try clear fY14_0
  try clear cY14_0
  try clear cY14_1
  try clear cX14_0
  try clear cX14_1
  try clear y14
  try clear k14
  try clear A14
  try clear B14
  try clear X14
  try clear Y14
  try clear gA14
  try clear lA14
  try clear gB14
  try clear lB14
  try clear gX14
  try clear lX14
  try clear gY14
  try clear lY14
  have y15 := k15.size
  have gA15 := A15.lt
  have lA15 := Nat.le_of_lt gA15
  have gB15 := B15.lt
  have lB15 := Nat.le_of_lt gB15
  have gX15 := X15.lt
  have lX15 := Nat.le_of_lt gX15
  have gY15 := Y15.lt
  have lY15 := Nat.le_of_lt gY15
  have cX15_0 := X15.cell 0
  have cX15_1 := X15.cell 1
  simp only [List.getElem?_toArray, List.getElem?_cons_zero, List.getElem?_cons_succ] at cX15_0 cX15_1
  have fX15_0 := X15.frozen 0
  have fX15_1 := X15.frozen 1
  ((with_reducible refine (HAr.out _ (HT.out.up k15)).mono ?_); intro e u15 hE)
  obtain ⟨d15, v, rfl, hN⟩ := hE
  obtain ⟨G, H, K, rfl⟩ := pa_shape hN
  have HN := Lib.hid hN
  clear hN
  obtain ⟨hz15, hc15, hf15⟩ := bcl d15 (by first | (simp; rfl) | rfl)
  have qA15 : w.heap.size < u15.heap.size := by omega
  have pA15 : w.heap.size ≤ u15.heap.size := by omega
  have qB15 : w.heap.size + 1 < u15.heap.size := by omega
  have pB15 : w.heap.size + 1 ≤ u15.heap.size := by omega
  have qX15 : u1.heap.size < u15.heap.size := by omega
  have pX15 : u1.heap.size ≤ u15.heap.size := by omega
  have qY15 : u2.heap.size < u15.heap.size := by omega
  have pY15 : u2.heap.size ≤ u15.heap.size := by omega
  go_wp2_with fail
  refine calls_letter ?_
  intro W16 hW16
  have k16 : Below w.heap.size w W16 := by
    rw [hW16]
    (repeat (first | (with_reducible assumption) | (with_reducible exact bl_refl _) | (with_reducible refine bl_alloc ?_ _) | (with_reducible refine bl_drew ?_) | (with_reducible refine bl_set' ?_ ?_; · (dsimp only; first | assumption | exact Nat.le_refl _ | omega)) | (with_reducible refine bl_last (by assumption) ?_)))
  have A16 : Blk W16 (w.heap.size) 25 #[.int .i64 an, .int .i64 ad] := by
    rw [hW16]
    (repeat (first | (with_reducible assumption) | (with_reducible apply Blk.new) | (with_reducible exact blkAt _ _ _ _ (by simp; done)) | (with_reducible apply blk_st2) | (with_reducible apply blk_st4) | (with_reducible apply blk_st6) | (with_reducible apply blk_far (hne := by first | (with_reducible assumption) | omega)) | (with_reducible apply blk_up (hb := by assumption)) | (with_reducible apply Blk.alloc) | (with_reducible apply blk_drew)))
  have B16 : Blk W16 (w.heap.size + 1) 25 #[.int .i64 bn, .int .i64 bd] := by
    rw [hW16]
    (repeat (first | (with_reducible assumption) | (with_reducible apply Blk.new) | (with_reducible exact blkAt _ _ _ _ (by simp; done)) | (with_reducible apply blk_st2) | (with_reducible apply blk_st4) | (with_reducible apply blk_st6) | (with_reducible apply blk_far (hne := by first | (with_reducible assumption) | omega)) | (with_reducible apply blk_up (hb := by assumption)) | (with_reducible apply Blk.alloc) | (with_reducible apply blk_drew)))
  have X16 : Blk W16 (u1.heap.size) 25 #[.int .i64 G, .int .i64 H] := by
    rw [hW16]
    (repeat (first | (with_reducible assumption) | (with_reducible apply Blk.new) | (with_reducible exact blkAt _ _ _ _ (by simp; done)) | (with_reducible apply blk_st2) | (with_reducible apply blk_st4) | (with_reducible apply blk_st6) | (with_reducible apply blk_far (hne := by first | (with_reducible assumption) | omega)) | (with_reducible apply blk_up (hb := by assumption)) | (with_reducible apply Blk.alloc) | (with_reducible apply blk_drew)))
  have Y16 : Blk W16 (u2.heap.size) 25 #[.int .i64 I, .int .i64 J] := by
    rw [hW16]
    (repeat (first | (with_reducible assumption) | (with_reducible apply Blk.new) | (with_reducible exact blkAt _ _ _ _ (by simp; done)) | (with_reducible apply blk_st2) | (with_reducible apply blk_st4) | (with_reducible apply blk_st6) | (with_reducible apply blk_far (hne := by first | (with_reducible assumption) | omega)) | (with_reducible apply blk_up (hb := by assumption)) | (with_reducible apply Blk.alloc) | (with_reducible apply blk_drew)))
  clear hW16
  try clear qY15
  try clear pY15
  try clear qX15
  try clear pX15
  try clear qB15
  try clear pB15
  try clear qA15
  try clear pA15
  try clear hz15
  try clear hc15
  try clear hf15
  try clear d15
  try clear fX15_1
  try clear fX15_0
  try clear cX15_0
  try clear cX15_1
  try clear y15
  try clear k15
  try clear A15
  try clear B15
  try clear X15
  try clear Y15
  try clear gA15
  try clear lA15
  try clear gB15
  try clear lB15
  try clear gX15
  try clear lX15
  try clear gY15
  try clear lY15
  have y16 := k16.size
  have gA16 := A16.lt
  have lA16 := Nat.le_of_lt gA16
  have gB16 := B16.lt
  have lB16 := Nat.le_of_lt gB16
  have gX16 := X16.lt
  have lX16 := Nat.le_of_lt gX16
  have gY16 := Y16.lt
  have lY16 := Nat.le_of_lt gY16
  have cX16_0 := X16.cell 0
  have cX16_1 := X16.cell 1
  simp only [List.getElem?_toArray, List.getElem?_cons_zero, List.getElem?_cons_succ] at cX16_0 cX16_1
  have cY16_0 := Y16.cell 0
  have cY16_1 := Y16.cell 1
  simp only [List.getElem?_toArray, List.getElem?_cons_zero, List.getElem?_cons_succ] at cY16_0 cY16_1
  have cA16_0 := A16.cell 0
  have cA16_1 := A16.cell 1
  simp only [List.getElem?_toArray, List.getElem?_cons_zero, List.getElem?_cons_succ] at cA16_0 cA16_1
  have cB16_0 := B16.cell 0
  have cB16_1 := B16.cell 1
  simp only [List.getElem?_toArray, List.getElem?_cons_zero, List.getElem?_cons_succ] at cB16_0 cB16_1
  have fY16_0 := Y16.frozen 0
  have fY16_1 := Y16.frozen 1
  ((with_reducible refine (HBr.out _).mono ?_); intro e u16 hE)
  obtain ⟨d16, v, rfl, hN⟩ := hE
  obtain rfl := HN.out.same hN
  clear hN HN
  obtain ⟨hz16, hc16, hf16⟩ := bcl d16 (by first | (simp; rfl) | rfl)
  have qA16 : w.heap.size < u16.heap.size := by omega
  have pA16 : w.heap.size ≤ u16.heap.size := by omega
  have qB16 : w.heap.size + 1 < u16.heap.size := by omega
  have pB16 : w.heap.size + 1 ≤ u16.heap.size := by omega
  have qX16 : u1.heap.size < u16.heap.size := by omega
  have pX16 : u1.heap.size ≤ u16.heap.size := by omega
  have qY16 : u2.heap.size < u16.heap.size := by omega
  have pY16 : u2.heap.size ≤ u16.heap.size := by omega
  go_wp2_with fail
  refine calls_letter ?_
  intro W17 hW17
  have k17 : Below w.heap.size w W17 := by
    rw [hW17]
    (repeat (first | (with_reducible assumption) | (with_reducible exact bl_refl _) | (with_reducible refine bl_alloc ?_ _) | (with_reducible refine bl_drew ?_) | (with_reducible refine bl_set' ?_ ?_; · (dsimp only; first | assumption | exact Nat.le_refl _ | omega)) | (with_reducible refine bl_last (by assumption) ?_)))
  have A17 : Blk W17 (w.heap.size) 25 #[.int .i64 an, .int .i64 ad] := by
    rw [hW17]
    (repeat (first | (with_reducible assumption) | (with_reducible apply Blk.new) | (with_reducible exact blkAt _ _ _ _ (by simp; done)) | (with_reducible apply blk_st2) | (with_reducible apply blk_st4) | (with_reducible apply blk_st6) | (with_reducible apply blk_far (hne := by first | (with_reducible assumption) | omega)) | (with_reducible apply blk_up (hb := by assumption)) | (with_reducible apply Blk.alloc) | (with_reducible apply blk_drew)))
  have B17 : Blk W17 (w.heap.size + 1) 25 #[.int .i64 bn, .int .i64 bd] := by
    rw [hW17]
    (repeat (first | (with_reducible assumption) | (with_reducible apply Blk.new) | (with_reducible exact blkAt _ _ _ _ (by simp; done)) | (with_reducible apply blk_st2) | (with_reducible apply blk_st4) | (with_reducible apply blk_st6) | (with_reducible apply blk_far (hne := by first | (with_reducible assumption) | omega)) | (with_reducible apply blk_up (hb := by assumption)) | (with_reducible apply Blk.alloc) | (with_reducible apply blk_drew)))
  clear hW17
  try clear qY16
  try clear pY16
  try clear qX16
  try clear pX16
  try clear qB16
  try clear pB16
  try clear qA16
  try clear pA16
  try clear hz16
  try clear hc16
  try clear hf16
  try clear d16
  try clear fY16_1
  try clear fY16_0
  try clear cB16_0
  try clear cB16_1
  try clear cA16_0
  try clear cA16_1
  try clear cY16_0
  try clear cY16_1
  try clear cX16_0
  try clear cX16_1
  try clear y16
  try clear k16
  try clear A16
  try clear B16
  try clear X16
  try clear Y16
  try clear gA16
  try clear lA16
  try clear gB16
  try clear lB16
  try clear gX16
  try clear lX16
  try clear gY16
  try clear lY16
  have y17 := k17.size
  have gA17 := A17.lt
  have lA17 := Nat.le_of_lt gA17
  have gB17 := B17.lt
  have lB17 := Nat.le_of_lt gB17
  have cA17_0 := A17.cell 0
  have cA17_1 := A17.cell 1
  simp only [List.getElem?_toArray, List.getElem?_cons_zero, List.getElem?_cons_succ] at cA17_0 cA17_1
  have cB17_0 := B17.cell 0
  have cB17_1 := B17.cell 1
  simp only [List.getElem?_toArray, List.getElem?_cons_zero, List.getElem?_cons_succ] at cB17_0 cB17_1
  ((with_reducible refine (HAc.out _).mono ?_); rintro e u17 ⟨rfl, d17⟩)
  obtain ⟨hz17, hc17, hf17⟩ := bcl d17 (by first | (simp; rfl) | rfl)
  have qA17 : w.heap.size < u17.heap.size := by omega
  have pA17 : w.heap.size ≤ u17.heap.size := by omega
  have qB17 : w.heap.size + 1 < u17.heap.size := by omega
  have pB17 : w.heap.size + 1 ≤ u17.heap.size := by omega
  go_wp2_with fail
  refine calls_letter ?_
  intro W18 hW18
  have k18 : Below w.heap.size w W18 := by
    rw [hW18]
    (repeat (first | (with_reducible assumption) | (with_reducible exact bl_refl _) | (with_reducible refine bl_alloc ?_ _) | (with_reducible refine bl_drew ?_) | (with_reducible refine bl_set' ?_ ?_; · (dsimp only; first | assumption | exact Nat.le_refl _ | omega)) | (with_reducible refine bl_last (by assumption) ?_)))
  have A18 : Blk W18 (w.heap.size) 25 #[.int .i64 an, .int .i64 ad] := by
    rw [hW18]
    (repeat (first | (with_reducible assumption) | (with_reducible apply Blk.new) | (with_reducible exact blkAt _ _ _ _ (by simp; done)) | (with_reducible apply blk_st2) | (with_reducible apply blk_st4) | (with_reducible apply blk_st6) | (with_reducible apply blk_far (hne := by first | (with_reducible assumption) | omega)) | (with_reducible apply blk_up (hb := by assumption)) | (with_reducible apply Blk.alloc) | (with_reducible apply blk_drew)))
  have B18 : Blk W18 (w.heap.size + 1) 25 #[.int .i64 bn, .int .i64 bd] := by
    rw [hW18]
    (repeat (first | (with_reducible assumption) | (with_reducible apply Blk.new) | (with_reducible exact blkAt _ _ _ _ (by simp; done)) | (with_reducible apply blk_st2) | (with_reducible apply blk_st4) | (with_reducible apply blk_st6) | (with_reducible apply blk_far (hne := by first | (with_reducible assumption) | omega)) | (with_reducible apply blk_up (hb := by assumption)) | (with_reducible apply Blk.alloc) | (with_reducible apply blk_drew)))
  clear hW18
  try clear qB17
  try clear pB17
  try clear qA17
  try clear pA17
  try clear hz17
  try clear hc17
  try clear hf17
  try clear d17
  try clear cB17_0
  try clear cB17_1
  try clear cA17_0
  try clear cA17_1
  try clear y17
  try clear k17
  try clear A17
  try clear B17
  try clear gA17
  try clear lA17
  try clear gB17
  try clear lB17
  have y18 := k18.size
  have gA18 := A18.lt
  have lA18 := Nat.le_of_lt gA18
  have gB18 := B18.lt
  have lB18 := Nat.le_of_lt gB18
  have cA18_0 := A18.cell 0
  have cA18_1 := A18.cell 1
  simp only [List.getElem?_toArray, List.getElem?_cons_zero, List.getElem?_cons_succ] at cA18_0 cA18_1
  ((with_reducible refine (HBc.out _).mono ?_); rintro e u18 ⟨rfl, d18⟩)
  obtain ⟨hz18, hc18, hf18⟩ := bcl d18 (by first | (simp; rfl) | rfl)
  have qA18 : w.heap.size < u18.heap.size := by omega
  have pA18 : w.heap.size ≤ u18.heap.size := by omega
  have qB18 : w.heap.size + 1 < u18.heap.size := by omega
  have pB18 : w.heap.size + 1 ≤ u18.heap.size := by omega
  go_wp2_with fail
  refine calls_letter ?_
  intro W19 hW19
  have k19 : Below w.heap.size w W19 := by
    rw [hW19]
    (repeat (first | (with_reducible assumption) | (with_reducible exact bl_refl _) | (with_reducible refine bl_alloc ?_ _) | (with_reducible refine bl_drew ?_) | (with_reducible refine bl_set' ?_ ?_; · (dsimp only; first | assumption | exact Nat.le_refl _ | omega)) | (with_reducible refine bl_last (by assumption) ?_)))
  have A19 : Blk W19 (w.heap.size) 25 #[.int .i64 an, .int .i64 ad] := by
    rw [hW19]
    (repeat (first | (with_reducible assumption) | (with_reducible apply Blk.new) | (with_reducible exact blkAt _ _ _ _ (by simp; done)) | (with_reducible apply blk_st2) | (with_reducible apply blk_st4) | (with_reducible apply blk_st6) | (with_reducible apply blk_far (hne := by first | (with_reducible assumption) | omega)) | (with_reducible apply blk_up (hb := by assumption)) | (with_reducible apply Blk.alloc) | (with_reducible apply blk_drew)))
  have B19 : Blk W19 (w.heap.size + 1) 25 #[.int .i64 bn, .int .i64 bd] := by
    rw [hW19]
    (repeat (first | (with_reducible assumption) | (with_reducible apply Blk.new) | (with_reducible exact blkAt _ _ _ _ (by simp; done)) | (with_reducible apply blk_st2) | (with_reducible apply blk_st4) | (with_reducible apply blk_st6) | (with_reducible apply blk_far (hne := by first | (with_reducible assumption) | omega)) | (with_reducible apply blk_up (hb := by assumption)) | (with_reducible apply Blk.alloc) | (with_reducible apply blk_drew)))
  clear hW19
  try clear qB18
  try clear pB18
  try clear qA18
  try clear pA18
  try clear hz18
  try clear hc18
  try clear hf18
  try clear d18
  try clear cA18_0
  try clear cA18_1
  try clear y18
  try clear k18
  try clear A18
  try clear B18
  try clear gA18
  try clear lA18
  try clear gB18
  try clear lB18
  have y19 := k19.size
  have gA19 := A19.lt
  have lA19 := Nat.le_of_lt gA19
  have gB19 := B19.lt
  have lB19 := Nat.le_of_lt gB19
  have cA19_0 := A19.cell 0
  have cA19_1 := A19.cell 1
  simp only [List.getElem?_toArray, List.getElem?_cons_zero, List.getElem?_cons_succ] at cA19_0 cA19_1
  ((with_reducible refine (HAf.out _).mono ?_); rintro e u19 ⟨rfl, d19⟩)
  obtain ⟨hz19, hc19, hf19⟩ := bcl d19 (by first | (simp; rfl) | rfl)
  have qA19 : w.heap.size < u19.heap.size := by omega
  have pA19 : w.heap.size ≤ u19.heap.size := by omega
  have qB19 : w.heap.size + 1 < u19.heap.size := by omega
  have pB19 : w.heap.size + 1 ≤ u19.heap.size := by omega
  go_wp2_with fail
  refine calls_letter ?_
  intro W20 hW20
  have k20 : Below w.heap.size w W20 := by
    rw [hW20]
    (repeat (first | (with_reducible assumption) | (with_reducible exact bl_refl _) | (with_reducible refine bl_alloc ?_ _) | (with_reducible refine bl_drew ?_) | (with_reducible refine bl_set' ?_ ?_; · (dsimp only; first | assumption | exact Nat.le_refl _ | omega)) | (with_reducible refine bl_last (by assumption) ?_)))
  have A20 : Blk W20 (w.heap.size) 25 #[.int .i64 an, .int .i64 ad] := by
    rw [hW20]
    (repeat (first | (with_reducible assumption) | (with_reducible apply Blk.new) | (with_reducible exact blkAt _ _ _ _ (by simp; done)) | (with_reducible apply blk_st2) | (with_reducible apply blk_st4) | (with_reducible apply blk_st6) | (with_reducible apply blk_far (hne := by first | (with_reducible assumption) | omega)) | (with_reducible apply blk_up (hb := by assumption)) | (with_reducible apply Blk.alloc) | (with_reducible apply blk_drew)))
  have B20 : Blk W20 (w.heap.size + 1) 25 #[.int .i64 bn, .int .i64 bd] := by
    rw [hW20]
    (repeat (first | (with_reducible assumption) | (with_reducible apply Blk.new) | (with_reducible exact blkAt _ _ _ _ (by simp; done)) | (with_reducible apply blk_st2) | (with_reducible apply blk_st4) | (with_reducible apply blk_st6) | (with_reducible apply blk_far (hne := by first | (with_reducible assumption) | omega)) | (with_reducible apply blk_up (hb := by assumption)) | (with_reducible apply Blk.alloc) | (with_reducible apply blk_drew)))
  clear hW20
  try clear qB19
  try clear pB19
  try clear qA19
  try clear pA19
  try clear hz19
  try clear hc19
  try clear hf19
  try clear d19
  try clear cA19_0
  try clear cA19_1
  try clear y19
  try clear k19
  try clear A19
  try clear B19
  try clear gA19
  try clear lA19
  try clear gB19
  try clear lB19
  have y20 := k20.size
  have gA20 := A20.lt
  have lA20 := Nat.le_of_lt gA20
  have gB20 := B20.lt
  have lB20 := Nat.le_of_lt gB20
  have cA20_0 := A20.cell 0
  have cA20_1 := A20.cell 1
  simp only [List.getElem?_toArray, List.getElem?_cons_zero, List.getElem?_cons_succ] at cA20_0 cA20_1
  ((with_reducible refine (HBf.out _).mono ?_); rintro e u20 ⟨rfl, d20⟩)
  obtain ⟨hz20, hc20, hf20⟩ := bcl d20 (by first | (simp; rfl) | rfl)
  have qA20 : w.heap.size < u20.heap.size := by omega
  have pA20 : w.heap.size ≤ u20.heap.size := by omega
  have qB20 : w.heap.size + 1 < u20.heap.size := by omega
  have pB20 : w.heap.size + 1 ≤ u20.heap.size := by omega
  go_wp2_with fail
  refine calls_letter ?_
  intro W21 hW21
  have k21 : Below w.heap.size w W21 := by
    rw [hW21]
    (repeat (first | (with_reducible assumption) | (with_reducible exact bl_refl _) | (with_reducible refine bl_alloc ?_ _) | (with_reducible refine bl_drew ?_) | (with_reducible refine bl_set' ?_ ?_; · (dsimp only; first | assumption | exact Nat.le_refl _ | omega)) | (with_reducible refine bl_last (by assumption) ?_)))
  have A21 : Blk W21 (w.heap.size) 25 #[.int .i64 an, .int .i64 ad] := by
    rw [hW21]
    (repeat (first | (with_reducible assumption) | (with_reducible apply Blk.new) | (with_reducible exact blkAt _ _ _ _ (by simp; done)) | (with_reducible apply blk_st2) | (with_reducible apply blk_st4) | (with_reducible apply blk_st6) | (with_reducible apply blk_far (hne := by first | (with_reducible assumption) | omega)) | (with_reducible apply blk_up (hb := by assumption)) | (with_reducible apply Blk.alloc) | (with_reducible apply blk_drew)))
  have B21 : Blk W21 (w.heap.size + 1) 25 #[.int .i64 bn, .int .i64 bd] := by
    rw [hW21]
    (repeat (first | (with_reducible assumption) | (with_reducible apply Blk.new) | (with_reducible exact blkAt _ _ _ _ (by simp; done)) | (with_reducible apply blk_st2) | (with_reducible apply blk_st4) | (with_reducible apply blk_st6) | (with_reducible apply blk_far (hne := by first | (with_reducible assumption) | omega)) | (with_reducible apply blk_up (hb := by assumption)) | (with_reducible apply Blk.alloc) | (with_reducible apply blk_drew)))
  clear hW21
  try clear qB20
  try clear pB20
  try clear qA20
  try clear pA20
  try clear hz20
  try clear hc20
  try clear hf20
  try clear d20
  try clear cA20_0
  try clear cA20_1
  try clear y20
  try clear k20
  try clear A20
  try clear B20
  try clear gA20
  try clear lA20
  try clear gB20
  try clear lB20
  have y21 := k21.size
  have gA21 := A21.lt
  have lA21 := Nat.le_of_lt gA21
  have gB21 := B21.lt
  have lB21 := Nat.le_of_lt gB21
  have cA21_0 := A21.cell 0
  have cA21_1 := A21.cell 1
  simp only [List.getElem?_toArray, List.getElem?_cons_zero, List.getElem?_cons_succ] at cA21_0 cA21_1
  ((with_reducible refine (HAx.out _ (HT.out.up k21)).mono ?_); rintro e u21 ⟨rfl, d21⟩)
  obtain ⟨hz21, hc21, hf21⟩ := bcl d21 (by first | (simp; rfl) | rfl)
  have qA21 : w.heap.size < u21.heap.size := by omega
  have pA21 : w.heap.size ≤ u21.heap.size := by omega
  have qB21 : w.heap.size + 1 < u21.heap.size := by omega
  have pB21 : w.heap.size + 1 ≤ u21.heap.size := by omega
  go_wp2_with fail
  refine calls_letter ?_
  intro W22 hW22
  have k22 : Below w.heap.size w W22 := by
    rw [hW22]
    (repeat (first | (with_reducible assumption) | (with_reducible exact bl_refl _) | (with_reducible refine bl_alloc ?_ _) | (with_reducible refine bl_drew ?_) | (with_reducible refine bl_set' ?_ ?_; · (dsimp only; first | assumption | exact Nat.le_refl _ | omega)) | (with_reducible refine bl_last (by assumption) ?_)))
  have A22 : Blk W22 (w.heap.size) 25 #[.int .i64 an, .int .i64 ad] := by
    rw [hW22]
    (repeat (first | (with_reducible assumption) | (with_reducible apply Blk.new) | (with_reducible exact blkAt _ _ _ _ (by simp; done)) | (with_reducible apply blk_st2) | (with_reducible apply blk_st4) | (with_reducible apply blk_st6) | (with_reducible apply blk_far (hne := by first | (with_reducible assumption) | omega)) | (with_reducible apply blk_up (hb := by assumption)) | (with_reducible apply Blk.alloc) | (with_reducible apply blk_drew)))
  have B22 : Blk W22 (w.heap.size + 1) 25 #[.int .i64 bn, .int .i64 bd] := by
    rw [hW22]
    (repeat (first | (with_reducible assumption) | (with_reducible apply Blk.new) | (with_reducible exact blkAt _ _ _ _ (by simp; done)) | (with_reducible apply blk_st2) | (with_reducible apply blk_st4) | (with_reducible apply blk_st6) | (with_reducible apply blk_far (hne := by first | (with_reducible assumption) | omega)) | (with_reducible apply blk_up (hb := by assumption)) | (with_reducible apply Blk.alloc) | (with_reducible apply blk_drew)))
  clear hW22
  try clear qB21
  try clear pB21
  try clear qA21
  try clear pA21
  try clear hz21
  try clear hc21
  try clear hf21
  try clear d21
  try clear cA21_0
  try clear cA21_1
  try clear y21
  try clear k21
  try clear A21
  try clear B21
  try clear gA21
  try clear lA21
  try clear gB21
  try clear lB21
  have y22 := k22.size
  have gA22 := A22.lt
  have lA22 := Nat.le_of_lt gA22
  have gB22 := B22.lt
  have lB22 := Nat.le_of_lt gB22
  ((with_reducible refine (HBx.out _).mono ?_); rintro e u22 ⟨rfl, d22⟩)
  obtain ⟨hz22, hc22, hf22⟩ := bcl d22 (by first | (simp; rfl) | rfl)
  have qA22 : w.heap.size < u22.heap.size := by omega
  have pA22 : w.heap.size ≤ u22.heap.size := by omega
  have qB22 : w.heap.size + 1 < u22.heap.size := by omega
  have pB22 : w.heap.size + 1 ≤ u22.heap.size := by omega
  go_wp2_with fail
  go_ret
  refine ⟨rfl, ?_⟩
  (repeat (first | (with_reducible exact bl_refl _) | (with_reducible refine bl_drew ?_) | (with_reducible refine bl_alloc ?_ _) | (with_reducible refine bl_set' ?_ ?_; · (first | omega | (simp; done) | (simp; omega))) | (with_reducible refine bl_last (by assumption) ?_) | (with_reducible refine bl_drewN ?_ _)))
end Go.Proofs.YtmjbcoapceoakaaDoor
