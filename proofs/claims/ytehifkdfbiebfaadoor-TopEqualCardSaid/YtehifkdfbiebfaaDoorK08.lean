/- Natural: guarded, Mul. The reference's natural numbers: Trim, Valid, Make, Order, Product, Mul. -/
import Derived.Test.YtehifkdfbiebfaaDoorK06
import Derived.Test.YtehifkdfbiebfaaDoorK07
import Derived.LoopN
import Derived.Deep.RegionHeld
import Derived.WalkSmall
namespace Go.Proofs.YtehifkdfbiebfaaDoor
open Go.RowKit

set_option maxRecDepth 100000 in
set_option maxHeartbeats 400000 in
theorem ng1_idle (r e : Nat) (w : World) : CallsD Tryd.prog 152 #[.pointer (some ⟨r, 0, none⟩), .pointer (some ⟨e, 0, none⟩)] .returning w fun en u' w' => en = .returned (.tuple #[]) ∧ u' = .returning ∧ w' = w := by
  refine callsD_of_wpS Tryd.func152 rfl fun c₀ cs hu => ?_
  apply wpS_seq
  apply wpS_region
  simp [wpOpsS, go_sem, recoverD, hu, Tryd.ntmps152]
  simp only [Exit.thenS]
  refine wpS_of_wp ?_
  simp only [Array.replicate_succ, Array.replicate_zero, List.push_toArray, List.append_toArray, List.nil_append, List.cons_append, List.setIfInBounds_toArray, List.set_cons_zero, List.set_cons_succ]
  go_wp2
  cases c₀
  simp_all [bodyPostS, results, Tryd.results152]
/-- What Mul and Pow leave. -/
def NumE (x : Nat) (w : World) (e : Ending) (w' : World) : Prop := Below w.heap.size w w' ∧ ∃ b n, w.heap.size ≤ b ∧ e = .returned (.tuple #[.slice (some ⟨b, 0, none⟩) n n, .int .i64 0]) ∧ Num w' w'.heap.size b n x ∧ n ≤ 640
theorem Num.up {w w' : World} {b n x : Nat} (h : Num w w.heap.size b n x) (hb : Below w.heap.size w w') : Num w' w'.heap.size b n x := (h.below hb).more hb.size
theorem Num.far {w : World} {b n x : Nat} {p : Addr} (h : Num w w.heap.size b n x) (hp : p.block ≠ b) (u : Value) : Num (w.setCell p u) (w.setCell p u).heap.size b n x := by
  obtain ⟨f, ⟨h1, h2⟩, h3⟩ := h
  exact ⟨f, ⟨by simpa [World.setCell] using h1, fun i hi => (World.cell?_setCell_far w p ⟨b, i, none⟩ u hp).trans (h2 i hi)⟩, h3⟩
theorem nhmkf : ∀ (fn : Fn) (first cap : Array Value) (w : World), (Instr.makeFunc fn first cap).run Tryd.prog w = .ok (.func fn first cap) w := fun _ _ _ _ => rfl

set_option maxRecDepth 100000 in
set_option maxHeartbeats 1000000 in
theorem Nmul1_c (p q ba bb n m x y ca cb : Nat) (w : World) (hp : w.cell? ⟨p, 0, none⟩ = some (.slice (some ⟨ba, 0, none⟩) n ca)) (hq : w.cell? ⟨q, 0, none⟩ = some (.slice (some ⟨bb, 0, none⟩) m cb))
    (ha : Num w w.heap.size ba n x) (hb : Num w w.heap.size bb m y) (hn : n ≤ 640) (hm : m ≤ 640) (hxy : x * y < Cap) :
    Calls Tryd.prog 154 #[.pointer (some ⟨p, 0, none⟩), .pointer (some ⟨q, 0, none⟩)] w (NumP (x * y) w) := by
  have HP := Lib.hid (product_c ba bb n m x y ca cb w ha hb hn hm hxy)
  clear ha hb hxy
  go_enter Tryd.func154, Tryd.ntmps154
  go_wp2_with (go_at_call 153; ((with_reducible refine (HP.out).mono ?_); rintro e w' ⟨hb, b, k, hk, rfl, hN, h6⟩))
  go_ret
  exact ⟨hb, b, k, hk, rfl, hN, h6⟩

set_option maxRecDepth 100000 in
set_option maxHeartbeats 2000000 in
theorem guarded2_c (p q L ba bb n m x y ca cb : Nat) (w : World) (hp : w.cell? ⟨p, 0, none⟩ = some (.slice (some ⟨ba, 0, none⟩) n ca)) (hq : w.cell? ⟨q, 0, none⟩ = some (.slice (some ⟨bb, 0, none⟩) m cb))
    (h0 : w.cell? ⟨L, 0, none⟩ = some (.slice (some ⟨ba, 0, none⟩) n ca)) (h1 : w.cell? ⟨L, 1, none⟩ = some (.slice (some ⟨bb, 0, none⟩) m cb))
    (ha : Num w w.heap.size ba n x) (hb : Num w w.heap.size bb m y) (hn : n ≤ 640) (hm : m ≤ 640) (hxy : x * y < Cap) :
    Calls Tryd.prog 132 #[.func (.func 154) #[] #[.pointer (some ⟨p, 0, none⟩), .pointer (some ⟨q, 0, none⟩)], .slice (some ⟨L, 0, none⟩) 2 2] w (NumE (x * y) w) := by
  have hmf := nhmkf
  have HV1 := Lib.hid (fun W (hw : Below w.heap.size w W) => Nvalid_c ba n x ca W (ha.up hw) hn)
  have HV2 := Lib.hid (fun W (hw : Below w.heap.size w W) => Nvalid_c bb m y cb W (hb.up hw) hm)
  have HM := Lib.hid (fun W (hw : Below w.heap.size w W) => Nmul1_c p q ba bb n m x y ca cb W (keep_cell hw hp) (keep_cell hw hq) (ha.up hw) (hb.up hw) hn hm hxy)
  have z1 : L < w.heap.size := World.block_lt_of_cell? _ _ h0
  clear ha hb hxy hp hq
  go_enter_defers Tryd.func132, Tryd.ntmps132
  go_wp2
  refine wp_loop_rounds 3 ?_
  rw [rounds_succ]
  go_wp2_with (first | (go_at_call 86; ((with_reducible refine (HV1.out _ (by (repeat (first | (with_reducible exact bl_refl _) | (with_reducible refine bl_drew ?_) | (with_reducible refine bl_alloc ?_ _) | (with_reducible refine bl_set' ?_ ?_; · (first | omega | (simp; done) | (simp; omega))) | (with_reducible refine bl_last (by assumption) ?_) | (with_reducible refine bl_drewN ?_ _))))).mono ?_); rintro e w' ⟨rfl, rfl⟩)))
  rw [rounds_succ]
  go_wp2_with (first | (go_at_call 86; ((with_reducible refine (HV2.out _ (by (repeat (first | (with_reducible exact bl_refl _) | (with_reducible refine bl_drew ?_) | (with_reducible refine bl_alloc ?_ _) | (with_reducible refine bl_set' ?_ ?_; · (first | omega | (simp; done) | (simp; omega))) | (with_reducible refine bl_last (by assumption) ?_) | (with_reducible refine bl_drewN ?_ _))))).mono ?_); rintro e w' ⟨rfl, rfl⟩)))
  rw [rounds_succ]
  go_wp2_with (first | (go_at_call 154; ((with_reducible refine (HM.out _ (by (repeat (first | (with_reducible exact bl_refl _) | (with_reducible refine bl_drew ?_) | (with_reducible refine bl_alloc ?_ _) | (with_reducible refine bl_set' ?_ ?_; · (first | omega | (simp; done) | (simp; omega))) | (with_reducible refine bl_last (by assumption) ?_) | (with_reducible refine bl_drewN ?_ _))))).mono ?_); rintro e w' ⟨hb, b, k, hk, rfl, hN, h6⟩; obtain ⟨hz, hc, hf⟩ := bcl hb (by first | (simp; rfl) | rfl))))
  refine leaves_cons (f := 152) (args := #[.pointer (some ⟨w.heap.size, 0, none⟩), .pointer (some ⟨w.heap.size + 1, 0, none⟩)]) (by simp) (by simp [go_sem]) ?_
  refine (ng1_idle (w.heap.size) (w.heap.size + 1) _).mono ?_
  rintro e u' w'' ⟨rfl, rfl, rfl⟩
  refine ⟨.tuple #[.slice (some ⟨b, 0, none⟩) k k, .int .i64 0], ?_, ?_⟩
  · simp only [results, Tryd.results132]
    go_simp
  · have hk2 : w.heap.size + 2 ≤ b := by simpa using hk
    refine ⟨by (repeat (first | (with_reducible exact bl_refl _) | (with_reducible refine bl_drew ?_) | (with_reducible refine bl_alloc ?_ _) | (with_reducible refine bl_set' ?_ ?_; · (first | omega | (simp; done) | (simp; omega))) | (with_reducible refine bl_last (by assumption) ?_) | (with_reducible refine bl_drewN ?_ _))), b, k, by omega, rfl, (hN.far (by show w.heap.size ≠ b; omega) _).far (by show w.heap.size + 1 ≠ b; omega) _, h6⟩

set_option maxRecDepth 100000 in
set_option maxHeartbeats 2000000 in
theorem Nmul_c (ba bb n m x y ca cb : Nat) (w : World) (ha : Num w w.heap.size ba n x) (hb : Num w w.heap.size bb m y) (hn : n ≤ 640) (hm : m ≤ 640) (hxy : x * y < Cap) :
    Calls Tryd.prog 135 #[.slice (some ⟨ba, 0, none⟩) n ca, .slice (some ⟨bb, 0, none⟩) m cb] w (NumE (x * y) w) := by
  have hmf := nhmkf
  have HM := Lib.hid (fun W (hw : Below w.heap.size w W) p q L hp hq h0 h1 => guarded2_c p q L ba bb n m x y ca cb W hp hq h0 h1 (ha.up hw) (hb.up hw) hn hm hxy)
  clear ha hb hxy
  go_enter Tryd.func135, Tryd.ntmps135
  go_wp2_with (first | (go_at_call 132; ((with_reducible refine (HM.out _ (by (repeat (first | (with_reducible exact bl_refl _) | (with_reducible refine bl_drew ?_) | (with_reducible refine bl_alloc ?_ _) | (with_reducible refine bl_set' ?_ ?_; · (first | omega | (simp; done) | (simp; omega))) | (with_reducible refine bl_last (by assumption) ?_) | (with_reducible refine bl_drewN ?_ _)))) _ _ _ (by go_simp) (by go_simp) (by go_simp) (by go_simp)).mono ?_); rintro e w' ⟨hb, b, k, hk, rfl, hN, h6⟩)))
  go_ret2
  exact ⟨by (repeat (first | (with_reducible exact bl_refl _) | (with_reducible refine bl_drew ?_) | (with_reducible refine bl_alloc ?_ _) | (with_reducible refine bl_set' ?_ ?_; · (first | omega | (simp; done) | (simp; omega))) | (with_reducible refine bl_last (by assumption) ?_) | (with_reducible refine bl_drewN ?_ _))), b, k, Nat.le_trans (by simp; omega) hk, rfl, hN, h6⟩
end Go.Proofs.YtehifkdfbiebfaaDoor
namespace Go.Proofs.YtehifkdfbiebfaaDoor
open Go.RowKit

theorem u64_low (E : Int) (h0 : 0 ≤ E) (h1 : E ≤ 18446744073709551615) : bits BinOp.and IntKind.u64 E 4294967295 = E % 4294967296 := by
  have h := bits_and_u64_nat E.toNat 4294967295 (by omega) (by omega)
  have e : E.toNat &&& 4294967295 = E.toNat % 4294967296 := Nat.and_two_pow_sub_one_eq_mod E.toNat 32
  rw [e, Int.toNat_of_nonneg h0] at h
  have h2 : ((E.toNat % 4294967296 : Nat) : Int) = E % 4294967296 := by omega
  exact h.trans h2
/-- What Trim leaves. -/
def TrimP (f : Nat → Nat) (N b c : Nat) (w : World) (e : Ending) (w' : World) : Prop := ∃ n, n ≤ N ∧ e = .returned (.slice (some ⟨b, 0, none⟩) n c) ∧ w = w' ∧ IsN f n (nvF f N)
/-- A number that the reference makes. -/
def RNumP (x : Nat) (w : World) (e : Ending) (w' : World) : Prop := Below w.heap.size w w' ∧ ∃ b n c, w.heap.size ≤ b ∧ n ≤ c ∧ e = .returned (.slice (some ⟨b, 0, none⟩) n c) ∧ Num w' w'.heap.size b n x ∧ n ≤ c ∧ c ≤ 1280
end Go.Proofs.YtehifkdfbiebfaaDoor
