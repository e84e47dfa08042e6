/- Rational: the deferred calls (caught, Make$1 ..), Make. -/
import Derived.Test.YtehifkdfbiebfaaDoorK03
import Derived.Recover
namespace Go.Proofs.YtehifkdfbiebfaaDoor
open Go.RowKit

set_option maxRecDepth 100000 in
set_option maxHeartbeats 400000 in
theorem caught_nil (r e : Nat) (w : World) : Calls Tryd.prog 84 #[.pointer (some ⟨r, 0, none⟩), .pointer (some ⟨e, 0, none⟩), .nilIface] w fun en w' => en = .returned (.tuple #[]) ∧ w = w' := by
  go_enter Tryd.func84, Tryd.ntmps84
  go_wp2
  refine bodyPost_ret (results_none rfl _ _ _) rfl ⟨rfl, rfl⟩
theorem assert_errno (n : Int) (w : World) : (Instr.typeAssert (.iface 42 (.int .i64 n)) 20 42 true).run Tryd.prog w = .ok (.tuple #[.int .i64 n, .bool true]) w := by kernel_rfl
set_option maxRecDepth 100000 in
set_option maxHeartbeats 400000 in
theorem caught_some (r e : Nat) (n : Int) (w : World) (a b c : Value) (h1 : w.cell? ⟨r, 0, none⟩ = some a) (h2 : w.cell? ⟨r, 1, none⟩ = some b) (h3 : w.cell? ⟨e, 0, none⟩ = some c)
    (f1 : w.frozen? ⟨r, 0, none⟩ = false) (f2 : w.frozen? ⟨r, 1, none⟩ = false) (f3 : w.frozen? ⟨e, 0, none⟩ = false) (hne : r < e) :
    Calls Tryd.prog 84 #[.pointer (some ⟨r, 0, none⟩), .pointer (some ⟨e, 0, none⟩), .iface 42 (.int .i64 n)] w fun en w' => en = .returned (.tuple #[]) ∧ ((w.setCell ⟨r, 0, none⟩ (.int .i64 0)).setCell ⟨r, 1, none⟩ (.int .i64 0)).setCell ⟨e, 0, none⟩ (.int .i64 n) = w' := by
  have hta := assert_errno n
  go_enter Tryd.func84, Tryd.ntmps84
  go_wp2
  exact bodyPost_end (results_none rfl _ _ _) rfl ⟨rfl, rfl⟩

theorem make1_panic (r e : Nat) (n : Int) (older : List PanicEntry) (w : World) (a b c : Value) (h1 : w.cell? ⟨r, 0, none⟩ = some a) (h2 : w.cell? ⟨r, 1, none⟩ = some b) (h3 : w.cell? ⟨e, 0, none⟩ = some c)
    (f1 : w.frozen? ⟨r, 0, none⟩ = false) (f2 : w.frozen? ⟨r, 1, none⟩ = false) (f3 : w.frozen? ⟨e, 0, none⟩ = false) (hne : r < e) :
    CallsD Tryd.prog 83 #[.pointer (some ⟨r, 0, none⟩), .pointer (some ⟨e, 0, none⟩)] (.panicking ({ v := .iface 42 (.int .i64 n), recovered := false } :: older)) w fun en u' w' =>
      en = .returned (.tuple #[]) ∧ u' = .panicking ({ v := .iface 42 (.int .i64 n), recovered := true } :: older) ∧ w' = ((w.setCell ⟨r, 0, none⟩ (.int .i64 0)).setCell ⟨r, 1, none⟩ (.int .i64 0)).setCell ⟨e, 0, none⟩ (.int .i64 n) := by
  have C := caught_some r e n w a b c h1 h2 h3 f1 f2 f3 hne
  refine callsD_of_wpS Tryd.func83 rfl fun c₀ cs hu => ?_
  apply wpS_region
  simp [wpOpsS, go_sem, recoverD, hu, Tryd.ntmps83]
  refine C.mono ?_
  rintro en w' ⟨rfl, rfl⟩
  simp [bodyPostS, results, Tryd.results83]

theorem make1_idle (r e : Nat) (w : World) :
    CallsD Tryd.prog 83 #[.pointer (some ⟨r, 0, none⟩), .pointer (some ⟨e, 0, none⟩)] .returning w fun en u' w' => en = .returned (.tuple #[]) ∧ u' = .returning ∧ w' = w := by
  have C := caught_nil r e w
  refine callsD_of_wpS Tryd.func83 rfl fun c₀ cs hu => ?_
  apply wpS_region
  simp [wpOpsS, go_sem, recoverD, hu, Tryd.ntmps83]
  refine C.mono ?_
  rintro en w' ⟨rfl, rfl⟩
  cases c₀
  simp_all [bodyPostS, results, Tryd.results83]


set_option maxRecDepth 100000 in
set_option maxHeartbeats 1000000 in
theorem Make_fails (n d k : Int) (w : World) (hR : ∀ w, Calls Tryd.prog 85 #[.int .i64 n, .int .i64 d] w (Fails k w)) :
    Calls Tryd.prog 31 #[.int .i64 n, .int .i64 d] w (Ret (.tuple #[.agg #[.int .i64 0, .int .i64 0], .int .i64 k]) w) := by
  have HR := Lib.hid hR
  clear hR
  have hmf : ∀ (fn : Fn) (first cap : Array Value) (w : World), (Instr.makeFunc fn first cap).run Tryd.prog w = .ok (.func fn first cap) w := fun _ _ _ _ => rfl
  go_enter_defers Tryd.func31, Tryd.ntmps31
  go_wp2_with (go_at_call 85; refine (HR.out _).mono ?_; rintro e w' ⟨rfl, hb⟩; obtain ⟨hz, hc, hf⟩ := bcl hb (by first | (simp; rfl) | rfl))
  refine leaves_cons (f := 83) (args := #[.pointer (some ⟨w.heap.size, 0, none⟩), .pointer (some ⟨w.heap.size + 1, 0, none⟩)]) (by simp) (by simp [go_sem]) ?_
  refine (make1_panic w.heap.size (w.heap.size + 1) k [] _ (.int .i64 0) (.int .i64 0) (.int .i64 0) ?_ ?_ ?_ ?_ ?_ ?_ (by omega)).mono ?_
  · go_simp
  · go_simp
  · go_simp
  · go_simp
  · go_simp
  · go_simp
  rintro e u' w'' ⟨rfl, rfl, rfl⟩
  refine ⟨.tuple #[.agg #[.int .i64 0, .int .i64 0], .int .i64 k], ?_, ?_⟩
  · simp only [results, Tryd.results31]
    go_simp
  · refine ⟨rfl, ?_⟩
    (repeat (first | (with_reducible exact bl_refl _) | (with_reducible refine bl_drew ?_) | (with_reducible refine bl_alloc ?_ _) | (with_reducible refine bl_set' ?_ ?_; · (first | omega | (simp; done) | (simp; omega))) | (with_reducible refine bl_last (by assumption) ?_) | (with_reducible refine bl_drewN ?_ _)))

set_option maxRecDepth 100000 in
set_option maxHeartbeats 1000000 in
theorem Make_gives (n d x y : Int) (w : World) (hR : ∀ w, Calls Tryd.prog 85 #[.int .i64 n, .int .i64 d] w (Ret (.agg #[.int .i64 x, .int .i64 y]) w)) :
    Calls Tryd.prog 31 #[.int .i64 n, .int .i64 d] w (Ret (.tuple #[.agg #[.int .i64 x, .int .i64 y], .int .i64 0]) w) := by
  have HR := Lib.hid hR
  clear hR
  have hmf : ∀ (fn : Fn) (first cap : Array Value) (w : World), (Instr.makeFunc fn first cap).run Tryd.prog w = .ok (.func fn first cap) w := fun _ _ _ _ => rfl
  go_enter_defers Tryd.func31, Tryd.ntmps31
  go_wp2_with (go_at_call 85; refine (HR.out _).mono ?_; rintro e w' ⟨rfl, hb⟩; obtain ⟨hz, hc, hf⟩ := bcl hb (by first | (simp; rfl) | rfl))
  refine leaves_cons (f := 83) (args := #[.pointer (some ⟨w.heap.size, 0, none⟩), .pointer (some ⟨w.heap.size + 1, 0, none⟩)]) (by simp) (by simp [go_sem]) ?_
  refine (make1_idle w.heap.size (w.heap.size + 1) _).mono ?_
  rintro e u' w'' ⟨rfl, rfl, rfl⟩
  refine ⟨.tuple #[.agg #[.int .i64 x, .int .i64 y], .int .i64 0], ?_, ?_⟩
  · simp only [results, Tryd.results31]
    go_simp
  · refine ⟨rfl, ?_⟩
    (repeat (first | (with_reducible exact bl_refl _) | (with_reducible refine bl_drew ?_) | (with_reducible refine bl_alloc ?_ _) | (with_reducible refine bl_set' ?_ ?_; · (first | omega | (simp; done) | (simp; omega))) | (with_reducible refine bl_last (by assumption) ?_) | (with_reducible refine bl_drewN ?_ _)))
end Go.Proofs.YtehifkdfbiebfaaDoor
