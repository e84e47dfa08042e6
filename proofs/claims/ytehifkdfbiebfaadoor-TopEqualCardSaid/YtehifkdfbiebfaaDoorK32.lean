/- TopEqual: slices.Clone of a list of one integer; the order of the columns. -/
import Derived.Test.YtehifkdfbiebfaaDoorK31
import Derived.Test.YtehifkdfbiebfaaDoorK28
namespace Go.Proofs.YtehifkdfbiebfaaDoor
open Go Go.RowKit

theorem Tryd.infoInt1 : (Tryd.prog.info? 3).map (fun i => (i.zero, i.size, i.bytes)) = some (some (.int .i64 0), 1, 8) := by kernel_rfl
@[go_sem] theorem sl_eq_some (b c : Nat) (w : World) : (binOp .eql 22 (.slice (some ⟨b, 0, none⟩) 1 c) (.slice none 0 0)).run Tryd.prog w = .ok (.bool false) w := by kernel_rfl
@[go_sem] theorem sl_eq_none (w : World) : (binOp .eql 22 (.slice none 0 0) (.slice none 0 0)).run Tryd.prog w = .ok (.bool true) w := by kernel_rfl
set_option maxRecDepth 100000 in
theorem clone0_c (w : World) : Calls Tryd.prog 161 #[.slice none 0 0] w (Ret (.slice none 0 0) w) := by
  go_enter Tryd.func161, Tryd.ntmps161
  go_wp2
  go_ret
  exact ⟨rfl, bl_refl _⟩
set_option maxRecDepth 100000 in
set_option maxHeartbeats 4000000 in
theorem clone1_c (b c : Nat) (x : Int) (w : World) (hb : b < w.heap.size) (hx : w.cell? ⟨b, 0, none⟩ = some (.int .i64 x)) : Calls Tryd.prog 161 #[.slice (some ⟨b, 0, none⟩) 1 c] w
    (fun e w' => Below w.heap.size w w' ∧ ∃ g cap, e = .returned (.slice (some ⟨g, 0, none⟩) 1 cap) ∧ w'.ownsRow w.heap.size 3 1 (.slice (some ⟨g, 0, none⟩) 1 cap) 1 [.int .i64 x]) := by
  obtain ⟨ii, hii, hi0, hi1, hi2⟩ := info_parts Tryd.infoInt1
  have hown : (w.alloc (.cells #[] 3)).ownsRow w.heap.size 3 1 (.slice (some ⟨w.heap.size, 0, none⟩) 0 0) 0 [] := World.ownsRow_lit w #[] 0 (Nat.le_refl _) (by unfold maxLen; omega) rfl
  have HO := Lib.hid hown
  have hnews : ∀ j u, [Value.int .i64 x][j]? = some u → (w.alloc (.cells #[] 3)).cell? ((⟨b, 0, none⟩ : Addr).add j) = some u := fun j u hu => by
    cases j with
    | zero =>
      have e : (⟨b, 0, none⟩ : Addr).add 0 = ⟨b, 0, none⟩ := by simp [Addr.add]
      rw [e, ((bl_alloc (bl_refl w) _).cell (p := ⟨b, 0, none⟩) hb), hx]
      simpa using hu
    | succ j => simp at hu
  have HN := Lib.hid hnews
  clear hown hnews hx
  go_enter Tryd.func161, Tryd.ntmps161
  go_wp2_with (at_builtin; refine wpList_append_lies _ rfl _ _ 22 rfl w.heap.size 3 ii (.int .i64 0) 1 8 Tryd.underlying22 hii hi0 hi1 hi2 rfl (by decide) _ _ _ rfl HO.out ⟨b, 0, none⟩ 1 c [.int .i64 x] rfl rfl HN.out (fun u hu => by simp at hu; rcases hu with rfl; rfl) (by omega) (by unfold maxLen; omega) (by omega) (by simp) _ rfl ?_; intro n1 c1 w6 hown1 hg1 hl1 hlt1)
  have HOn := Lib.hid hown1
  have HB : Hid (Below w.heap.size w w6) := Lib.hid ((bl_alloc (bl_refl w) _).grown hg1 (by simp) (fun b h => Nat.le_of_eq (Option.some.inj h)))
  clear hown1 hg1 hl1 hlt1
  refine bodyPost_ret (v := .slice (some ⟨n1, 0, none⟩) 1 c1) (by simp only [results, Tryd.results161]; go_simp) rfl ?_
  exact ⟨HB.out, n1, c1, rfl, HOn.out⟩
end Go.Proofs.YtehifkdfbiebfaaDoor
