/- Rational: Parse. -/
import Derived.Test.YtmjbcoapceoakaaDoorTxtC
import Derived.Test.YtmjbcoapceoakaaDoorAtoi
import Derived.Lib.CutLaws
import Derived.WalkKit
import Derived.Lib.Walk
namespace Go.Proofs.YtmjbcoapceoakaaDoor
open Go Go.RowKit Go.Lib

set_option maxHeartbeats 2000000 in
set_option maxRecDepth 100000 in
/-- Cut at one byte. -/
theorem lcut_c (s : ByteArray) (c : UInt8) (w : World) (hs : s.size ≤ 9223372036854775807) :
    Calls Tryd.prog 65 #[.string s, .string ⟨#[c]⟩] w (Ret (.tuple #[.string ⟨(Lib.cut s.data.toList [c]).1.toArray⟩, .string ⟨(Lib.cut s.data.toList [c]).2.1.toArray⟩, .bool (Lib.cut s.data.toList [c]).2.2]) w) := by
  have HI := Lib.hid (fun w => Tryd.stringslite_Index_one s c w)
  have hsz : (⟨#[c]⟩ : ByteArray).size = 1 := rfl
  rcases Lib.indexB_cases s ⟨#[c]⟩ with hix | ⟨i, hix, hroom⟩
  · obtain ⟨e1, e2, e3⟩ := Lib.cutB_miss s ⟨#[c]⟩ hix
    have e1 : (⟨(Lib.cut s.data.toList [c]).1.toArray⟩ : ByteArray) = s := e1
    have e2 : (⟨(Lib.cut s.data.toList [c]).2.1.toArray⟩ : ByteArray) = ByteArray.empty := e2
    have e3 : (Lib.cut s.data.toList [c]).2.2 = false := e3
    rw [e1, e2, e3]
    have hb : Lib.indexByte s.data.toList c = -1 := by rw [← Lib.index_one]; exact hix
    rw [hb] at HI
    have HI := Lib.hid HI.out
    clear e1 e2 e3 hb hix hsz
    go_enter Tryd.func65, Tryd.ntmps65
    go_wp2_with (go_at_call 69; ((with_reducible refine (HI.out _).mono ?_); rintro e w' ⟨rfl, rfl⟩))
    go_ret3
    exact ⟨rfl, by (repeat (first | (with_reducible exact bl_refl _) | (with_reducible refine bl_drew ?_) | (with_reducible refine bl_alloc ?_ _) | (with_reducible refine bl_set' ?_ ?_; · (first | omega | (simp; done) | (simp; omega))) | (with_reducible refine bl_last (by assumption) ?_) | (with_reducible refine bl_drewN ?_ _)))⟩
  · obtain ⟨e1, e2, e3⟩ := Lib.cutB_hit s ⟨#[c]⟩ i hix
    have e1 : (⟨(Lib.cut s.data.toList [c]).1.toArray⟩ : ByteArray) = s.extract 0 i := e1
    have e2 : (⟨(Lib.cut s.data.toList [c]).2.1.toArray⟩ : ByteArray) = s.extract (i + 1) s.size := e2
    have e3 : (Lib.cut s.data.toList [c]).2.2 = true := e3
    rw [e1, e2, e3]
    have hb : Lib.indexByte s.data.toList c = i := by rw [← Lib.index_one]; exact hix
    rw [hb] at HI
    have HI := Lib.hid HI.out
    rw [hsz] at hroom
    have c1 : (0 : Int) ≤ ↑i := by omega
    have c2 : (↑i : Int) ≤ ↑s.size := by omega
    have c3 : (0 : Int) ≤ ↑i + 1 := by omega
    have c4 : (↑i + 1 : Int) ≤ ↑s.size := by omega
    have c5 : IntKind.i64.wrap (↑i + 1) = ↑i + 1 := by rw [IntKind.wrap_i64]; omega
    have c6 : ((i : Int) + 1).toNat = i + 1 := by omega
    clear e1 e2 e3 hb hix hsz hs
    go_enter Tryd.func65, Tryd.ntmps65
    go_wp2_with (go_at_call 69; ((with_reducible refine (HI.out _).mono ?_); rintro e w' ⟨rfl, rfl⟩))
    (refine wp_region_ble [0,1,2,3,4,5,6,7,8] [0,1,2,3,4,5,6,7,8] [9,10,11] (by kernel_rfl) (by kernel_rfl) (by rfl) (by repeat (first | exact panic_body | refine panic_then ?_ | refine panic_block ?_)) ?_
     simp only [pickI, pick, List.getElem?_cons_succ, List.getElem?_cons_zero]
     iterate 9 (first
       | (refine head_val (by rfl) (by rfl) ?_
          apply Exists.intro
          refine ⟨fun X hX => ?_, ?_⟩
          · (obtain ⟨qz, qc, qf⟩ := bcl hX.out (by first | (simp; rfl) | rfl)
             go_simp
             first | done | rfl | exact ⟨rfl, rfl⟩)
          simp only [Act.put, List.setIfInBounds_toArray, List.set_cons_zero, List.set_cons_succ])
       | (refine head_pure (by rfl) (by rfl) ?_
          apply Exists.intro
          refine ⟨fun X => ?_, ?_⟩
          · (go_simp
             first | done | rfl)
          simp only [Act.put, List.setIfInBounds_toArray, List.set_cons_zero, List.set_cons_succ])
       | (refine head_pass (by rfl) ?_
          simp only [Act.put, List.setIfInBounds_toArray, List.set_cons_zero, List.set_cons_succ]))
     refine head_nil ?_
     intro w' hw'
     have hb := hw'.out
     clear hw'
     obtain ⟨hz, hc, hf⟩ := bcl hb (by first | (simp; rfl) | rfl))
    go_wp2
    go_ret3
    exact ⟨rfl, by (repeat (first | (with_reducible exact bl_refl _) | (with_reducible refine bl_drew ?_) | (with_reducible refine bl_alloc ?_ _) | (with_reducible refine bl_set' ?_ ?_; · (first | omega | (simp; done) | (simp; omega))) | (with_reducible refine bl_last (by assumption) ?_) | (with_reducible refine bl_drewN ?_ _)))⟩
set_option maxHeartbeats 1000000 in
theorem Cut_c (s : ByteArray) (c : UInt8) (w : World) (hs : s.size ≤ 9223372036854775807) :
    Calls Tryd.prog 55 #[.string s, .string ⟨#[c]⟩] w (Ret (.tuple #[.string ⟨(Lib.cut s.data.toList [c]).1.toArray⟩, .string ⟨(Lib.cut s.data.toList [c]).2.1.toArray⟩, .bool (Lib.cut s.data.toList [c]).2.2]) w) := by
  have HI := Lib.hid (fun w => lcut_c s c w hs)
  generalize (Lib.cut s.data.toList [c]).1 = x at *
  generalize (Lib.cut s.data.toList [c]).2.1 = y at *
  generalize (Lib.cut s.data.toList [c]).2.2 = z at *
  clear hs
  go_enter Tryd.func55, Tryd.ntmps55
  go_wp2_with (go_at_call 65; ((with_reducible refine (HI.out _).mono ?_); rintro e w' ⟨rfl, hb⟩; obtain ⟨hz, hc, hf⟩ := bcl hb (by first | (simp; rfl) | rfl)))
  go_ret3
  exact ⟨rfl, by (repeat (first | (with_reducible exact bl_refl _) | (with_reducible refine bl_drew ?_) | (with_reducible refine bl_alloc ?_ _) | (with_reducible refine bl_set' ?_ ?_; · (first | omega | (simp; done) | (simp; omega))) | (with_reducible refine bl_last (by assumption) ?_) | (with_reducible refine bl_drewN ?_ _)))⟩

/-- The program's variables as the laws of texts want them. -/
structure TW (w : World) : Prop where
  pw : PW w
  syn : ∃ ev, w.cell? ⟨1, 0, none⟩ = some ev ∧ (ev = .nilIface ∨ ∃ te pe, ev = .iface te pe)
  rng : ∃ ev, w.cell? ⟨2, 0, none⟩ = some ev ∧ (ev = .nilIface ∨ ∃ te pe, ev = .iface te pe)
theorem TW.up {w w' : World} (h : TW w) (hb : Below w.heap.size w w') : TW w' := by
  obtain ⟨h1, ⟨ev, h2, h3⟩, ⟨ex, h4, h5⟩⟩ := h
  exact ⟨tab_up h1 hb, ⟨ev, keep_cell hb h2, h3⟩, ⟨ex, keep_cell hb h4, h5⟩⟩
/-- How Atoi ends. -/
def AtoiP (s : ByteArray) (w : World) (e : Ending) (w' : World) : Prop := Below w.heap.size w w' ∧
  ((∃ v : Int, Lib.atoiAll s.data.toList = .ok v ∧ I64 v ∧ e = .returned (.tuple #[.int .i64 v, .nilIface])) ∨
    ((∀ v : Int, Lib.atoiAll s.data.toList ≠ .ok v) ∧ ∃ (x : Int) (N : Nat), e = .returned (.tuple #[.int .i64 x, .iface 77 (.pointer (some ⟨N, 0, none⟩))])))
theorem Atoi_c (s : ByteArray) (w : World) (hs : s.size ≤ 140737488351232) (ht : TW w) : Calls Tryd.prog 56 #[.string s] w (AtoiP s w) := by
  obtain ⟨ev, e1, e2⟩ := ht.syn
  obtain ⟨ex, x1, x2⟩ := ht.rng
  cases h : Lib.atoiAll s.data.toList with
  | ok v =>
    refine (Tryd.strconv_Atoi_ok s (by omega) v h w).mono ?_
    rintro e w' ⟨rfl, hw⟩
    refine ⟨?_, Or.inl ⟨v, h, Lib.atoiAll_bounds h, rfl⟩⟩
    rcases hw with rfl | ⟨t, rfl⟩
    · exact bl_refl _
    · exact Lib.bytesWorld_below _ _ _
  | «syntax» =>
    refine (Tryd.strconv_Atoi_syntax s (by omega) h ev w e1 e2).mono ?_
    rintro e w' ⟨N, rfl, _, _, hb⟩
    exact ⟨hb, Or.inr ⟨(fun v hv => by rw [h] at hv; cases hv), _, N, rfl⟩⟩
  | range =>
    refine (Tryd.strconv_Atoi_range s (by omega) h ex w x1 x2).mono ?_
    rintro e w' ⟨N, rfl, _, _, hb⟩
    exact ⟨hb, Or.inr ⟨(fun v hv => by rw [h] at hv; cases hv), _, N, rfl⟩⟩
end Go.Proofs.YtmjbcoapceoakaaDoor
