/- Rational: Parse. -/
import Derived.Test.YtmjbcoapceoakaaDoorTxtD
namespace Go.Proofs.YtmjbcoapceoakaaDoor
open Go Go.RowKit Go.Lib

theorem cut_len (l : List UInt8) : (Lib.cut l [47]).1.length ≤ l.length ∧ (Lib.cut l [47]).2.1.length ≤ l.length := by
  unfold Lib.cut
  split
  · refine ⟨?_, ?_⟩
    · show (List.take _ l).length ≤ _
      rw [List.length_take]; omega
    · show (List.drop _ l).length ≤ _
      rw [List.length_drop]; omega
  · exact ⟨Nat.le_refl _, Nat.zero_le _⟩
def ParP (s : ByteArray) (w : World) (e : Ending) (w' : World) : Prop := Below w.heap.size w w' ∧ ∃ v, e = .returned v ∧ PaP s.data.toList v
/-- Atoi of what is a number, and of what is none. -/
theorem atoi_yes {l : List UInt8} {v : Int} (h : Lib.atoiAll l = .ok v) (w : World) (hs : l.length ≤ 140737488351232) (ht : TW w) : Calls Tryd.prog 56 #[.string ⟨l.toArray⟩] w (Ret (.tuple #[.int .i64 v, .nilIface]) w) := by
  refine (Atoi_c ⟨l.toArray⟩ w hs ht).mono ?_
  rintro e w' ⟨hb, ⟨v', h', _, rfl⟩ | ⟨h', _⟩⟩
  · have h' : Lib.atoiAll l = .ok v' := h'
    rw [h] at h'
    injection h' with h'
    exact ⟨by rw [h'], hb⟩
  · exact absurd h (h' v)
def NoInt (w : World) (e : Ending) (w' : World) : Prop := Below w.heap.size w w' ∧ ∃ (x : Int) (N : Nat), e = .returned (.tuple #[.int .i64 x, .iface 77 (.pointer (some ⟨N, 0, none⟩))])
theorem atoi_no {l : List UInt8} (h : ∀ v, Lib.atoiAll l ≠ .ok v) (w : World) (hs : l.length ≤ 140737488351232) (ht : TW w) : Calls Tryd.prog 56 #[.string ⟨l.toArray⟩] w (NoInt w) := by
  refine (Atoi_c ⟨l.toArray⟩ w hs ht).mono ?_
  rintro e w' ⟨hb, ⟨v', h', _, rfl⟩ | ⟨h', x, N, rfl⟩⟩
  · exact absurd h' (h v')
  · exact ⟨hb, x, N, rfl⟩
/-- What Text returns, with letters. -/
def SomeText (w : World) (e : Ending) (w' : World) : Prop := Below w.heap.size w w' ∧ ∃ (S : ByteArray) (E : Int), e = .returned (.tuple #[.string S, .int .i64 E])
theorem text_any (n d : Int) (w : World) (ht : PW w) : Calls Tryd.prog 24 #[.agg #[.int .i64 n, .int .i64 d]] w (SomeText w) := by
  refine (Text_c n d w ht).mono ?_
  rintro e w' ⟨rfl, hb⟩
  exact ⟨hb, _, _, rfl⟩
/-- The three ways of a text that was read. -/
theorem tx_ways (n d : Int) (s : ByteArray) : (vR n d = false ∧ txV n d = .tuple #[.string ⟨#[]⟩, .int .i64 1]) ∨
    (vR n d = true ∧ ratText n d ≠ s.data.toList ∧ txV n d = .tuple #[.string ⟨(ratText n d).toArray⟩, .int .i64 0] ∧ (ratText n d == s.toList) = false) ∨
    (vR n d = true ∧ ratText n d = s.data.toList ∧ txV n d = .tuple #[.string s, .int .i64 0]) := by
  unfold txV txL
  cases h : vR n d
  · exact Or.inl ⟨rfl, rfl⟩
  · by_cases e : ratText n d = s.data.toList
    · refine Or.inr (Or.inr ⟨rfl, e, ?_⟩)
      rw [if_pos rfl, if_pos rfl, e, Lib.mk_data]
    · exact Or.inr (Or.inl ⟨rfl, e, rfl, by rw [Lib.toList_data]; simpa using e⟩)
set_option maxRecDepth 100000 in
set_option maxHeartbeats 2000000 in
theorem Parse_c (s : ByteArray) (w : World) (hs : s.size ≤ 140737488351232) (ht : TW w) : Calls Tryd.prog 25 #[.string s] w (ParP s w) := by
  have HT := Lib.hid ht
  have HC := Lib.hid (fun w => Cut_c s 47 w (by omega))
  obtain ⟨l1, l2⟩ := cut_len s.data.toList
  have hsz : s.data.toList.length = s.size := by rw [Array.length_toList]; rfl
  rw [hsz] at l1 l2
  have hrd : readR s.data.toList = match Lib.atoiAll (Lib.cut s.data.toList [47]).1 with
    | .ok n => if (Lib.cut s.data.toList [47]).2.2 then (match Lib.atoiAll (Lib.cut s.data.toList [47]).2.1 with | .ok d => some (n, d) | _ => none) else some (n, 1)
    | _ => none := rfl
  generalize (Lib.cut s.data.toList [47]).1 = t at *
  generalize (Lib.cut s.data.toList [47]).2.1 = b at *
  generalize (Lib.cut s.data.toList [47]).2.2 = z at *
  clear ht hsz
  have hways : (∀ v, Lib.atoiAll t ≠ .ok v) ∨ ∃ v, Lib.atoiAll t = .ok v := by
    cases Lib.atoiAll t with
    | ok v => exact Or.inr ⟨v, rfl⟩
    | _ => exact Or.inl (fun v h => by cases h)
  rcases hways with h1 | ⟨n, h1⟩
  · have hn : readR s.data.toList = none := by
      rw [hrd]
      cases h2 : Lib.atoiAll t with
      | ok v => exact absurd h2 (h1 v)
      | _ => rfl
    have HP := Lib.hid (PaP.none hn)
    have HA := Lib.hid (fun w (ht : TW w) => atoi_no h1 w (by omega) ht)
    clear hrd hn h1
    cases z
    all_goals
      go_enter Tryd.func25, Tryd.ntmps25
      go_wp2_with (first | (go_at_call 55; ((with_reducible refine (HC.out _).mono ?_); rintro e w' ⟨rfl, hb⟩; obtain ⟨hz, hc, hf⟩ := bcl hb (by first | (simp; rfl) | rfl))) | (go_at_call 56; ((with_reducible refine (HA.out _ (HT.out.up (by (repeat (first | (with_reducible exact bl_refl _) | (with_reducible refine bl_drew ?_) | (with_reducible refine bl_alloc ?_ _) | (with_reducible refine bl_set' ?_ ?_; · (first | omega | (simp; done) | (simp; omega))) | (with_reducible refine bl_last (by assumption) ?_) | (with_reducible refine bl_drewN ?_ _)))))).mono ?_); rintro e w' ⟨hb, x, N, rfl⟩; obtain ⟨hz, hc, hf⟩ := bcl hb (by first | (simp; rfl) | rfl))) | (go_at_call 24; ((with_reducible refine (text_any _ _ _ (HT.out.up (by (repeat (first | (with_reducible exact bl_refl _) | (with_reducible refine bl_drew ?_) | (with_reducible refine bl_alloc ?_ _) | (with_reducible refine bl_set' ?_ ?_; · (first | omega | (simp; done) | (simp; omega))) | (with_reducible refine bl_last (by assumption) ?_) | (with_reducible refine bl_drewN ?_ _))))).pw).mono ?_); rintro e w' ⟨hb, S, E, rfl⟩; obtain ⟨hz, hc, hf⟩ := bcl hb (by first | (simp; rfl) | rfl))))
      refine bodyPost_ret (v := .tuple #[.agg #[.int .i64 0, .int .i64 0], .int .i64 8]) (by simp only [results, Tryd.results25]; go_simp) rfl ⟨?_, _, rfl, HP.out⟩
      (repeat (first | (with_reducible exact bl_refl _) | (with_reducible refine bl_drew ?_) | (with_reducible refine bl_alloc ?_ _) | (with_reducible refine bl_set' ?_ ?_; · (first | omega | (simp; done) | (simp; omega))) | (with_reducible refine bl_last (by assumption) ?_) | (with_reducible refine bl_drewN ?_ _)))
  · cases z
    · have hn : readR s.data.toList = some (n, 1) := by
        rw [hrd, h1]
        rfl
      have hro := read_only hn
      have HA := Lib.hid (fun w (ht : TW w) => atoi_yes h1 w (by omega) ht)
      clear hrd hn h1
      have hX := fun w ht => Text_c n 1 w ht
      have hw := tx_ways n 1 s
      generalize txV n 1 = V at *
      rcases hw with ⟨v1, rfl⟩ | ⟨v1, v2, rfl, v3⟩ | ⟨v1, v2, rfl⟩
      · have HX := Lib.hid hX
        have HP := Lib.hid (PaP.bad hro (Or.inl v1))
        clear hX hro v1
        go_enter Tryd.func25, Tryd.ntmps25
        go_wp2_with (first | (go_at_call 55; ((with_reducible refine (HC.out _).mono ?_); rintro e w' ⟨rfl, hb⟩; obtain ⟨hz, hc, hf⟩ := bcl hb (by first | (simp; rfl) | rfl))) | (go_at_call 56; ((with_reducible refine (HA.out _ (HT.out.up (by (repeat (first | (with_reducible exact bl_refl _) | (with_reducible refine bl_drew ?_) | (with_reducible refine bl_alloc ?_ _) | (with_reducible refine bl_set' ?_ ?_; · (first | omega | (simp; done) | (simp; omega))) | (with_reducible refine bl_last (by assumption) ?_) | (with_reducible refine bl_drewN ?_ _)))))).mono ?_); rintro e w' ⟨rfl, hb⟩; obtain ⟨hz, hc, hf⟩ := bcl hb (by first | (simp; rfl) | rfl))) | (go_at_call 24; ((with_reducible refine (HX.out _ (HT.out.up (by (repeat (first | (with_reducible exact bl_refl _) | (with_reducible refine bl_drew ?_) | (with_reducible refine bl_alloc ?_ _) | (with_reducible refine bl_set' ?_ ?_; · (first | omega | (simp; done) | (simp; omega))) | (with_reducible refine bl_last (by assumption) ?_) | (with_reducible refine bl_drewN ?_ _))))).pw).mono ?_); rintro e w' ⟨rfl, hb⟩; obtain ⟨hz, hc, hf⟩ := bcl hb (by first | (simp; rfl) | rfl))))
        refine bodyPost_ret (v := .tuple #[.agg #[.int .i64 0, .int .i64 0], .int .i64 8]) (by simp only [results, Tryd.results25]; go_simp) rfl ⟨?_, _, rfl, HP.out⟩
        (repeat (first | (with_reducible exact bl_refl _) | (with_reducible refine bl_drew ?_) | (with_reducible refine bl_alloc ?_ _) | (with_reducible refine bl_set' ?_ ?_; · (first | omega | (simp; done) | (simp; omega))) | (with_reducible refine bl_last (by assumption) ?_) | (with_reducible refine bl_drewN ?_ _)))
      · have HX := Lib.hid hX
        have HP := Lib.hid (PaP.bad hro (Or.inr v2))
        clear hX hro v1 v2
        go_enter Tryd.func25, Tryd.ntmps25
        go_wp2_with (first | (go_at_call 55; ((with_reducible refine (HC.out _).mono ?_); rintro e w' ⟨rfl, hb⟩; obtain ⟨hz, hc, hf⟩ := bcl hb (by first | (simp; rfl) | rfl))) | (go_at_call 56; ((with_reducible refine (HA.out _ (HT.out.up (by (repeat (first | (with_reducible exact bl_refl _) | (with_reducible refine bl_drew ?_) | (with_reducible refine bl_alloc ?_ _) | (with_reducible refine bl_set' ?_ ?_; · (first | omega | (simp; done) | (simp; omega))) | (with_reducible refine bl_last (by assumption) ?_) | (with_reducible refine bl_drewN ?_ _)))))).mono ?_); rintro e w' ⟨rfl, hb⟩; obtain ⟨hz, hc, hf⟩ := bcl hb (by first | (simp; rfl) | rfl))) | (go_at_call 24; ((with_reducible refine (HX.out _ (HT.out.up (by (repeat (first | (with_reducible exact bl_refl _) | (with_reducible refine bl_drew ?_) | (with_reducible refine bl_alloc ?_ _) | (with_reducible refine bl_set' ?_ ?_; · (first | omega | (simp; done) | (simp; omega))) | (with_reducible refine bl_last (by assumption) ?_) | (with_reducible refine bl_drewN ?_ _))))).pw).mono ?_); rintro e w' ⟨rfl, hb⟩; obtain ⟨hz, hc, hf⟩ := bcl hb (by first | (simp; rfl) | rfl))))
        refine bodyPost_ret (v := .tuple #[.agg #[.int .i64 0, .int .i64 0], .int .i64 8]) (by simp only [results, Tryd.results25]; go_simp) rfl ⟨?_, _, rfl, HP.out⟩
        (repeat (first | (with_reducible exact bl_refl _) | (with_reducible refine bl_drew ?_) | (with_reducible refine bl_alloc ?_ _) | (with_reducible refine bl_set' ?_ ?_; · (first | omega | (simp; done) | (simp; omega))) | (with_reducible refine bl_last (by assumption) ?_) | (with_reducible refine bl_drewN ?_ _)))
      · have HX := Lib.hid hX
        have HP := Lib.hid (PaP.good v1 v2)
        clear hX hro v1 v2
        go_enter Tryd.func25, Tryd.ntmps25
        go_wp2_with (first | (go_at_call 55; ((with_reducible refine (HC.out _).mono ?_); rintro e w' ⟨rfl, hb⟩; obtain ⟨hz, hc, hf⟩ := bcl hb (by first | (simp; rfl) | rfl))) | (go_at_call 56; ((with_reducible refine (HA.out _ (HT.out.up (by (repeat (first | (with_reducible exact bl_refl _) | (with_reducible refine bl_drew ?_) | (with_reducible refine bl_alloc ?_ _) | (with_reducible refine bl_set' ?_ ?_; · (first | omega | (simp; done) | (simp; omega))) | (with_reducible refine bl_last (by assumption) ?_) | (with_reducible refine bl_drewN ?_ _)))))).mono ?_); rintro e w' ⟨rfl, hb⟩; obtain ⟨hz, hc, hf⟩ := bcl hb (by first | (simp; rfl) | rfl))) | (go_at_call 24; ((with_reducible refine (HX.out _ (HT.out.up (by (repeat (first | (with_reducible exact bl_refl _) | (with_reducible refine bl_drew ?_) | (with_reducible refine bl_alloc ?_ _) | (with_reducible refine bl_set' ?_ ?_; · (first | omega | (simp; done) | (simp; omega))) | (with_reducible refine bl_last (by assumption) ?_) | (with_reducible refine bl_drewN ?_ _))))).pw).mono ?_); rintro e w' ⟨rfl, hb⟩; obtain ⟨hz, hc, hf⟩ := bcl hb (by first | (simp; rfl) | rfl))))
        refine bodyPost_ret (v := .tuple #[.agg #[.int .i64 n, .int .i64 1], .int .i64 0]) (by simp only [results, Tryd.results25]; go_simp) rfl ⟨?_, _, rfl, HP.out⟩
        (repeat (first | (with_reducible exact bl_refl _) | (with_reducible refine bl_drew ?_) | (with_reducible refine bl_alloc ?_ _) | (with_reducible refine bl_set' ?_ ?_; · (first | omega | (simp; done) | (simp; omega))) | (with_reducible refine bl_last (by assumption) ?_) | (with_reducible refine bl_drewN ?_ _)))
    · have hways : (∀ v, Lib.atoiAll b ≠ .ok v) ∨ ∃ v, Lib.atoiAll b = .ok v := by
        cases Lib.atoiAll b with
        | ok v => exact Or.inr ⟨v, rfl⟩
        | _ => exact Or.inl (fun v h => by cases h)
      rcases hways with h2 | ⟨d, h2⟩
      · have hn : readR s.data.toList = none := by
          rw [hrd, h1]
          cases h3 : Lib.atoiAll b with
          | ok v => exact absurd h3 (h2 v)
          | _ => rfl
        have HP := Lib.hid (PaP.none hn)
        have HA := Lib.hid (fun w (ht : TW w) => atoi_yes h1 w (by omega) ht)
        have HB := Lib.hid (fun w (ht : TW w) => atoi_no h2 w (by omega) ht)
        clear hrd hn h1 h2
        go_enter Tryd.func25, Tryd.ntmps25
        go_wp2_with (first | (go_at_call 55; ((with_reducible refine (HC.out _).mono ?_); rintro e w' ⟨rfl, hb⟩; obtain ⟨hz, hc, hf⟩ := bcl hb (by first | (simp; rfl) | rfl))) | (go_at_call 56; ((with_reducible refine (HA.out _ (HT.out.up (by (repeat (first | (with_reducible exact bl_refl _) | (with_reducible refine bl_drew ?_) | (with_reducible refine bl_alloc ?_ _) | (with_reducible refine bl_set' ?_ ?_; · (first | omega | (simp; done) | (simp; omega))) | (with_reducible refine bl_last (by assumption) ?_) | (with_reducible refine bl_drewN ?_ _)))))).mono ?_); rintro e w' ⟨rfl, hb⟩; obtain ⟨hz, hc, hf⟩ := bcl hb (by first | (simp; rfl) | rfl))) | (go_at_call 56; ((with_reducible refine (HB.out _ (HT.out.up (by (repeat (first | (with_reducible exact bl_refl _) | (with_reducible refine bl_drew ?_) | (with_reducible refine bl_alloc ?_ _) | (with_reducible refine bl_set' ?_ ?_; · (first | omega | (simp; done) | (simp; omega))) | (with_reducible refine bl_last (by assumption) ?_) | (with_reducible refine bl_drewN ?_ _)))))).mono ?_); rintro e w' ⟨hb, x, N, rfl⟩; obtain ⟨hz, hc, hf⟩ := bcl hb (by first | (simp; rfl) | rfl))) | (go_at_call 24; ((with_reducible refine (text_any _ _ _ (HT.out.up (by (repeat (first | (with_reducible exact bl_refl _) | (with_reducible refine bl_drew ?_) | (with_reducible refine bl_alloc ?_ _) | (with_reducible refine bl_set' ?_ ?_; · (first | omega | (simp; done) | (simp; omega))) | (with_reducible refine bl_last (by assumption) ?_) | (with_reducible refine bl_drewN ?_ _))))).pw).mono ?_); rintro e w' ⟨hb, S, E, rfl⟩; obtain ⟨hz, hc, hf⟩ := bcl hb (by first | (simp; rfl) | rfl))))
        refine bodyPost_ret (v := .tuple #[.agg #[.int .i64 0, .int .i64 0], .int .i64 8]) (by simp only [results, Tryd.results25]; go_simp) rfl ⟨?_, _, rfl, HP.out⟩
        (repeat (first | (with_reducible exact bl_refl _) | (with_reducible refine bl_drew ?_) | (with_reducible refine bl_alloc ?_ _) | (with_reducible refine bl_set' ?_ ?_; · (first | omega | (simp; done) | (simp; omega))) | (with_reducible refine bl_last (by assumption) ?_) | (with_reducible refine bl_drewN ?_ _)))
      · have hn : readR s.data.toList = some (n, d) := by
          rw [hrd, h1, h2]
          rfl
        have hro := read_only hn
        have HA := Lib.hid (fun w (ht : TW w) => atoi_yes h1 w (by omega) ht)
        have HB := Lib.hid (fun w (ht : TW w) => atoi_yes h2 w (by omega) ht)
        clear hrd hn h1 h2
        have hX := fun w ht => Text_c n d w ht
        have hw := tx_ways n d s
        generalize txV n d = V at *
        rcases hw with ⟨v1, rfl⟩ | ⟨v1, v2, rfl, v3⟩ | ⟨v1, v2, rfl⟩
        · have HX := Lib.hid hX
          have HP := Lib.hid (PaP.bad hro (Or.inl v1))
          clear hX hro v1
          go_enter Tryd.func25, Tryd.ntmps25
          go_wp2_with (first | (go_at_call 55; ((with_reducible refine (HC.out _).mono ?_); rintro e w' ⟨rfl, hb⟩; obtain ⟨hz, hc, hf⟩ := bcl hb (by first | (simp; rfl) | rfl))) | (go_at_call 56; ((with_reducible refine (HA.out _ (HT.out.up (by (repeat (first | (with_reducible exact bl_refl _) | (with_reducible refine bl_drew ?_) | (with_reducible refine bl_alloc ?_ _) | (with_reducible refine bl_set' ?_ ?_; · (first | omega | (simp; done) | (simp; omega))) | (with_reducible refine bl_last (by assumption) ?_) | (with_reducible refine bl_drewN ?_ _)))))).mono ?_); rintro e w' ⟨rfl, hb⟩; obtain ⟨hz, hc, hf⟩ := bcl hb (by first | (simp; rfl) | rfl))) | (go_at_call 56; ((with_reducible refine (HB.out _ (HT.out.up (by (repeat (first | (with_reducible exact bl_refl _) | (with_reducible refine bl_drew ?_) | (with_reducible refine bl_alloc ?_ _) | (with_reducible refine bl_set' ?_ ?_; · (first | omega | (simp; done) | (simp; omega))) | (with_reducible refine bl_last (by assumption) ?_) | (with_reducible refine bl_drewN ?_ _)))))).mono ?_); rintro e w' ⟨rfl, hb⟩; obtain ⟨hz, hc, hf⟩ := bcl hb (by first | (simp; rfl) | rfl))) | (go_at_call 24; ((with_reducible refine (HX.out _ (HT.out.up (by (repeat (first | (with_reducible exact bl_refl _) | (with_reducible refine bl_drew ?_) | (with_reducible refine bl_alloc ?_ _) | (with_reducible refine bl_set' ?_ ?_; · (first | omega | (simp; done) | (simp; omega))) | (with_reducible refine bl_last (by assumption) ?_) | (with_reducible refine bl_drewN ?_ _))))).pw).mono ?_); rintro e w' ⟨rfl, hb⟩; obtain ⟨hz, hc, hf⟩ := bcl hb (by first | (simp; rfl) | rfl))))
          refine bodyPost_ret (v := .tuple #[.agg #[.int .i64 0, .int .i64 0], .int .i64 8]) (by simp only [results, Tryd.results25]; go_simp) rfl ⟨?_, _, rfl, HP.out⟩
          (repeat (first | (with_reducible exact bl_refl _) | (with_reducible refine bl_drew ?_) | (with_reducible refine bl_alloc ?_ _) | (with_reducible refine bl_set' ?_ ?_; · (first | omega | (simp; done) | (simp; omega))) | (with_reducible refine bl_last (by assumption) ?_) | (with_reducible refine bl_drewN ?_ _)))
        · have HX := Lib.hid hX
          have HP := Lib.hid (PaP.bad hro (Or.inr v2))
          clear hX hro v1 v2
          go_enter Tryd.func25, Tryd.ntmps25
          go_wp2_with (first | (go_at_call 55; ((with_reducible refine (HC.out _).mono ?_); rintro e w' ⟨rfl, hb⟩; obtain ⟨hz, hc, hf⟩ := bcl hb (by first | (simp; rfl) | rfl))) | (go_at_call 56; ((with_reducible refine (HA.out _ (HT.out.up (by (repeat (first | (with_reducible exact bl_refl _) | (with_reducible refine bl_drew ?_) | (with_reducible refine bl_alloc ?_ _) | (with_reducible refine bl_set' ?_ ?_; · (first | omega | (simp; done) | (simp; omega))) | (with_reducible refine bl_last (by assumption) ?_) | (with_reducible refine bl_drewN ?_ _)))))).mono ?_); rintro e w' ⟨rfl, hb⟩; obtain ⟨hz, hc, hf⟩ := bcl hb (by first | (simp; rfl) | rfl))) | (go_at_call 56; ((with_reducible refine (HB.out _ (HT.out.up (by (repeat (first | (with_reducible exact bl_refl _) | (with_reducible refine bl_drew ?_) | (with_reducible refine bl_alloc ?_ _) | (with_reducible refine bl_set' ?_ ?_; · (first | omega | (simp; done) | (simp; omega))) | (with_reducible refine bl_last (by assumption) ?_) | (with_reducible refine bl_drewN ?_ _)))))).mono ?_); rintro e w' ⟨rfl, hb⟩; obtain ⟨hz, hc, hf⟩ := bcl hb (by first | (simp; rfl) | rfl))) | (go_at_call 24; ((with_reducible refine (HX.out _ (HT.out.up (by (repeat (first | (with_reducible exact bl_refl _) | (with_reducible refine bl_drew ?_) | (with_reducible refine bl_alloc ?_ _) | (with_reducible refine bl_set' ?_ ?_; · (first | omega | (simp; done) | (simp; omega))) | (with_reducible refine bl_last (by assumption) ?_) | (with_reducible refine bl_drewN ?_ _))))).pw).mono ?_); rintro e w' ⟨rfl, hb⟩; obtain ⟨hz, hc, hf⟩ := bcl hb (by first | (simp; rfl) | rfl))))
          refine bodyPost_ret (v := .tuple #[.agg #[.int .i64 0, .int .i64 0], .int .i64 8]) (by simp only [results, Tryd.results25]; go_simp) rfl ⟨?_, _, rfl, HP.out⟩
          (repeat (first | (with_reducible exact bl_refl _) | (with_reducible refine bl_drew ?_) | (with_reducible refine bl_alloc ?_ _) | (with_reducible refine bl_set' ?_ ?_; · (first | omega | (simp; done) | (simp; omega))) | (with_reducible refine bl_last (by assumption) ?_) | (with_reducible refine bl_drewN ?_ _)))
        · have HX := Lib.hid hX
          have HP := Lib.hid (PaP.good v1 v2)
          clear hX hro v1 v2
          go_enter Tryd.func25, Tryd.ntmps25
          go_wp2_with (first | (go_at_call 55; ((with_reducible refine (HC.out _).mono ?_); rintro e w' ⟨rfl, hb⟩; obtain ⟨hz, hc, hf⟩ := bcl hb (by first | (simp; rfl) | rfl))) | (go_at_call 56; ((with_reducible refine (HA.out _ (HT.out.up (by (repeat (first | (with_reducible exact bl_refl _) | (with_reducible refine bl_drew ?_) | (with_reducible refine bl_alloc ?_ _) | (with_reducible refine bl_set' ?_ ?_; · (first | omega | (simp; done) | (simp; omega))) | (with_reducible refine bl_last (by assumption) ?_) | (with_reducible refine bl_drewN ?_ _)))))).mono ?_); rintro e w' ⟨rfl, hb⟩; obtain ⟨hz, hc, hf⟩ := bcl hb (by first | (simp; rfl) | rfl))) | (go_at_call 56; ((with_reducible refine (HB.out _ (HT.out.up (by (repeat (first | (with_reducible exact bl_refl _) | (with_reducible refine bl_drew ?_) | (with_reducible refine bl_alloc ?_ _) | (with_reducible refine bl_set' ?_ ?_; · (first | omega | (simp; done) | (simp; omega))) | (with_reducible refine bl_last (by assumption) ?_) | (with_reducible refine bl_drewN ?_ _)))))).mono ?_); rintro e w' ⟨rfl, hb⟩; obtain ⟨hz, hc, hf⟩ := bcl hb (by first | (simp; rfl) | rfl))) | (go_at_call 24; ((with_reducible refine (HX.out _ (HT.out.up (by (repeat (first | (with_reducible exact bl_refl _) | (with_reducible refine bl_drew ?_) | (with_reducible refine bl_alloc ?_ _) | (with_reducible refine bl_set' ?_ ?_; · (first | omega | (simp; done) | (simp; omega))) | (with_reducible refine bl_last (by assumption) ?_) | (with_reducible refine bl_drewN ?_ _))))).pw).mono ?_); rintro e w' ⟨rfl, hb⟩; obtain ⟨hz, hc, hf⟩ := bcl hb (by first | (simp; rfl) | rfl))))
          refine bodyPost_ret (v := .tuple #[.agg #[.int .i64 n, .int .i64 d], .int .i64 0]) (by simp only [results, Tryd.results25]; go_simp) rfl ⟨?_, _, rfl, HP.out⟩
          (repeat (first | (with_reducible exact bl_refl _) | (with_reducible refine bl_drew ?_) | (with_reducible refine bl_alloc ?_ _) | (with_reducible refine bl_set' ?_ ?_; · (first | omega | (simp; done) | (simp; omega))) | (with_reducible refine bl_last (by assumption) ?_) | (with_reducible refine bl_drewN ?_ _)))
end Go.Proofs.YtmjbcoapceoakaaDoor
