/- TopEqual: lists of pitches that a function builds; the quotients of a scale's degrees. -/
import Derived.Test.YtehifkdfbiebfaaDoorK27
import Derived.Deep.AppendLies
import Derived.Deep.CutBlock
namespace Go.Proofs.YtehifkdfbiebfaaDoor
open Go Go.RowKit

/-- Rows of c cells each. -/
def rowL (f : Nat → List Value) (k : Nat) : List Value := (List.range k).flatMap f
theorem rowL_succ (f : Nat → List Value) (k : Nat) : rowL f (k + 1) = rowL f k ++ f k := by simp [rowL, List.range_succ]
theorem rowL_len {f : Nat → List Value} {c : Nat} (h : ∀ j, (f j).length = c) : ∀ k, (rowL f k).length = k * c
  | 0 => by simp [rowL]
  | k + 1 => by rw [rowL_succ, List.length_append, rowL_len h k, h, Nat.succ_mul]
theorem rowL_get {f : Nat → List Value} {c : Nat} (h : ∀ j, (f j).length = c) {x i : Nat} (hi : i < c) : ∀ {k : Nat}, x < k → (rowL f k)[x * c + i]? = (f x)[i]?
  | 0, hx => absurd hx (by omega)
  | k + 1, hx => by
    rw [rowL_succ]
    by_cases e : x = k
    · subst e
      rw [List.getElem?_append_right (by rw [rowL_len h]; omega), rowL_len h, Nat.add_sub_cancel_left]
    · have hl : x * c + i < k * c := by
        have : (x + 1) * c ≤ k * c := Nat.mul_le_mul_right c (by omega)
        rw [Nat.succ_mul] at this
        omega
      rw [List.getElem?_append_left (by rw [rowL_len h]; exact hl)]
      exact rowL_get h hi (by omega)
def v6 (g : Nat → Int) : List Value := [.int .i64 (g 0), .int .i64 (g 1), .int .i64 (g 2), .int .i64 (g 3), .int .i64 (g 4), .int .i64 (g 5)]
theorem own_kept {w w' : World} {base n size : Nat} {e : TypeId} {v : Value} {xs : List Value} {row : Option Nat} (h : w.ownsRow base e size v n xs) (hg : w.grownBy w' row) (hne : ∀ b, v.ownBlock = some b → row ≠ some b) : w'.ownsRow base e size v n xs := by
  refine h.kept hg ?_
  cases hv : v.ownBlock with
  | none => exact Or.inl rfl
  | some b => exact Or.inr (fun e => hne b hv e.symm)
theorem Tryd.infoPit : (Tryd.prog.info? 72).map (fun i => (i.zero, i.size, i.bytes)) = some (some (.agg #[.int .i64 0, .int .i64 0, .int .i64 0, .int .i64 0, .int .i64 0, .int .i64 0]), 6, 48) := by kernel_rfl
def v1 (x : Int) : List Value := [.int .i64 x, .int .i64 0, .int .i64 0, .int .i64 0, .int .i64 0, .int .i64 0]
theorem sc_of_own {w : World} {base L : Nat} {e : TypeId} {v : Value} {st : Nat → Int} (h : w.ownsRow base e 6 v (L + 1) (rowL (fun j => v1 (st j)) (L + 1))) : ∃ b c, v = .slice (some ⟨b, 0, none⟩) (L + 1) c ∧ L + 1 ≤ c ∧ VecsR w w.heap.size (some ⟨b, 0, none⟩) (L + 1) (stG st) := by
  have h' := h
  rcases h.2 with ⟨_, h0⟩ | ⟨b, cap, cur, rfl, hb, hh, hcap, _⟩
  · omega
  · refine ⟨b, cap, rfl, hcap, fun _ => ⟨b, 0, rfl, (Array.getElem?_eq_some_iff.1 hh).1, fun k hk i hi => ?_⟩⟩
    have := World.ownsRow.cellAt h' (k * 6 + i) (by omega)
    rw [Nat.zero_add, this, rowL_get (c := 6) (fun _ => rfl) hi hk]
    rcases lt6 hi with rfl | rfl | rfl | rfl | rfl | rfl <;> rfl
/-- The coordinates of the difference, as the loop goes. -/
def dfA (x y : Int) (k : Nat) : Int := if k = 0 then x else x - y
set_option maxRecDepth 100000 in
set_option maxHeartbeats 16000000 in
theorem quot_c (st : Nat → Int) (n : Nat) (hs : Rise st n) (d : Int) (hd : 0 ≤ d ∧ d ≤ 12) (hdd : ∀ i, i < n → atD st n (i + 1) - atD st n i = d) (b o c : Nat) (w : World) (hv : VecsR w w.heap.size (some ⟨b, o, none⟩) n (stG st)) :
    Calls Tryd.prog 99 #[.slice (some ⟨b, o, none⟩) n c, .func (.func 100) #[] #[], .func (.func 101) #[] #[]] w (fun e w' => Below w.heap.size w w' ∧ ∃ b' c', e = .returned (.tuple #[.slice (some ⟨b', 0, none⟩) n c', .int .i64 0]) ∧ VecsR w' w'.heap.size (some ⟨b', 0, none⟩) n (stG (fun _ => d))) := by
  have hs' := hs
  obtain ⟨h1, h2, _, _, h5⟩ := hs'
  obtain ⟨ip, hpi, hp0, hp1, hp2⟩ := info_parts Tryd.infoPit
  have hb1 : ∀ j, j ≤ n → 0 ≤ atD st n j ∧ atD st n j ≤ 24 := fun j hj => by
    unfold atD
    split
    · rename_i h; have := h5 j h; omega
    · have := h5 0 (by omega); omega
  have HAt := Lib.hid (fun j (hj : j ≤ n) sp X (hX : Below w.heap.size w X) hB => at_c st n hs b o c sp j hj X hB (hv.up hX))
  have HBd := Lib.hid hb1
  have HDd := Lib.hid hdd
  have HVd := Lib.hid (fun X => PVld1_c d X (by omega))
  clear hs hv hdd hb1 h5
  go_enter Tryd.func99, Tryd.ntmps99
  go_upto_region 1 with fail
  refine wp_letter ?_
  intro W1 hW1
  have b1 : Below w.heap.size w W1 := by rw [hW1]; exact bl_alloc (bl_refl _) _
  have S1 : Blk W1 w.heap.size 73 #[.slice (some ⟨b, o, none⟩) n c] := by rw [hW1]; exact Blk.new _ _ _
  clear hW1
  have HS1 := Lib.hid S1
  have HB1 := Lib.hid b1
  have p_0 := S1.cell 0
  have zp := S1.lt
  simp only [List.getElem?_toArray, List.getElem?_cons_zero] at p_0
  have hz1 : w.heap.size + 1 ≤ W1.heap.size := zp
  clear b1 S1
  go_upto_block 0 with fail
  clear p_0 zp
  go_wp2
  go_loopw [9, 17] (fun ov kv wr => ∃ k : Nat, k ≤ n ∧ kv = .int .i64 (k : Int) ∧ Hid (Below W1.heap.size W1 wr) ∧ Hid (wr.ownsRow W1.heap.size 72 6 ov k (rowL (fun _ => v1 d) k))) (fun _ kv _ => n - (intOf kv).toNat)
  case atStart => exact ⟨0, by omega, rfl, Lib.hid (bl_refl _), Lib.hid (World.ownsRow_nil _ _ _ _)⟩
  case round =>
    obtain ⟨k, hk, rfl, HB, HO⟩ := hrel
    by_cases hlt : k < n
    · have hki : (k : Int) < (n : Int) := by omega
      have wk : IntKind.i64.wrap ((k : Int) + 1) = (k : Int) + 1 := by rw [IntKind.wrap_i64]; omega
      have hA1 := fun X (hX : Below W1.heap.size W1 X) => HAt.out (k + 1) (by omega) w.heap.size X (bl_trans HB1.out hX) (HS1.out.below hX HS1.out.lt)
      rw [show ((k + 1 : Nat) : Int) = (k : Int) + 1 by omega] at hA1
      have HA1 := Lib.hid hA1
      clear hA1
      have HA0 := Lib.hid (fun X (hX : Below W1.heap.size W1 X) => HAt.out k (by omega) w.heap.size X (bl_trans HB1.out hX) (HS1.out.below hX HS1.out.lt))
      have hdk := HDd.out k hlt
      have hb1 := HBd.out (k + 1) (by omega)
      have hb0 := HBd.out k (by omega)
      generalize atD st n (k + 1) = x at *
      generalize atD st n k = y at *
      go_wp2_with fail
      (with_reducible refine (up1_c k _ (by omega)).mono ?_)
      rintro e w2 ⟨rfl, hb2⟩
      have HB2 := Lib.hid (bl_trans HB.out hb2)
      have HO2 := Lib.hid (own_below HO.out hb2)
      clear hb2 HB HO
      simp only
      go_wp2_with fail
      (with_reducible refine (HA1.out _ HB2.out).mono ?_)
      rintro e w3 ⟨rfl, hb3⟩
      have HB3 := Lib.hid (bl_trans HB2.out hb3)
      have HO3 := Lib.hid (own_below HO2.out hb3)
      clear hb3 HB2 HO2 HA1
      simp only
      go_wp2_with fail
      (with_reducible refine (up0_c k _).mono ?_)
      rintro e w4 ⟨rfl, hb4⟩
      have HB4 := Lib.hid (bl_trans HB3.out hb4)
      have HO4 := Lib.hid (own_below HO3.out hb4)
      clear hb4 HB3 HO3
      simp only
      go_wp2_with fail
      (with_reducible refine (HA0.out _ HB4.out).mono ?_)
      rintro e w5 ⟨rfl, hb5⟩
      have HB5 := Lib.hid (bl_trans HB4.out hb5)
      have HO5 := Lib.hid (own_below HO4.out hb5)
      clear hb5 HB4 HO4 HA0
      simp only
      have hz5 := HB5.out.size
      go_upto_region 7 with fail
      refine wp_letter ?_
      intro W6 hW6
      have b6 : Below w5.heap.size w5 W6 := by rw [hW6]; exact bl_alloc (bl_alloc (bl_refl _) _) _
      have A6 : Blk W6 w5.heap.size 72 (arr1 x) := by rw [hW6]; exact (Blk.new _ _ _).alloc _
      have C6 : Blk W6 (w5.heap.size + 1) 72 (arr1 y) := by rw [hW6]; exact blkAt _ _ _ _ (by simp)
      have HB6 := Lib.hid b6
      have HA6 := Lib.hid A6
      have HC6 := Lib.hid C6
      clear hW6 b6 A6 C6
      go_wp2
      go_loopw [30] (fun kv wr => ∃ j : Nat, j ≤ 6 ∧ kv = .int .i64 (j : Int) ∧ Hid (Below w5.heap.size w5 wr) ∧ Hid (Blk wr w5.heap.size 72 (arr1 (dfA x y j))) ∧ Hid (Blk wr (w5.heap.size + 1) 72 (arr1 y))) (fun kv _ => 6 - (intOf kv).toNat)
      case atStart => exact ⟨0, by omega, rfl, HB6, HA6, HC6⟩
      case round =>
        obtain ⟨j, hj, rfl, HBj, HAj, HCj⟩ := hrel
        by_cases hj6 : j < 6
        · have hji : (j : Int) < 6 := by omega
          have wj : IntKind.i64.wrap ((j : Int) + 1) = (j : Int) + 1 := by rw [IntKind.wrap_i64]; omega
          obtain ⟨aj, bj, ha, hb', hw', hset⟩ : ∃ aj bj : Int, (arr1 (dfA x y j))[j]? = some (.int .i64 aj) ∧ (arr1 y)[j]? = some (.int .i64 bj) ∧ IntKind.i64.wrap (aj - bj) = aj - bj ∧ (arr1 (dfA x y j)).setIfInBounds j (.int .i64 (aj - bj)) = arr1 (dfA x y (j + 1)) := by
            rcases lt6 hj6 with rfl | rfl | rfl | rfl | rfl | rfl
            · exact ⟨x, y, rfl, rfl, by rw [IntKind.wrap_i64]; omega, rfl⟩
            · exact ⟨0, 0, rfl, rfl, by decide, rfl⟩
            · exact ⟨0, 0, rfl, rfl, by decide, rfl⟩
            · exact ⟨0, 0, rfl, rfl, by decide, rfl⟩
            · exact ⟨0, 0, rfl, rfl, by decide, rfl⟩
            · exact ⟨0, 0, rfl, rfl, by decide, rfl⟩
          have cA := (HAj.out.cell j).trans ha
          have cC := (HCj.out.cell j).trans hb'
          have zA := HAj.out.lt
          have zC := HCj.out.lt
          have HSt := Lib.hid hset
          have HHa := Lib.hid ha
          clear ha hb' hset
          go_wp2
          (refine wp_region_bl [0,1,2,3,4,5,6,7] [8] (by kernel_rfl) (by kernel_rfl) (by rfl) ?_
           simp only [pickI, pick, List.getElem?_cons_succ, List.getElem?_cons_zero]
           iterate 8 (first
             | (refine head_val (by rfl) (by first | exact wanted_free rfl | rfl) ?_
                apply Exists.intro
                refine ⟨fun X hX => ?_, ?_⟩
                · (obtain ⟨qz, qc, qf⟩ := bcl hX.out (by first | (simp; rfl) | rfl)
                   go_simp
                   first | done | rfl | exact ⟨rfl, rfl⟩)
                simp only [Act.put, List.setIfInBounds_toArray, List.set_cons_zero, List.set_cons_succ])
             | (refine head_pass (by rfl) ?_
                simp only [Act.put, List.setIfInBounds_toArray, List.set_cons_zero, List.set_cons_succ]))
           refine head_nil ?_
           intro w' hw'
           have hb := hw'.out
           clear hw'
           obtain ⟨hz, hc, hf⟩ := bcl hb (by first | (simp; rfl) | rfl))
          have HB7 := Lib.hid (bl_trans HBj.out hb)
          have HA7 := Lib.hid (HAj.out.below hb HAj.out.lt)
          have HC7 := Lib.hid (HCj.out.below hb HCj.out.lt)
          clear hb hz hc hf cA cC zA zC HBj HAj HCj
          have fA := HA7.out.frozen j
          have cA := (HA7.out.cell j).trans HHa.out
          have zA := HA7.out.lt
          go_wp2
          go_roundw
          case rel => exact ⟨j + 1, by omega, by go_num, Lib.hid (bl_set' (Nat.le_refl _) HB7.out), Lib.hid (by
            have h5 := HA7.out.set_ j (.int .i64 (aj - bj))
            rw [HSt.out] at h5
            exact h5), Lib.hid (HC7.out.far (by show w5.heap.size + 1 ≠ w5.heap.size; omega) _)⟩
          case measure => simp [intOf]; omega
        · obtain rfl : j = 6 := by omega
          have A8 : Blk wr w5.heap.size 72 (arr1 d) := by
            have h := HAj.out
            rw [show dfA x y 6 = d from by unfold dfA; simpa using hdk] at h
            exact h
          have HB8 := Lib.hid (bl_trans HB5.out HBj.out)
          have HO8 := Lib.hid (own_below HO5.out HBj.out)
          have p_0 := A8.cell 0
          have p_1 := A8.cell 1
          have p_2 := A8.cell 2
          have p_3 := A8.cell 3
          have p_4 := A8.cell 4
          have p_5 := A8.cell 5
          have zp := A8.lt
          simp only [List.getElem?_toArray, List.getElem?_cons_zero, List.getElem?_cons_succ] at p_0 p_1 p_2 p_3 p_4 p_5
          clear HBj HAj HCj HB5 HO5 HB6 HA6 HC6
          go_wp2_with fail
          (with_reducible refine (HVd.out _).mono ?_)
          rintro e w9 ⟨rfl, hb9⟩
          have HB9 := Lib.hid (bl_trans HB8.out hb9)
          have HO9 := Lib.hid (own_below HO8.out hb9)
          have A9 := A8.below hb9 A8.lt
          clear hb9 HB8 HO8 A8 p_0 p_1 p_2 p_3 p_4 p_5 zp
          have p_0 := A9.cell 0
          have p_1 := A9.cell 1
          have p_2 := A9.cell 2
          have p_3 := A9.cell 3
          have p_4 := A9.cell 4
          have p_5 := A9.cell 5
          have zp := A9.lt
          simp only [List.getElem?_toArray, List.getElem?_cons_zero, List.getElem?_cons_succ] at p_0 p_1 p_2 p_3 p_4 p_5
          have HLt := Lib.hid (fun b h => HO9.out.lt b h)
          have hz9 := HB9.out.size
          simp only
          go_wp2_with (at_builtin; refine wpList_append_lies _ rfl _ _ 73 rfl W1.heap.size 72 ip (.agg #[.int .i64 0, .int .i64 0, .int .i64 0, .int .i64 0, .int .i64 0, .int .i64 0]) 6 48 Tryd.underlying73 hpi hp0 hp1 hp2 rfl (by decide) _ _ _ rfl (HO9.out.alloc _) ⟨w9.heap.size, 0, none⟩ 1 1 (v1 d) rfl rfl (World.news_of_block (World.alloc_heap_new w9 _)) (fun u hu => by simp [v1] at hu; rcases hu with rfl | rfl <;> rfl) (by omega) (by unfold maxLen; omega) (by omega) (by simp; omega) _ rfl ?_; intro n1 c1 w6 hown1 hg1 hl1 hlt1)
          have HOn := Lib.hid hown1
          have HG := Lib.hid hg1
          clear hown1 hg1 hl1 hlt1
          go_roundw
          case rel =>
            refine ⟨k + 1, by omega, by go_num, Lib.hid ?_, Lib.hid ?_⟩
            · exact (bl_alloc HB9.out _).grown HG.out (by simp; omega) (fun b h => (HLt.out b h).1)
            · rw [rowL_succ]
              exact HOn.out
          case measure => simp [intOf]; omega
    · obtain rfl : k = n := by omega
      obtain ⟨b', c', e, _, hv⟩ := sc_of_own (L := k - 1) (st := fun _ => d) (by rw [show k - 1 + 1 = k by omega]; exact HO.out)
      rw [show k - 1 + 1 = k by omega] at e hv
      subst e
      have HVs := Lib.hid hv
      have HB9 := Lib.hid (bl_trans HB1.out HB.out)
      clear hv HB HO
      go_wp2
      refine bodyPost_ret (v := .tuple #[.slice (some ⟨b', 0, none⟩) k c', .int .i64 0]) (by simp only [results, Tryd.results99]; go_simp) rfl ?_
      exact ⟨HB9.out, b', c', rfl, HVs.out⟩
end Go.Proofs.YtehifkdfbiebfaaDoor
