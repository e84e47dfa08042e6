/- BenchSuspects: a suspect is on the way of each check that failed, and of none that passed. -/
import Derived.Test.YtkgklmmkkhbimaaSusB
import Derived.Test.YtkgklmmkkhbimaaSusC
import Derived.Test.YtkgklmmkkhbimaaWalkRests
namespace Go.Proofs.Ytkgklmmkkhbimaa
open Go.RowKit

theorem bools_of_own {w : World} {base n : Nat} {e : TypeId} {v : Value} {xs : List Bool} (h : w.ownsRow base e 1 v n (xs.map Value.bool)) : ∃ A cap, v = .slice A xs.length cap ∧ BoolsR w w.heap.size A xs := by
  have hlen : xs.length = n := by have := h.1; simpa using this
  rcases h.2 with ⟨rfl, h0⟩ | ⟨g, cap, cur, rfl, hb, hh, hc⟩
  · have : xs = [] := by
      cases xs with
      | nil => rfl
      | cons a ys => simp at hlen; omega
    subst this
    exact ⟨none, 0, rfl, fun h1 => absurd h1 (by simp)⟩
  · refine ⟨_, cap, by rw [hlen], fun _ => ⟨g, 0, rfl, ?_, fun i x hx => ?_⟩⟩
    · exact (Array.getElem?_eq_some_iff.1 hh).1
    · have hl : i < xs.length := (List.getElem?_eq_some_iff.1 hx).1
      have := World.ownsRow.cellAt h i (by omega)
      rw [Nat.zero_add, this, List.getElem?_map, hx]
      rfl
theorem ChkR.up {w w' : World} {A : Option Addr} {cs : List (Int × Int)} (h : ChkR w w.heap.size A cs) (hb : Below w.heap.size w w') : ChkR w' w'.heap.size A cs := (h.below hb).more hb.size
theorem BoolsR.up {w w' : World} {A : Option Addr} {cs : List Bool} (h : BoolsR w w.heap.size A cs) (hb : Below w.heap.size w w') : BoolsR w' w'.heap.size A cs := (h.below hb).more hb.size

theorem IntsF.below {w w' : World} {B0 B : Nat} {A : Option Addr} {xs : List Int} (h : IntsF w B0 B A xs) (hb : Below B w w') : IntsF w' B0 B A xs := fun h0 => by
  obtain ⟨b, off, hA, h1, hB, hc⟩ := h h0
  exact ⟨b, off, hA, h1, hB, fun i x hx => (hb.cell (p := ⟨b, off + i, none⟩) hB).trans (hc i x hx)⟩
theorem IntsF.grown {w w' : World} {B0 B : Nat} {A : Option Addr} {xs : List Int} {r : Option Nat} (h : IntsF w B0 B A xs) (hg : w.grownBy w' r) (hr : ∀ g, r = some g → g < B0) (hB : B ≤ w.heap.size) : IntsR w' B A xs := fun h0 => by
  obtain ⟨b, off, hA, h1, hB', hc⟩ := h h0
  refine ⟨b, off, hA, hB', fun i x hx => (World.cell?_of_block (hg.block b (by omega) (fun e => ?_))).trans (hc i x hx)⟩
  have := hr b (by first | exact e | exact e.symm)
  omega
theorem Item_u (n : Int) (l : List Bt) (x : Int) (A : Option Addr) (cap : Nat) (w : World) (hl : Lst w w.heap.size A l) (hlen : l.length ≤ 9223372036854775807) :
    Calls Try.prog 23 #[.int .i64 n, .slice A l.length cap, .int .i64 x] w (fun e w' => Below w.heap.size w w' ∧ ∃ (A1 : Option Addr) (xs : List Int) (c : Nat) (k : Int), e = .returned (.tuple #[.slice A1 xs.length c, .int .i64 k]) ∧ xs.length ≤ l.length ∧
      (((k != 0) = true ∧ itB n l x = false) ∨ (k = 0 ∧ itB n l x = true ∧ xs = selF (onW l x) l.length ∧ IntsF w' w.heap.size w'.heap.size A1 xs))) := by
  refine (ItemF_c n l x A cap w hl hlen).mono ?_
  rintro e w' ⟨hb, ⟨h, rfl⟩ | ⟨h, A1, c, rfl, hI⟩⟩
  · exact ⟨hb, none, [], 0, 1, rfl, by simp, Or.inl ⟨rfl, h⟩⟩
  · exact ⟨hb, A1, _, c, 0, rfl, sel_len _ _, Or.inr ⟨rfl, h, rfl, hI⟩⟩
theorem Sus_u (n : Int) (l : List Bt) (cs : List (Int × Int)) (fs : List Bool) (A Ac Af : Option Addr) (cap capc capf : Nat) (w : World) (hl : Lst w w.heap.size A l) (hcs : ChkR w w.heap.size Ac cs) (hfs : BoolsR w w.heap.size Af fs)
    (hlen : l.length ≤ 9223372036854775807) (hlc : cs.length ≤ 9223372036854775807) (hlf : fs.length ≤ 9223372036854775807) (hv : vld n l = true) :
    Calls Try.prog 25 #[.int .i64 n, .slice A l.length cap, .slice Ac cs.length capc, .slice Af fs.length capf] w (fun e w' => Below w.heap.size w w' ∧ ∃ (As : Option Addr) (xs : List Int) (c : Nat) (k : Int), e = .returned (.tuple #[.slice As xs.length c, .int .i64 k]) ∧ xs.length ≤ l.length ∧
      IntsR w' w'.heap.size As xs ∧ (∀ (kk : Nat) (c : Int × Int), cs[kk]? = some c → (itB n l c.1 = false ∨ itB n l c.2 = false) → k = 1) ∧ (∀ z ∈ xs, ∀ (kk : Nat) (c : Int × Int), cs[kk]? = some c → ∃ j : Nat, z = j ∧ j < l.length ∧ kk < fs.length ∧ ∃ b, fs[kk]? = some b ∧ wOn l c j = b)) := by
  refine (Susp_c n l cs fs A Ac Af cap capc capf w hl hcs hfs hlen hlc hlf).mono ?_
  rintro e w' ⟨hb, ⟨h, rfl⟩ | ⟨h, A1, c, rfl, hI⟩⟩
  · exact ⟨hb, none, [], 0, 1, rfl, by simp, fun h1 => absurd h1 (by simp), fun _ _ _ _ => rfl, fun z hz => absurd hz (by simp)⟩
  · refine ⟨hb, A1, _, c, 0, rfl, sel_len _ _, hI, fun kk c hc h1 => ?_, fun z hz kk c hc => ?_⟩
    · have := it_bad hc hv h1 (fs := fs)
      rw [h] at this
      cases this
    · obtain ⟨j, hj, hs, rfl⟩ := (sel_mem _ _ _).1 hz
      obtain ⟨h1, b, h2, h3⟩ := sus_law h hc hs
      exact ⟨j, rfl, hj, h1, b, h2, h3⟩

set_option maxRecDepth 100000 in
set_option maxHeartbeats 8000000 in
theorem walk_BenchSuspects (n : Int) (A : Option Addr) (l : List Bt) (cap : Nat) (Ac : Option Addr) (cs : List (Int × Int)) (capc : Nat) (Af : Option Addr) (fs : List Bool) (capf : Nat) (at' : Int) (w : World) (hlen : l.length ≤ 9223372036854775807) (hl : Lst w w.heap.size A l) (hcap : l.length ≤ cap)
    (hlc : cs.length ≤ 9223372036854775807) (hcs : ChkR w w.heap.size Ac cs) (hlf : fs.length ≤ 9223372036854775807) (hfs : BoolsR w w.heap.size Af fs) (hat : (Lit.int .u8 at').wf = true) :
    Calls Try.prog 7 #[.int .i64 n, .slice A l.length cap, .slice Ac cs.length capc, .slice Af fs.length capf, .int .u8 at'] w (Ret (.bool true) w) := by
  obtain ⟨i0, hi, hy0, hy1, hy2⟩ := info_parts Try.infoBool
  have ha : 0 ≤ at' ∧ at' ≤ 255 := by
    have h1 : (decide ((0 : Int) ≤ at') && decide (at' ≤ 255)) = true := hat
    simpa using h1
  have HL := Lib.hid hl
  have HC := Lib.hid hcs
  have HF := Lib.hid hfs
  clear hl hcs hfs hat
  go_enter Try.func7, Try.ntmps7
  go_wp2_with fail
  ((with_reducible refine (head18_c _).mono ?_); rintro e w1 ⟨rfl, hb1⟩)
  have HL1 := Lib.hid (HL.out.up (w' := w1) (by (repeat (first | (with_reducible exact bl_refl _) | (with_reducible refine bl_drew ?_) | (with_reducible refine bl_alloc ?_ _) | (with_reducible refine bl_set' ?_ ?_; · (first | omega | (simp; done) | (simp; omega))) | (with_reducible refine bl_last (by assumption) ?_) | (with_reducible refine bl_drewN ?_ _)))))
  have HC1 := Lib.hid (HC.out.up (w' := w1) (by (repeat (first | (with_reducible exact bl_refl _) | (with_reducible refine bl_drew ?_) | (with_reducible refine bl_alloc ?_ _) | (with_reducible refine bl_set' ?_ ?_; · (first | omega | (simp; done) | (simp; omega))) | (with_reducible refine bl_last (by assumption) ?_) | (with_reducible refine bl_drewN ?_ _)))))
  have HF1 := Lib.hid (HF.out.up (w' := w1) (by (repeat (first | (with_reducible exact bl_refl _) | (with_reducible refine bl_drew ?_) | (with_reducible refine bl_alloc ?_ _) | (with_reducible refine bl_set' ?_ ?_; · (first | omega | (simp; done) | (simp; omega))) | (with_reducible refine bl_last (by assumption) ?_) | (with_reducible refine bl_drewN ?_ _)))))
  have HW1 : Hid (Below w.heap.size w w1) := Lib.hid (by (repeat (first | (with_reducible exact bl_refl _) | (with_reducible refine bl_drew ?_) | (with_reducible refine bl_alloc ?_ _) | (with_reducible refine bl_set' ?_ ?_; · (first | omega | (simp; done) | (simp; omega))) | (with_reducible refine bl_last (by assumption) ?_) | (with_reducible refine bl_drewN ?_ _))))
  clear HL HC HF hb1
  have HV := Lib.hid (RefValid_c n l A cap w1 HL1.out hlen hcap)
  by_cases h20 : 20 < cs.length
  · clear HV
    generalize cs.length = C at *
    generalize l.length = L at *
    go_wp2
    go_ret
    exact ⟨rfl, HW1.out⟩
  by_cases hL0 : l.length = 0
  · clear HV
    generalize cs.length = C at *
    rw [hL0]
    have h20' : ¬ (20 : Int) < C := by omega
    go_wp2
    go_ret
    exact ⟨rfl, HW1.out⟩
  have hL0' : ((l.length : Int) == 0) = false := by simpa using hL0
  have hLne : ¬ (l.length : Int) = 0 := by omega
  have hd20 : decide ((20 : Int) < cs.length) = false := by simp; omega
  by_cases hv : vld n l = true
  case neg =>
    have hv : vld n l = false := by simpa using hv
    rw [hv] at HV
    go_wp2_with (go_at_call 13; ((with_reducible refine (HV.out).mono ?_); rintro e w' ⟨rfl, hb⟩; obtain ⟨hz, hc, hf⟩ := bcl hb (by first | (simp; rfl) | rfl)))
    go_ret
    exact ⟨rfl, bl_trans HW1.out hb⟩
  rw [hv] at HV
  go_wp2_with (go_at_call 13; ((with_reducible refine (HV.out).mono ?_); rintro e w' ⟨rfl, hb⟩; obtain ⟨hz, hc, hf⟩ := bcl hb (by first | (simp; rfl) | rfl)))
  have hbV := hb
  obtain ⟨st, hst⟩ : ∃ st : Nat, at' % (l.length : Int) = st := ⟨(at' % (l.length : Int)).toNat, by have := Int.emod_nonneg at' hLne; omega⟩
  have hstL : st < l.length := by have := Int.emod_lt_of_pos at' (show (0 : Int) < l.length by omega); omega
  rw [hst]
  clear hst ha
  have hL40 : l.length ≤ 40 := by have := vld_len hv; omega
  (with_reducible refine (Sus_u n l cs fs A Ac Af cap capc capf _ ?_ ?_ ?_ hlen hlc hlf hv).mono ?_)
  · exact HL1.out.up hbV
  · exact HC1.out.up hbV
  · exact HF1.out.up hbV
  rintro e w2 ⟨hb2, As, ss, caps, kk, rfl, hsl, hIs, hF1, hF2⟩
  have hbW2 := bl_trans hbV hb2
  have HL2 := Lib.hid (HL1.out.up hbW2)
  have HC2 := Lib.hid (HC1.out.up hbW2)
  have HF2 := Lib.hid (HF1.out.up hbW2)
  have HW2 : Hid (Below w.heap.size w w2) := Lib.hid (bl_trans HW1.out hbW2)
  have HIS := Lib.hid hIs
  have HA1 := Lib.hid hF1
  have HA2 := Lib.hid hF2
  have HVV := Lib.hid hv
  have HIT := Lib.hid (fun x w hl => Item_u n l x A cap w hl hlen)
  have HSU := Lib.hid (fun own Ao capo w h1 h2 h3 h4 => Susp_c n l cs own A Ac Ao cap capc capo w h1 h2 h3 hlen hlc h4)
  have HOV := Lib.hid (fun c => on_val l c st hstL)
  have HOA := Lib.hid (fun hok h => own_law (cs := cs) hv hok h hstL)
  clear hbV hb2 hbW2 hb HL1 HC1 HF1 HW1 HV hIs hF1 hF2 hv
  generalize hCC : cs.length = C at *
  generalize hLL : l.length = L at *
  generalize hSS : ss.length = S at *
  generalize hMM : fs.length = M at *
  have HCC := Lib.hid hCC
  have HLL := Lib.hid hLL
  have HSS := Lib.hid hSS
  have HMM := Lib.hid hMM
  clear hCC hLL hSS hMM
  go_wp2
  go_loopw [11, 16, 61] (fun u v i wr => u = .bool true ∧ ∃ k : Nat, k ≤ C ∧ i = .int .i64 k ∧ Hid (wr.ownsRow w2.heap.size 4 1 v k ((ownL l cs st k).map Value.bool)) ∧ Hid (∀ (m : Nat) (c : Int × Int), m < k → cs[m]? = some c → itB n l c.1 = true ∧ itB n l c.2 = true) ∧ Below w2.heap.size w2 wr) (fun _ _ i _ => C - (intOf i).toNat)
  case atStart => exact ⟨rfl, 0, Nat.zero_le _, rfl, World.ownsRow_nil _ _ _ _, Lib.hid (fun m c hm => absurd hm (by omega)), bl_refl _⟩
  case round =>
    obtain ⟨rfl, k, hk, rfl, HOW, HOK, hbw⟩ := hrel
    by_cases hlt : k < C
    · obtain ⟨c, hc⟩ : ∃ c, cs[k]? = some c := ⟨cs[k]'(by have := HCC.out; omega), by simp⟩
      obtain ⟨bc, oc, rfl, hbc, hcc⟩ := HC2.out (by have := HCC.out; omega)
      have d1 := (hbw.cell (p := ⟨bc, oc + k * 2, none⟩) hbc).trans (hcc k c hc).1
      have d2 := (hbw.cell (p := ⟨bc, oc + k * 2 + 1, none⟩) hbc).trans (hcc k c hc).2
      have zc : bc < wr.heap.size := by have := hbw.size; omega
      have hwz := hbw.size
      have HBW := Lib.hid hbw
      have HCK := Lib.hid hc
      clear hcc hbc hc hbw
      go_wp2_with fail
      (with_reducible refine (HIT.out c.1 _ ?_).mono ?_)
      · exact HL2.out.up (bl_alloc HBW.out _)
      rintro e w3 ⟨hb3, A1, xs1, cx1, k1, rfl, hx1, hI1⟩
      obtain ⟨hz3, hc3, hf3⟩ := bcl hb3 (by first | (simp; rfl) | rfl)
      have HB3 := Lib.hid hb3
      have HI1 := Lib.hid hI1
      clear hI1 hb3
      go_wp2_with fail
      (with_reducible refine (HIT.out c.2 _ ?_).mono ?_)
      · exact HL2.out.up (bl_trans (bl_alloc HBW.out _) HB3.out)
      rintro e w4 ⟨hb4, A2, xs2, cx2, k2, rfl, hx2, hI2⟩
      have HB4 := Lib.hid hb4
      have hI1 := HI1.out
      have HBA : Hid (Below w2.heap.size w2 w4) := Lib.hid (bl_trans (bl_trans (bl_alloc HBW.out _) HB3.out) hb4)
      clear HI1 hc3 hf3 hb4
      rcases hI1 with ⟨hk1, hit1⟩ | ⟨rfl, hit1, hxs1, hI1⟩
      · have hkk := HA1.out k c HCK.out (Or.inl hit1)
        subst hkk
        clear hI2 hit1
        go_wp2
        go_ret
        exact ⟨rfl, bl_trans HW2.out HBA.out⟩
      rcases hI2 with ⟨hk2, hit2⟩ | ⟨rfl, hit2, hxs2, hI2⟩
      · have hkk := HA1.out k c HCK.out (Or.inr hit2)
        subst hkk
        clear hI1 hit1 hit2 hxs1
        go_wp2
        go_ret
        exact ⟨rfl, bl_trans HW2.out HBA.out⟩
      have HI1 := Lib.hid (hI1.below HB4.out)
      have HI2 := Lib.hid hI2
      have hon : tog st (tog st false xs1) xs2 = wOn l c st := by rw [hxs1, hxs2]; exact HOV.out c
      have honj : ∀ j : Nat, j < L → tog j (tog j false xs1) xs2 = wOn l c j := fun j hj => by rw [hxs1, hxs2]; have := on_val l c j (by rw [HLL.out]; exact hj); rw [HLL.out] at this; exact this
      have HONJ := Lib.hid honj
      have HOK' : Hid (∀ (m : Nat) (c : Int × Int), m < k + 1 → cs[m]? = some c → itB n l c.1 = true ∧ itB n l c.2 = true) := Lib.hid (fun m c' hm hc' => by
        by_cases e : m = k
        · subst e
          rw [HCK.out] at hc'
          obtain rfl := Option.some.inj hc'
          exact ⟨hit1, hit2⟩
        · exact HOK.out m c' (by omega) hc')
      clear hI1 hI2 hit1 hit2 hxs1 hxs2 honj
      go_wp2_with fail
      ((with_reducible refine (on_c xs1 xs2 st A1 A2 cx1 cx2 _ ?_ ?_ ?_ ?_).mono ?_))
      · exact HI1.out.plain.more HB4.out.size
      · exact HI2.out.plain
      · omega
      · omega
      rw [hon]
      rintro e w5 ⟨rfl, hb5⟩
      have HB5 := Lib.hid hb5
      have HWR5 := Lib.hid (bl_trans (bl_trans (bl_trans (bl_alloc (bl_refl wr) _) HB3.out) HB4.out) hb5)
      have h5 := HWR5.out.size
      have h3 := HB3.out.size
      clear hon hb5
      generalize hob : wOn l c st = ob at *
      have HOB := Lib.hid hob
      clear hob
      go_wp2_with (at_builtin; refine wpList_append_own _ rfl _ _ 28 rfl w2.heap.size 4 i0 (.bool false) 1 1 Try.underlying28 hi hy0 hy1 hy2 rfl (by decide) _ _ _ rfl ((own_below HOW.out HWR5.out).alloc _) ⟨w5.heap.size, 0, none⟩ 1 1 [.bool ob] rfl rfl (cell_one_new _ _ _) (fun u hu => by simp at hu; subst hu; rfl) (by unfold maxLen; omega) (by omega) (by simp; omega) ?_; intro v' w9 hown' hgrow _)
      have h9 := hgrow.size
      have HB9 : Hid (Below w2.heap.size w2 w9) := Lib.hid ((bl_alloc (bl_trans HBA.out HB5.out) _).grown hgrow (by simp; omega) (fun g hg => (HOW.out.lt g hg).1))
      have HG1 := Lib.hid ((((HI1.out.more HB4.out.size).below (bl_alloc HB5.out _)).grown hgrow (fun g hg => by have := (HOW.out.lt g hg).2; simp; omega) (by have := HB5.out.size; simp; omega)).more (B' := w9.heap.size) (by have := HB5.out.size; simp at h9; omega))
      have HG2 := Lib.hid (((HI2.out.below (bl_alloc HB5.out _)).grown hgrow (fun g hg => by have := (HOW.out.lt g hg).2; simp at h3; omega) (by have := HB5.out.size; simp; omega)).more (B' := w9.heap.size) (by have := HB5.out.size; simp at h9; omega))
      have HIS9 := Lib.hid ((HIS.out.below HB9.out).more (B' := w9.heap.size) HB9.out.size)
      have HFS9 := Lib.hid ((HF2.out.below HB9.out).more (B' := w9.heap.size) HB9.out.size)
      have HOW9 := Lib.hid hown'
      have hkc : cs.getD k (0, 0) = c := by rw [List.getD_eq_getElem?_getD, HCK.out]; rfl
      clear hown' hgrow d1 d2 zc hwz HI1 HI2 h9 h5 h3
      go_loopw [11, 103] (fun u j wt => u = .bool true ∧ ∃ m : Nat, m ≤ S ∧ j = .int .i64 m ∧ Below w9.heap.size w9 wt) (fun _ j _ => S - (intOf j).toNat)
      case atStart => exact ⟨rfl, 0, Nat.zero_le _, rfl, bl_refl _⟩
      case round =>
        obtain ⟨rfl, m, hm, rfl, hbt⟩ := hrel
        by_cases hmS : m < S
        · obtain ⟨z, hz⟩ : ∃ z, ss[m]? = some z := ⟨ss[m]'(by have := HSS.out; omega), by simp⟩
          obtain ⟨bs, os, rfl, hbs, hcs⟩ := HIS9.out (by have := HSS.out; omega)
          have e1 := (hbt.cell (p := ⟨bs, os + m, none⟩) hbs).trans (hcs m z hz)
          obtain ⟨j, rfl, hjL, hkM, b, hb', hwb⟩ := HA2.out z (List.mem_of_getElem? hz) k c HCK.out
          obtain ⟨bf, of, rfl, hbf, hcf⟩ := HFS9.out (by have := HMM.out; omega)
          have e2 := (hbt.cell (p := ⟨bf, of + k, none⟩) hbf).trans (hcf k b hb')
          have zs : bs < wr.heap.size := by have := hbt.size; omega
          have zf : bf < wr.heap.size := by have := hbt.size; omega
          have HON : Hid (∀ X, Below wr.heap.size wr X → Calls Try.prog 27 #[.slice A1 xs1.length cx1, .slice A2 xs2.length cx2, .int .i64 j] X (Ret (.bool b) X)) := Lib.hid (fun X hX => by
            have := on_c xs1 xs2 j A1 A2 cx1 cx2 X (HG1.out.up (bl_trans hbt hX)) (HG2.out.up (bl_trans hbt hX)) (by omega) (by omega)
            rw [HONJ.out j hjL, hwb] at this
            exact this)
          have hkd : decide ((k : Int) < M) = true := by simp; omega
          clear hcs hcf hbs hbf hz hb' hwb
          go_wp2
          (refine wp_region_bl [0,1,2,3,4,5,6,7,8,9,10,11,12,13,14,15,16,17,18] [19] (by kernel_rfl) (by kernel_rfl) (by rfl) ?_
           simp only [pickI, pick, List.getElem?_cons_succ, List.getElem?_cons_zero]
           iterate 19 (first
             | (refine head_val (by rfl) (by rfl) ?_
                apply Exists.intro
                refine ⟨fun X hX => ?_, ?_⟩
                · (obtain ⟨qz, qc, qf⟩ := bcl hX.out (by first | (simp; rfl) | rfl)
                   go_simp
                   first | done | (go_at_call 27; ((with_reducible refine (HON.out _ hX.out).mono ?_); rintro e w2 ⟨rfl, hb2⟩; exact ⟨rfl, hX.trans hb2⟩)) | rfl | exact ⟨rfl, rfl⟩)
                simp only [Act.put, List.setIfInBounds_toArray, List.set_cons_zero, List.set_cons_succ])
             | (refine head_pass (by rfl) ?_
                simp only [Act.put, List.setIfInBounds_toArray, List.set_cons_zero, List.set_cons_succ]))
           refine head_nil ?_
           intro w' hw'
           have hb := hw'.out
           clear hw'
           obtain ⟨hz, hc, hf⟩ := bcl hb (by first | (simp; rfl) | rfl))
          go_wp2
          go_roundw
          case rel => exact ⟨rfl, m + 1, by omega, by go_num, bl_trans hbt hb⟩
          case measure => simp [intOf]; omega
        · have hmS' : m = S := by omega
          subst hmS'
          have HOWt := Lib.hid (own_below HOW9.out hbt)
          have HBt := Lib.hid (bl_trans HB9.out hbt)
          go_wp2
          go_roundw
          case rel => exact ⟨rfl, k + 1, by omega, by go_num, by rw [own_snoc, hkc, HOB.out, List.map_append]; exact HOWt.out, HOK', HBt.out⟩
          case measure => simp [intOf]; omega
    · have hkC : k = C := by omega
      subst hkC
      obtain ⟨Ao, capo, rfl, hO⟩ := bools_of_own HOW.out
      have HO := Lib.hid hO
      have HBW := Lib.hid (bl_trans HW2.out hbw)
      have HL4 := Lib.hid (HL2.out.up hbw)
      have HC4 := Lib.hid (HC2.out.up hbw)
      have hok : okC n cs = true := by
        unfold okC
        rw [List.all_eq_true]
        intro c hc
        obtain ⟨m, hm⟩ := List.getElem?_of_mem hc
        have hml := (List.getElem?_eq_some_iff.1 hm).1
        obtain ⟨q1, q2⟩ := HOK.out m c (by have := HCC.out; omega) hm
        have p1 := it_parts q1
        have p2 := it_parts q2
        simp
        omega
      obtain ⟨hg, hany⟩ := HOA.out hok (by omega)
      have HG := Lib.hid hg
      have HANY := Lib.hid hany
      clear hO hbw hok hg hany HOA HL2 HC2 HF2 HOW HOK HIS
      have hS2 := HSU.out (ownL l cs st k) Ao capo
      rw [own_len] at hS2 ⊢
      have HS2 := Lib.hid hS2
      clear hS2 HSU
      go_wp2_with fail
      (with_reducible refine (HS2.out _ ?_ ?_ ?_ ?_).mono ?_)
      · exact HL4.out
      · exact HC4.out
      · exact HO.out
      · omega
      rintro e w6 ⟨hb6, ⟨hno, rfl⟩ | ⟨_, Ar, capr, rfl, hIr⟩⟩
      · exact absurd (hno.symm.trans HG.out) (by decide)
      rw [HLL.out] at hIr ⊢
      have HIr := Lib.hid hIr
      have HB6 := Lib.hid (bl_trans HBW.out hb6)
      have hrl := sel_len (susS l cs (ownL l cs st k)) L
      clear hIr hb6 HG
      generalize selF (susS l cs (ownL l cs st k)) L = al at *
      generalize hRL : al.length = RL at *
      have HRL := Lib.hid hRL
      clear hRL
      go_wp2
      go_loop [27, 138] (fun u i => ∃ (m : Nat) (r : Bool), m ≤ RL ∧ i = .int .i64 m ∧ u = .bool r ∧ Hid (r = (al.take m).any fun z => z == (st : Int))) (fun _ i => RL - (intOf i).toNat)
      case atStart => exact ⟨0, false, Nat.zero_le _, rfl, rfl, rfl⟩
      case round =>
        obtain ⟨m, r0, hm, rfl, rfl, HU⟩ := hrel
        by_cases hmR : m < RL
        · obtain ⟨z, hz⟩ : ∃ z, al[m]? = some z := ⟨al[m]'(by have := HRL.out; omega), by simp⟩
          obtain ⟨br, orr, rfl, hbr, hcr⟩ := HIr.out (by have := HRL.out; omega)
          have c1 := hcr m z hz
          have hsn : (al.take (m + 1)).any (fun z => z == (st : Int)) = ((al.take m).any (fun z => z == (st : Int)) || z == (st : Int)) := by
            rw [List.take_add_one, hz]
            simp
          have HSN := Lib.hid hsn
          clear hcr hz hsn
          cases r0
          · go_wp2
            go_round
            case rel => exact ⟨m + 1, _, by omega, by go_num, rfl, Lib.hid (by rw [HSN.out, ← HU.out, Bool.false_or])⟩
            case measure => simp [intOf]; omega
          · go_wp2
            go_round
            case rel => exact ⟨m + 1, true, by omega, by go_num, rfl, Lib.hid (by rw [HSN.out, ← HU.out, Bool.true_or])⟩
            case measure => simp [intOf]; omega
        · have hmR' : m = RL := by omega
          have hr : r0 = true := by
            rw [HU.out, hmR', ← HRL.out, List.take_length]
            exact HANY.out
          subst hmR' hr
          go_wp2
          go_ret
          exact ⟨rfl, HB6.out⟩
end Go.Proofs.Ytkgklmmkkhbimaa
