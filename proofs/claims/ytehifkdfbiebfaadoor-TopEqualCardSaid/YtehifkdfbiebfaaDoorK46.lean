/- TopEqual: the chain of a step that divides the octave. -/
import Derived.Test.YtehifkdfbiebfaaDoorK30
namespace Go.Proofs.YtehifkdfbiebfaaDoor
open Go Go.RowKit

theorem power1_c (d k : Nat) (hd : d ≤ 12) (hk : k ≤ 12) (hdk : d * k ≤ 11) (w : World) : Calls Tryd.prog 94 #[one6 (d : Int), .int .i64 (k : Int), .int .i64 1] w (Ret (.tuple #[one6 ((d * k : Nat) : Int), .int .i64 0]) w) := by
  have h := PPower_c (d : Int) 0 0 0 0 0 (k : Int) 1 w
  have e0 : pq 0 (k : Int) 1 = 0 := by simp [pq]
  have e1 : pq (d : Int) (k : Int) 1 = ((d * k : Nat) : Int) := by simp [pq]
  have hg : pwG (d : Int) 0 0 0 0 0 (k : Int) 1 = true := by
    unfold pwG
    rw [(pV_one (by omega)).2 (by omega)]
    simp
    omega
  have hA : pwA (d : Int) 0 0 0 0 0 (k : Int) 1 = true := by simp [pwA, pwK]
  have hS : pwS (d : Int) 0 0 0 0 0 (k : Int) 1 = true := by
    unfold pwS
    rw [e0, e1]
    exact (pV_one (by omega)).2 (by omega)
  have hE : pwE (d : Int) 0 0 0 0 0 (k : Int) 1 = 0 := by unfold pwE; rw [if_pos hg, if_pos hA, if_pos hS]
  unfold pwV pw at h
  rw [hE, if_pos rfl, if_pos rfl, e0, e1] at h
  exact h
/-- The degrees of the chain. -/
def chS (d : Nat) (k : Nat) : Int := ((d * k : Nat) : Int)
theorem chS_bd {d n k : Nat} (h : d * n = 12) (hk : k < n) : d * k ≤ 11 ∧ d ≤ 12 ∧ n ≤ 12 := by
  have h1 : d * (k + 1) ≤ d * n := Nat.mul_le_mul_left d (by omega)
  rw [Nat.mul_succ] at h1
  have hd : 0 < d := by rcases Nat.eq_zero_or_pos d with e | e; · rw [e] at h; simp at h
                        · exact e
  have hn : n ≤ d * n := Nat.le_mul_of_pos_left n hd
  omega
theorem chS_rise {d n : Nat} (h : d * n = 12) (hn : 1 ≤ n) : Rise (chS d) n := by
  have h0 := chS_bd h (show n - 1 < n by omega)
  have hd : 0 < d := by rcases Nat.eq_zero_or_pos d with e | e; · rw [e] at h; simp at h
                        · exact e
  refine ⟨hn, h0.2.2, by simp [chS], fun k hk => ?_, fun k hk => ?_⟩
  · unfold chS
    have : d * (k + 1) = d * k + d := Nat.mul_succ d k
    omega
  · have := chS_bd h hk
    unfold chS
    omega
theorem chS_step {d n : Nat} (h : d * n = 12) (_ : 1 ≤ n) : ∀ i, i < n → atD (chS d) n (i + 1) - atD (chS d) n i = (d : Int) := fun i hi => by
  have e : d * (i + 1) = d * i + d := Nat.mul_succ d i
  unfold atD
  rw [if_pos hi]
  by_cases h1 : i + 1 < n
  · rw [if_pos h1]
    unfold chS
    omega
  · rw [if_neg h1]
    have hin : i + 1 = n := by omega
    rw [hin, h] at e
    unfold chS
    simp only [Nat.mul_zero]
    omega
set_option maxRecDepth 100000 in
set_option maxHeartbeats 16000000 in
theorem chain_c (d n : Nat) (hdn : d * n = 12) (hn : 1 ≤ n) (w : World) (hP : PR w) :
    Calls Tryd.prog 40 #[one6 (d : Int), .int .i64 (n : Int)] w (fun e w' => Below w.heap.size w w' ∧ ∃ b c, e = .returned (.tuple #[.slice (some ⟨b, 0, none⟩) n c, .int .i64 0]) ∧ n ≤ c ∧ VecsR w' w'.heap.size (some ⟨b, 0, none⟩) n (stG (chS d))) := by
  obtain ⟨ip, hpi, hp0, hp1, hp2⟩ := info_parts Tryd.infoPit
  have hrise := chS_rise hdn hn
  obtain ⟨_, h12, _, hup, _⟩ := hrise
  have hd12 : d ≤ 12 := (chS_bd hdn (show n - 1 < n by omega)).2.1
  have HV := Lib.hid (fun X => PVld1_c (d : Int) X (by omega))
  have HPw := Lib.hid (fun k (hk : k < n) X => power1_c d k hd12 (by omega) (chS_bd hdn hk).1 X)
  have HOc := Lib.hid (fun k (hk : k < n) X (hX : Below w.heap.size w X) => show Calls Tryd.prog 95 #[one6 (chS d k)] X (Ret (.tuple #[one6 (chS d k), .int .i64 0, .int .i64 0]) X) from by
    have hb := (chS_bd hdn hk).1
    have h := octave_c (chS d k) X (hP.up hX) (by unfold chS; omega)
    rw [show chS d k % 12 = chS d k by unfold chS; omega, show chS d k / 12 = 0 by unfold chS; omega] at h
    exact h)
  have HSo := Lib.hid (fun b c X (hX : Below w.heap.size w X) hv => sort_c (chS d) n (chS_rise hdn hn) b 0 c X (hP.up hX) hv)
  have HUp := Lib.hid (fun k (hk : k + 1 < n) => show (chS d k == chS d (k + 1)) = false from by rw [beq_eq_false_iff_ne]; have := hup k hk; omega)
  have q1 : decide ((n : Int) < 1) = false := decide_eq_false (by omega)
  have q2 : decide ((64 : Int) < (n : Int)) = false := decide_eq_false (by omega)
  clear hP hdn hup
  go_enter Tryd.func40, Tryd.ntmps40
  go_upto_region 1 with fail
  refine wp_letter ?_
  intro W1 hW1
  have HB1 : Hid (Below w.heap.size w W1) := Lib.hid (by rw [hW1]; exact bl_alloc (bl_refl _) _)
  have HP1 : Hid (Blk W1 w.heap.size 72 (arr1 (d : Int))) := Lib.hid (by rw [hW1]; exact Blk.new _ _ _)
  clear hW1
  have hz1 : w.heap.size + 1 ≤ W1.heap.size := HP1.out.lt
  have p_0 := HP1.out.cell 0
  have p_1 := HP1.out.cell 1
  have p_2 := HP1.out.cell 2
  have p_3 := HP1.out.cell 3
  have p_4 := HP1.out.cell 4
  have p_5 := HP1.out.cell 5
  have zp := HP1.out.lt
  simp only [List.getElem?_toArray, List.getElem?_cons_zero, List.getElem?_cons_succ] at p_0 p_1 p_2 p_3 p_4 p_5
  go_wp2_with fail
  (with_reducible refine (HV.out _).mono ?_)
  rintro e W2 ⟨rfl, hb2⟩
  have HB2 := Lib.hid hb2
  clear hb2 p_0 p_1 p_2 p_3 p_4 p_5 zp
  simp only
  have hz2 := HB2.out.size
  go_upto_block 0 with fail
  go_wp2
  go_loopw [6, 25] (fun ov kv wr => ∃ k : Nat, k ≤ n ∧ kv = .int .i64 (k : Int) ∧ Hid (Below W1.heap.size W1 wr) ∧ Hid (wr.ownsRow W1.heap.size 72 6 ov k (rowL (fun j => v1 (chS d j)) k))) (fun _ kv _ => n - (intOf kv).toNat)
  case atStart => exact ⟨0, by omega, rfl, HB2, Lib.hid (World.ownsRow_nil _ _ _ _)⟩
  case round =>
    obtain ⟨k, hk, rfl, HB, HO⟩ := hrel
    by_cases hlt : k < n
    · have hki : (k : Int) < (n : Int) := by omega
      have wk : IntKind.i64.wrap ((k : Int) + 1) = (k : Int) + 1 := by rw [IntKind.wrap_i64]; omega
      have HPk := Lib.hid (fun X => HPw.out k hlt X)
      have HOk := Lib.hid (fun X hX => HOc.out k hlt X hX)
      have P3 := HP1.out.below HB.out HP1.out.lt
      have p_0 := P3.cell 0
      have p_1 := P3.cell 1
      have p_2 := P3.cell 2
      have p_3 := P3.cell 3
      have p_4 := P3.cell 4
      have p_5 := P3.cell 5
      have zp := P3.lt
      simp only [List.getElem?_toArray, List.getElem?_cons_zero, List.getElem?_cons_succ] at p_0 p_1 p_2 p_3 p_4 p_5
      have e : ((d * k : Nat) : Int) = chS d k := rfl
      rw [e] at HPk
      obtain ⟨y, hy⟩ : ∃ y, y = chS d k := ⟨_, rfl⟩
      rw [← hy] at HPk HOk
      have HY := Lib.hid hy
      clear e hy
      go_wp2_with fail
      (with_reducible refine (HPk.out _).mono ?_)
      rintro e W4 ⟨rfl, hb4⟩
      have HB4 := Lib.hid (bl_trans HB.out hb4)
      have HO4 := Lib.hid (own_below HO.out hb4)
      clear hb4 HB HO P3 HPk p_0 p_1 p_2 p_3 p_4 p_5 zp
      simp only
      go_upto_region 8 with fail
      refine wp_letter ?_
      intro W5 hW5
      have HB5 : Hid (Below W1.heap.size W1 W5) := Lib.hid (by rw [hW5]; exact bl_alloc HB4.out _)
      have HO5 : Hid (W5.ownsRow W1.heap.size 72 6 _ k (rowL (fun j => v1 (chS d j)) k)) := Lib.hid (by rw [hW5]; exact HO4.out.alloc _)
      have P5 : Blk W5 W4.heap.size 72 (arr1 y) := by rw [hW5]; exact Blk.new _ _ _
      clear hW5 HB4 HO4
      generalize W4.heap.size = pa at *
      have p_0 := P5.cell 0
      have p_1 := P5.cell 1
      have p_2 := P5.cell 2
      have p_3 := P5.cell 3
      have p_4 := P5.cell 4
      have p_5 := P5.cell 5
      have zp := P5.lt
      simp only [List.getElem?_toArray, List.getElem?_cons_zero, List.getElem?_cons_succ] at p_0 p_1 p_2 p_3 p_4 p_5
      go_wp2_with fail
      (with_reducible refine (HOk.out _ (bl_trans HB1.out HB5.out)).mono ?_)
      rintro e W6 ⟨rfl, hb6⟩
      have HB6 := Lib.hid (bl_trans HB5.out hb6)
      have HO6 := Lib.hid (own_below HO5.out hb6)
      clear hb6 HB5 HO5 P5 HOk p_0 p_1 p_2 p_3 p_4 p_5 zp
      simp only
      go_upto_region 11 with fail
      refine wp_letter ?_
      intro W7 hW7
      have HB7 : Hid (Below W1.heap.size W1 W7) := Lib.hid (by rw [hW7]; exact bl_alloc HB6.out _)
      have HO7 : Hid (W7.ownsRow W1.heap.size 72 6 _ k (rowL (fun j => v1 (chS d j)) k)) := Lib.hid (by rw [hW7]; exact HO6.out.alloc _)
      have P7 : Blk W7 W6.heap.size 72 (arr1 y) := by rw [hW7]; exact Blk.new _ _ _
      clear hW7 HB6 HO6
      generalize W6.heap.size = pb at *
      have p_0 := P7.cell 0
      have p_1 := P7.cell 1
      have p_2 := P7.cell 2
      have p_3 := P7.cell 3
      have p_4 := P7.cell 4
      have p_5 := P7.cell 5
      have zp := P7.lt
      simp only [List.getElem?_toArray, List.getElem?_cons_zero, List.getElem?_cons_succ] at p_0 p_1 p_2 p_3 p_4 p_5
      have HLt := Lib.hid (fun b h => HO7.out.lt b h)
      have hz7 := HB7.out.size
      go_wp2_with (at_builtin; refine wpList_append_lies _ rfl _ _ 73 rfl W1.heap.size 72 ip (.agg #[.int .i64 0, .int .i64 0, .int .i64 0, .int .i64 0, .int .i64 0, .int .i64 0]) 6 48 Tryd.underlying73 hpi hp0 hp1 hp2 rfl (by decide) _ _ _ rfl (HO7.out.alloc _) ⟨W7.heap.size, 0, none⟩ 1 1 (v1 y) rfl rfl (World.news_of_block (World.alloc_heap_new W7 _)) (fun u hu => by simp [v1] at hu; rcases hu with rfl | rfl <;> rfl) (by omega) (by unfold maxLen; omega) (by omega) (by simp; omega) _ rfl ?_; intro n1 c1 w6 hown1 hg1 hl1 hlt1)
      have HOn := Lib.hid hown1
      have HG := Lib.hid hg1
      clear hown1 hg1 hl1 hlt1
      go_roundw
      case rel =>
        refine ⟨k + 1, by omega, by go_num, Lib.hid ?_, Lib.hid ?_⟩
        · exact (bl_alloc HB7.out _).grown HG.out (by simp; omega) (fun b h => (HLt.out b h).1)
        · rw [rowL_succ]
          show World.ownsRow _ _ _ _ _ _ (rowL (fun j => v1 (chS d j)) k ++ v1 (chS d k))
          rw [← HY.out]
          exact HOn.out
      case measure => simp [intOf]; omega
    · obtain rfl : k = n := by omega
      obtain ⟨b', c', e, hcap, hv⟩ := sc_of_own (L := k - 1) (st := chS d) (by rw [show k - 1 + 1 = k by omega]; exact HO.out)
      rw [show k - 1 + 1 = k by omega] at e hcap hv
      subst e
      obtain ⟨W3, hW3⟩ : ∃ x : World, x = wr := ⟨_, rfl⟩
      rw [← hW3] at HB hv ⊢
      have HB3 := Lib.hid (bl_trans HB1.out HB.out)
      have HVs := Lib.hid hv
      have HSt := Lib.hid (HSo.out b' c' W3 HB3.out hv)
      obtain ⟨bq, oq, hbo, _, hcl⟩ := st_cells hv (by omega)
      obtain ⟨rfl, rfl⟩ : b' = bq ∧ 0 = oq := by
        have := Option.some.inj hbo
        injection this with e1 e2
        exact ⟨e1, e2⟩
      have HCl := Lib.hid hcl
      clear hcl hv hW3 hbo HB HO HPw HOc HSo HV HP1
      go_wp2_with fail
      (with_reducible refine HSt.out.mono ?_)
      rintro e W4 ⟨rfl, hb4⟩
      have HB4 := Lib.hid hb4
      clear hb4 HSt
      simp only
      go_wp2
      go_loopw [12] (fun kv wr => ∃ m : Nat, m + 1 ≤ k ∧ kv = .int .i64 ((m + 1 : Nat) : Int) ∧ Hid (Below W3.heap.size W3 wr)) (fun kv _ => k - (intOf kv).toNat)
      case atStart => exact ⟨0, by omega, rfl, HB4⟩
      case round =>
        obtain ⟨m, hm, rfl, HBm⟩ := hrel
        obtain ⟨i, hi⟩ : ∃ i, i = m + 1 := ⟨_, rfl⟩
        rw [← hi] at hm ⊢
        by_cases hlt : i < k
        · have hki : (i : Int) < (k : Int) := by omega
          have wi : IntKind.i64.wrap ((i : Int) + 1) = (i : Int) + 1 := by rw [IntKind.wrap_i64]; omega
          have wm : IntKind.i64.wrap ((i : Int) - 1) = (m : Int) := by rw [IntKind.wrap_i64]; omega
          have hmi : (m : Int) < (k : Int) := by omega
          have q := HUp.out m (by omega)
          rw [← hi] at q
          obtain ⟨s_0, s_1, s_2, s_3, s_4, s_5, zs⟩ := HCl.out m (by omega) wr HBm.out
          obtain ⟨r_0, r_1, r_2, r_3, r_4, r_5, zr⟩ := HCl.out i hlt wr HBm.out
          simp only [Nat.zero_add] at s_0 s_1 s_2 s_3 s_4 s_5 r_0 r_1 r_2 r_3 r_4 r_5
          have HI := Lib.hid hi
          clear hi
          generalize chS d m = sm at *
          generalize chS d i = si at *
          go_wp2
          (refine wp_region_bl [0,1,2,3,4,5,6,7,8,9] [] (by kernel_rfl) (by kernel_rfl) (by rfl) ?_
           simp only [pickI, pick, List.getElem?_cons_succ, List.getElem?_cons_zero]
           iterate 10 (first
             | (refine head_val (by rfl) (by first | exact wanted_free rfl | rfl) ?_
                apply Exists.intro
                refine ⟨fun X hX => ?_, ?_⟩
                · (obtain ⟨qz, qc, qf⟩ := bcl hX.out (by first | (simp; rfl) | rfl)
                   go_simp
                   first | done | rfl | exact ⟨rfl, rfl⟩)
                simp only [Act.put, List.setIfInBounds_toArray, List.set_cons_zero, List.set_cons_succ])
             | (refine head_pass (by rfl) ?_
                simp only [Act.put, List.setIfInBounds_toArray, List.set_cons_zero, List.set_cons_succ]))
           refine head_nil ?_
           intro w' hw'
           have hb := hw'.out
           clear hw'
           obtain ⟨hz, hc, hf⟩ := bcl hb (by first | (simp; rfl) | rfl))
          have HB5 := Lib.hid (bl_trans HBm.out hb)
          clear hb hz hc hf s_0 s_1 s_2 s_3 s_4 s_5 zs r_0 r_1 r_2 r_3 r_4 r_5 zr HBm
          go_wp2
          go_roundw
          case rel => exact ⟨i, by omega, by go_num, HB5⟩
          case measure => simp [intOf]; omega
        · have hik : i = k := by omega
          have HI := Lib.hid hi
          clear hi hm
          have hki : ¬ (i : Int) < (k : Int) := by omega
          go_wp2
          refine bodyPost_ret (v := .tuple #[.slice (some ⟨b', 0, none⟩) k c', .int .i64 0]) (by simp only [results, Tryd.results40]; go_simp) rfl ?_
          exact ⟨bl_trans HB3.out HBm.out, b', c', rfl, hcap, HVs.out.up HBm.out⟩
end Go.Proofs.YtehifkdfbiebfaaDoor
