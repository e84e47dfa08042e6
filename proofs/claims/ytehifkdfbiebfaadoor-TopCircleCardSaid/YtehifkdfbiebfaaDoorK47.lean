/- TopCircle: from region 40 on: the readings are copied and one is appended (gencirh.py prints it). -/
import Derived.Test.YtehifkdfbiebfaaDoorK45
import Derived.Test.YtehifkdfbiebfaaDoorK46
namespace Go.Proofs.YtehifkdfbiebfaaDoor
open Go Go.RowKit Go.Shelf

def rd4 (fr : Nat → Nat) (lo hi : Nat → Int) (j : Nat) : List Value := [.int .i64 (fr j : Int), .int .i64 ((j : Int) + 1), .int .i64 (lo j), .int .i64 (hi j)]
theorem Tryd.infoRd : (Tryd.prog.info? 41).map (fun i => (i.zero, i.size, i.bytes)) = some (some (.agg #[.int .i64 0, .int .i64 0, .int .i64 0, .int .i64 0]), 4, 32) := by kernel_rfl
theorem rds_of_own1 {w : World} {base L g cap : Nat} {e : TypeId} {fr : Nat → Nat} {lo hi : Nat → Int} {x : Rd} (h : w.ownsRow base e 4 (.slice (some ⟨g, 0, none⟩) (L + 1) cap) (L + 1) (rowL (rd4 fr lo hi) L ++ [.int .i64 (x.fr : Int), .int .i64 (x.to : Int), .int .i64 x.lo, .int .i64 x.hi])) : Rds w w.heap.size (some ⟨g, 0, none⟩) (treeL fr lo hi L ++ [x]) := by
  have h' := h
  rcases h.2 with ⟨h1, _⟩ | ⟨b, cap', cur, h1, hb, hh, _⟩
  · simp at h1
  · have eb : g = b := by
      injection h1 with h1 _ _
      injection h1 with h1
      injection h1 with h1
    subst eb
    refine fun _ => ⟨g, 0, rfl, (Array.getElem?_eq_some_iff.1 hh).1, fun k hk => ?_⟩
    have hlen : (rowL (rd4 fr lo hi) L).length = L * 4 := rowL_len (c := 4) (fun _ => rfl) L
    rw [List.length_append, treeL_len] at hk
    have hk' : k < L + 1 := hk
    by_cases hkl : k < L
    · rw [rd_tree [x] hkl]
      have hc : ∀ i, i < 4 → w.cell? ⟨g, 0 + k * 4 + i, none⟩ = (rd4 fr lo hi k)[i]? := fun i hi => by
        have := World.ownsRow.cellAt h' (k * 4 + i) (by omega)
        rw [Nat.zero_add, this, List.getElem?_append_left (by omega), rowL_get (c := 4) (fun _ => rfl) hi hkl]
      exact ⟨hc 0 (by omega), (hc 1 (by omega)), hc 2 (by omega), hc 3 (by omega)⟩
    · obtain rfl : k = L := by omega
      have er : rdAt (treeL fr lo hi k ++ [x]) k = x := by
        unfold rdAt
        rw [List.getElem?_append_right (by rw [treeL_len]; exact Nat.le_refl _), treeL_len, Nat.sub_self]
        rfl
      rw [er]
      have hc : ∀ i, i < 4 → w.cell? ⟨g, 0 + k * 4 + i, none⟩ = ([.int .i64 (x.fr : Int), .int .i64 (x.to : Int), .int .i64 x.lo, .int .i64 x.hi] : List Value)[i]? := fun i hi => by
        have := World.ownsRow.cellAt h' (k * 4 + i) (by omega)
        rw [Nat.zero_add, this, List.getElem?_append_right (by omega), hlen, show k * 4 + i - k * 4 = i by omega]
      exact ⟨hc 0 (by omega), (hc 1 (by omega)), hc 2 (by omega), hc 3 (by omega)⟩
noncomputable def circ_r40_code : Code := at_ [1, 1, 1, 1, 1, 1, 1, 1, 1, 1, 1, 1, 1, 1, 1, 1, 1] ((Tryd.f3.body).getD .skip)
set_option maxRecDepth 100000 in
set_option maxHeartbeats 32000000 in
theorem circ_r40 (fr : Nat → Nat) (lo hi : Nat → Int) (L A' B' a39 br or_ cr bx : Nat) (tl th : Int) (Aw : Option Addr) (cw : Nat) (wy : Nat → Nat → Int) (vv : Nat → Int) (sc : Int) (w0 : World) (s0 s1 s2 s5 s6 s7 s8 s9 s10 s12 s15 s17 s18 s20 s21 s22 s23 s24 s25 s26 s27 s28 s29 s30 s31 s32 s33 s34 s35 s36 s37 s43 s44 s45 s46 s47 s48 s49 s50 s51 s52 s53 s54 s55 s56 s57 s58 s59 s60 s61 s62 s63 s64 s65 s66 s67 s68 s69 s70 s71 s72 s73 s74 s75 s76 s77 s78 s79 s80 s81 s82 s83 s84 s85 s86 s87 s88 s89 s90 s91 s92 s93 s94 s95 s96 s97 s98 s99 s100 s101 s102 s103 s104 s105 s106 s107 s108 s109 s110 s111 s112 s113 s114 s115 s116 s117 s118 s119 s120 s121 s122 s123 s124 s125 s126 s127 s128 s129 s130 s131 s132 s133 s134 s135 s136 s137 s138 s139 s140 s141 s142 s143 s144 s145 s146 s147 s148 s149 s150 s151 s152 s153 s154 s155 s156 s157 s158 s159 s160 s161 s162 s163 s164 s165 s166 s167 s168 s169 s170 s171 s172 s173 s174 s175 s176 s177 s178 s179 s180 s181 s182 s183 s184 s185 s186 s187 s188 s189 s190 s191 s192 s193 s194 s195 s196 s197 s198 s199 s200 s201 s202 s203 s204 s205 s206 s207 s208 s209 s210 s211 s212 s213 s214 s215 s216 s217 s218 s219 s220 s221 s222 s223 s224 s225 s226 s227 s228 s229 s230 s231 s232 s233 s234 s235 s236 s237 s238 s239 s240 s241 s242 s243 s244 s245 s246 s247 s248 s249 s250 s251 s252 s253 s254 s255 s256 s257 s258 s259 s260 s261 s262 s263 s264 s265 s266 s267 s268 s269 s270 s271 s272 s273 s274 s275 s276 s277 s278 s279 s280 s281 s282 s283 s284 s285 s286 s287 s288 s289 s290 s291 s292 s293 s294 s295 s296 s297 s298 s299 s300 s301 s302 s303 s304 s305 s306 s307 s308 s309 s310 s311 s312 s313 s314 s315 s316 s317 s318 s319 s320 s321 s322 s323 s324 s325 s326 s327 s328 s329 s330 s331 s332 s333 s334 s335 s336 s337 s338 s339 s340 s341 s342 s343 s344 s345 s346 s347 s348 s349 s350 s351 s352 s353 s354 s355 s356 s357 s358 s359 s360 s361 s362 s363 s364 s365 s366 s367 s368 s369 s370 s371 s372 s373 s374 s375 s376 s377 s378 s379 s380 s381 s382 s383 s384 : Value) (W : World) (hL : L ≤ 12) (hL0 : 0 < L) (hA : A' ≤ L) (hB : B' ≤ L) (hT : Blk W a39 35 #[.int .i64 tl, .int .i64 th]) (hN : ∀ X, Below W.heap.size W X → ∀ j u, (rowL (rd4 fr lo hi) L)[j]? = some u → X.cell? ((⟨br, or_, none⟩ : Addr).add j) = some u) (hRk : RdOk (L + 1) (treeL fr lo hi L ++ [⟨A', B', tl, th⟩])) (hF : (∃ p, Feas (treeL fr lo hi L ++ [⟨A', B', tl, th⟩]) p) ↔ sc = 0) (hP : ∀ c, ChainOk (L + 1) (treeL fr lo hi L ++ [⟨A', B', tl, th⟩]) c → ∃ k, k < c.length ∧ (c.getD k 0 = (L : Int) + 1 ∨ c.getD k 0 = -((L : Int) + 1))) (hS : (∀ i, i < 6 → vv i = wy B' i - wy A' i) → sc = 0) (hb0 : Below w0.heap.size w0 W) (hw : VecsR W W.heap.size Aw (L + 1) wy) (hwb : ∀ j i, j ≤ L → i < 6 → -48 ≤ wy j i ∧ wy j i ≤ 48) (hx : Blk W bx 27 #[.int .i64 (vv 0), .int .i64 (vv 1), .int .i64 (vv 2), .int .i64 (vv 3), .int .i64 (vv 4), .int .i64 (vv 5)]) : Code.wp Tryd.prog circ_r40_code (bodyPost Tryd.prog Tryd.f3 (Ret (.bool true) w0)) ⟨#[s0, s1, s2, .int .i64 (A' : Int), .int .i64 (B' : Int), s5, s6, s7, s8, s9, s10, .pointer (some ⟨bx, 0, none⟩), s12, .bool true, .int .i64 ((L : Int) + 1), s15, .slice Aw (L + 1) cw, s17, s18, .slice (some ⟨br, or_, none⟩) L cr, s20, s21, s22, s23, s24, s25, s26, s27, s28, s29, s30, s31, s32, s33, s34, s35, s36, s37, .int .i64 0, .pointer (some ⟨a39, 0, none⟩), .bool true, .int .i64 sc, .int .i64 0, s43, s44, s45, s46, s47, s48, s49, s50, s51, s52, s53, s54, s55, s56, s57, s58, s59, s60, s61, s62, s63, s64, s65, s66, s67, s68, s69, s70, s71, s72, s73, s74, s75, s76, s77, s78, s79, s80, s81, s82, s83, s84, s85, s86, s87, s88, s89, s90, s91, s92, s93, s94, s95, s96, s97, s98, s99, s100, s101, s102, s103, s104, s105, s106, s107, s108, s109, s110, s111, s112, s113, s114, s115, s116, s117, s118, s119, s120, s121, s122, s123, s124, s125, s126, s127, s128, s129, s130, s131, s132, s133, s134, s135, s136, s137, s138, s139, s140, s141, s142, s143, s144, s145, s146, s147, s148, s149, s150, s151, s152, s153, s154, s155, s156, s157, s158, s159, s160, s161, s162, s163, s164, s165, s166, s167, s168, s169, s170, s171, s172, s173, s174, s175, s176, s177, s178, s179, s180, s181, s182, s183, s184, s185, s186, s187, s188, s189, s190, s191, s192, s193, s194, s195, s196, s197, s198, s199, s200, s201, s202, s203, s204, s205, s206, s207, s208, s209, s210, s211, s212, s213, s214, s215, s216, s217, s218, s219, s220, s221, s222, s223, s224, s225, s226, s227, s228, s229, s230, s231, s232, s233, s234, s235, s236, s237, s238, s239, s240, s241, s242, s243, s244, s245, s246, s247, s248, s249, s250, s251, s252, s253, s254, s255, s256, s257, s258, s259, s260, s261, s262, s263, s264, s265, s266, s267, s268, s269, s270, s271, s272, s273, s274, s275, s276, s277, s278, s279, s280, s281, s282, s283, s284, s285, s286, s287, s288, s289, s290, s291, s292, s293, s294, s295, s296, s297, s298, s299, s300, s301, s302, s303, s304, s305, s306, s307, s308, s309, s310, s311, s312, s313, s314, s315, s316, s317, s318, s319, s320, s321, s322, s323, s324, s325, s326, s327, s328, s329, s330, s331, s332, s333, s334, s335, s336, s337, s338, s339, s340, s341, s342, s343, s344, s345, s346, s347, s348, s349, s350, s351, s352, s353, s354, s355, s356, s357, s358, s359, s360, s361, s362, s363, s364, s365, s366, s367, s368, s369, s370, s371, s372, s373, s374, s375, s376, s377, s378, s379, s380, s381, s382, s383, s384], []⟩ W := by
  conv => arg 2; whnf
  obtain ⟨id_, hdi, hd0, hd1, hd2⟩ := info_parts Tryd.infoRd
  have HTd := Lib.hid hT
  have HNw := Lib.hid hN
  have HB0 := Lib.hid hb0
  have HK := Lib.hid hRk
  have HF := Lib.hid hF
  have HP := Lib.hid hP
  have HS := Lib.hid hS
  have HWb := Lib.hid hwb
  have HW := Lib.hid hw
  have HX := Lib.hid hx
  have hOne : ∀ u ∈ rowL (rd4 fr lo hi) L, u.oneCell' = true := rd4_one fr _ _ _ (fun _ => rfl) L
  have HOne := Lib.hid hOne
  have t_0 := hT.cell 0
  have t_1 := hT.cell 1
  have zt := hT.lt
  simp only [List.getElem?_toArray, List.getElem?_cons_zero, List.getElem?_cons_succ] at t_0 t_1
  clear hT hN hb0 hRk hF hP hS hwb hw hx hOne
  refine wp_seq_k circ_tail_code (by rfl) (fun KK HKK => ?_)
  refine wp_region_hf (n := 5) (Bl W) [1, 3, 4, 5, 6, 7, 8, 9] (by kernel_rfl) (by kernel_rfl) (by kernel_rfl) (by rfl) (by kernel_rfl) (by repeat (first | (with_reducible refine panic_then ?_) | (with_reducible exact panic_body) | exact panic_body | refine panic_then ?_)) (bl_drew (bl_refl W)) ?_
  simp only [pickI, List.getElem?_cons_succ, List.getElem?_cons_zero]
  iterate 8 (first
    | (refine hs_val (wanted_free rfl) ⟨_, fun X hX => run_bld (pv := #[(0, .int .i64 (A' : Int)), (1, .int .i64 (B' : Int)), (2, .int .i64 tl), (3, .int .i64 th)]) (by rfl) (by kernel_rfl) (built_rd _ _ _ _), ?_⟩
       simp only [Act.put, List.setIfInBounds_toArray, List.set_cons_zero, List.set_cons_succ])
    | (refine hs_val (wanted_free rfl) ?_
       apply Exists.intro
       refine ⟨fun X hX => ?_, ?_⟩
       · (obtain ⟨qz, qc, qf⟩ := bcl hX.out (by first | (simp; rfl) | rfl)
          go_simp
          first | done | rfl)
       simp only [Act.put, List.setIfInBounds_toArray, List.set_cons_zero, List.set_cons_succ]))
  refine hs_nil ?_
  have bX : Below W.heap.size W W.drew := bl_drew (bl_refl W)
  have hXz : W.drew.heap.size = W.heap.size := rfl
  generalize W.drew = X at bX hXz ⊢
  refine wpAnyH_ready (rs := [0, 10]) (by kernel_rfl) (by simp) ?_
  refine AllReadyH.cons rfl (fun K1 hK1 => ?_) ?_
  · skip
    refine step_bs0 rfl rfl ?_
    have bX1 : Below W.heap.size W (X.alloc (.cells #[] 41)) := bl_alloc bX _
    have own0_X1 : (X.alloc (.cells #[] 41)).ownsRow W.heap.size 41 4 (.slice (some ⟨X.heap.size, 0, none⟩) 0 0) 0 [] := World.ownsRow_lit X #[] 0 (by have := bX.size; omega) (by unfold maxLen; omega) rfl
    have zX1 : (X.alloc (.cells #[] 41)).heap.size = X.heap.size + 1 := by simp
    have geX1 : W.heap.size ≤ X.heap.size := bX.size
    obtain ⟨g1, hg1⟩ : ∃ g, g = X.heap.size := ⟨_, rfl⟩
    rw [← hg1] at own0_X1 zX1 geX1 ⊢
    generalize X.alloc (.cells #[] 41) = X1 at *
    refine hK1.out _ _ bX1 (fun _ => ?_)
    simp only [Act.put, List.setIfInBounds_toArray]
    refine wpAnyH_ready (rs := [2, 10]) (by kernel_rfl) (by simp) ?_
    refine AllReadyH.cons rfl (fun K2 hK2 => ?_) ?_
    · skip
      refine step_rd hdi hd0 hd1 hd2 (by rfl) (by rfl) _ _ (by rfl) W.heap.size 0 g1 0 [] (by rfl) own0_X1 ⟨br, or_, none⟩ L cr (rowL (rd4 fr lo hi) L) (by rfl) (rowL_len (c := 4) (fun _ => rfl) L) (HNw.out _ bX1) HOne.out hL0 (by omega) bX1.size ?_
      intro g2 c2 X2 own2_X2 grX2 atX2 ltX2
      have bX2 : Below W.heap.size W X2 := bX1.grown grX2 bX1.size (fun k h => by obtain rfl := Option.some.inj h; exact geX1)
      rw [Nat.zero_add] at own2_X2 ⊢
      rw [List.nil_append] at own2_X2
      have geX2 : W.heap.size ≤ g2 := atX2.elim (fun h => by rw [h]; exact geX1) (fun h => by rw [h]; exact bX1.size)
      refine hK2.out _ _ bX2 (fun _ => ?_)
      simp only [Act.put]
      refine wpAnyH_ready (rs := [10]) (by kernel_rfl) (by simp) ?_
      refine AllReadyH.cons rfl (fun K3 hK3 => ?_) ?_
      · skip
        refine step_bs1 rfl rfl (by rfl) ?_
        have bX3 : Below W.heap.size W (X2.alloc (.cells #[.int .i64 (A' : Int), .int .i64 (B' : Int), .int .i64 tl, .int .i64 th] 41)) := bl_alloc bX2 _
        have qX3 : Blk (X2.alloc (.cells #[.int .i64 (A' : Int), .int .i64 (B' : Int), .int .i64 tl, .int .i64 th] 41)) X2.heap.size 41 #[.int .i64 (A' : Int), .int .i64 (B' : Int), .int .i64 tl, .int .i64 th] := Blk.new _ _ _
        have own2_X3 := own2_X2.alloc (.cells #[.int .i64 (A' : Int), .int .i64 (B' : Int), .int .i64 tl, .int .i64 th] 41)
        obtain ⟨g3, hg3⟩ : ∃ g, g = X2.heap.size := ⟨_, rfl⟩
        rw [← hg3] at qX3 ⊢
        generalize X2.alloc (.cells #[.int .i64 (A' : Int), .int .i64 (B' : Int), .int .i64 tl, .int .i64 th] 41) = X3 at *
        refine hK3.out _ _ bX3 (fun _ => ?_)
        simp only [Act.put]
        refine wpAnyH_ready (rs := [11]) (by kernel_rfl) (by simp) ?_
        refine AllReadyH.cons rfl (fun K4 hK4 => ?_) ?_
        · skip
          refine step_rd hdi hd0 hd1 hd2 (by rfl) (by rfl) _ _ (by rfl) W.heap.size L g2 c2 (rowL (rd4 fr lo hi) L) (by rfl) own2_X3 ⟨g3, 0, none⟩ 1 1 [.int .i64 (A' : Int), .int .i64 (B' : Int), .int .i64 tl, .int .i64 th] (by rfl) (by rfl) (World.news_of_block qX3) (fun u hu => by simp at hu; rcases hu with rfl | rfl | rfl | rfl <;> rfl) (by omega) (by omega) bX3.size ?_
          intro g4 c4 X4 ownX4 grX4 atX4 ltX4
          have bX4 : Below W.heap.size W X4 := bX3.grown grX4 bX3.size (fun k h => by obtain rfl := Option.some.inj h; exact geX2)
          refine hK4.out _ _ bX4 (fun _ => ?_)
          simp only [Act.put]
          refine wpAnyH_ready (rs := [12]) (by kernel_rfl) (by simp) ?_
          refine AllReadyH.cons rfl (fun K5 hK5 => ?_) ?_
          · skip
            refine step_asg rfl rfl ?_
            refine hK5.out _ _ bX4 (fun _ => ?_)
            simp only [Act.put]
            refine wpAnyH_done (by kernel_rfl) ?_ _
            refine HKK.out _ _ (circ_tail (treeL fr lo hi L ++ [⟨A', B', tl, th⟩]) L A' B' g4 c4 bx Aw cw wy vv sc w0 _ _ _ _ _ _ _ _ _ _ _ _ _ _ _ _ _ _ _ _ _ _ _ _ _ _ _ _ _ _ _ _ _ _ _ _ _ _ _ _ _ _ _ _ _ _ _ _ _ _ _ _ _ _ _ _ _ _ _ _ _ _ _ _ _ _ _ _ _ _ _ _ _ _ _ _ _ _ _ _ _ _ _ _ _ _ _ _ _ _ _ _ _ _ _ _ _ _ _ _ _ _ _ _ _ _ _ _ _ _ _ _ _ _ _ _ _ _ _ _ _ _ _ _ _ _ _ _ _ _ _ _ _ _ _ _ _ _ _ _ _ _ _ _ _ _ _ _ _ _ _ _ _ _ _ _ _ _ _ _ _ _ _ _ _ _ _ _ _ _ _ _ _ _ _ _ _ _ _ _ _ _ _ _ _ _ _ _ _ _ _ _ _ _ _ _ _ _ _ _ _ _ _ _ _ _ _ _ _ _ _ _ _ _ _ _ _ _ _ _ _ _ _ _ _ _ _ _ _ _ _ _ _ _ _ _ _ _ _ _ _ _ _ _ _ _ _ _ _ _ _ _ _ _ _ _ _ _ _ _ _ _ _ _ _ _ _ _ _ _ _ _ _ _ _ _ _ _ _ _ _ _ _ _ _ _ _ _ _ _ _ _ _ _ _ _ _ _ _ _ _ _ _ _ _ _ _ _ _ _ _ _ _ _ _ _ _ _ _ _ _ _ _ _ _ _ _ _ _ _ _ _ _ _ _ _ _ _ _ _ _ _ _ _ _ _ _ _ _ _ _ _ _ _ _ _ _ _ _ _ _ _ _ _ _ _ _ _ _ _ _ _ _ _ X4 hL hA hB (by rw [List.length_append, treeL_len]; rfl) HK.out HF.out HP.out HS.out (bl_trans HB0.out bX4) (rds_of_own1 (x := ⟨A', B', tl, th⟩) ownX4) (HW.out.up bX4) HWb.out (HX.out.below bX4 HX.out.lt))
          exact AllReadyH.nil
        exact AllReadyH.nil
      exact AllReadyH.nil
    refine AllReadyH.cons rfl (fun K6 hK6 => ?_) ?_
    · skip
      refine step_bs1 rfl rfl (by rfl) ?_
      have bX6 : Below W.heap.size W (X1.alloc (.cells #[.int .i64 (A' : Int), .int .i64 (B' : Int), .int .i64 tl, .int .i64 th] 41)) := bl_alloc bX1 _
      have qX6 : Blk (X1.alloc (.cells #[.int .i64 (A' : Int), .int .i64 (B' : Int), .int .i64 tl, .int .i64 th] 41)) X1.heap.size 41 #[.int .i64 (A' : Int), .int .i64 (B' : Int), .int .i64 tl, .int .i64 th] := Blk.new _ _ _
      have own0_X6 := own0_X1.alloc (.cells #[.int .i64 (A' : Int), .int .i64 (B' : Int), .int .i64 tl, .int .i64 th] 41)
      have neX6 : X1.heap.size ≠ g1 := by have := zX1; omega
      obtain ⟨g6, hg6⟩ : ∃ g, g = X1.heap.size := ⟨_, rfl⟩
      rw [← hg6] at qX6 neX6 ⊢
      generalize X1.alloc (.cells #[.int .i64 (A' : Int), .int .i64 (B' : Int), .int .i64 tl, .int .i64 th] 41) = X6 at *
      refine hK6.out _ _ bX6 (fun _ => ?_)
      simp only [Act.put]
      refine wpAnyH_ready (rs := [2]) (by kernel_rfl) (by simp) ?_
      refine AllReadyH.cons rfl (fun K7 hK7 => ?_) ?_
      · skip
        refine step_rd hdi hd0 hd1 hd2 (by rfl) (by rfl) _ _ (by rfl) W.heap.size 0 g1 0 [] (by rfl) own0_X6 ⟨br, or_, none⟩ L cr (rowL (rd4 fr lo hi) L) (by rfl) (rowL_len (c := 4) (fun _ => rfl) L) (HNw.out _ bX6) HOne.out hL0 (by omega) bX6.size ?_
        intro g7 c7 X7 own2_X7 grX7 atX7 ltX7
        have bX7 : Below W.heap.size W X7 := bX6.grown grX7 bX6.size (fun k h => by obtain rfl := Option.some.inj h; exact geX1)
        rw [Nat.zero_add] at own2_X7 ⊢
        rw [List.nil_append] at own2_X7
        have qX7 : Blk X7 g6 41 #[.int .i64 (A' : Int), .int .i64 (B' : Int), .int .i64 tl, .int .i64 th] := qX6.same (grX7.block _ qX6.lt (fun e => neX6 (Option.some.inj e)))
        have geX7 : W.heap.size ≤ g7 := atX7.elim (fun h => by rw [h]; exact geX1) (fun h => by rw [h]; exact bX6.size)
        refine hK7.out _ _ bX7 (fun _ => ?_)
        simp only [Act.put]
        refine wpAnyH_ready (rs := [11]) (by kernel_rfl) (by simp) ?_
        refine AllReadyH.cons rfl (fun K8 hK8 => ?_) ?_
        · skip
          refine step_rd hdi hd0 hd1 hd2 (by rfl) (by rfl) _ _ (by rfl) W.heap.size L g7 c7 (rowL (rd4 fr lo hi) L) (by rfl) own2_X7 ⟨g6, 0, none⟩ 1 1 [.int .i64 (A' : Int), .int .i64 (B' : Int), .int .i64 tl, .int .i64 th] (by rfl) (by rfl) (World.news_of_block qX7) (fun u hu => by simp at hu; rcases hu with rfl | rfl | rfl | rfl <;> rfl) (by omega) (by omega) bX7.size ?_
          intro g8 c8 X8 ownX8 grX8 atX8 ltX8
          have bX8 : Below W.heap.size W X8 := bX7.grown grX8 bX7.size (fun k h => by obtain rfl := Option.some.inj h; exact geX7)
          refine hK8.out _ _ bX8 (fun _ => ?_)
          simp only [Act.put]
          refine wpAnyH_ready (rs := [12]) (by kernel_rfl) (by simp) ?_
          refine AllReadyH.cons rfl (fun K9 hK9 => ?_) ?_
          · skip
            refine step_asg rfl rfl ?_
            refine hK9.out _ _ bX8 (fun _ => ?_)
            simp only [Act.put]
            refine wpAnyH_done (by kernel_rfl) ?_ _
            refine HKK.out _ _ (circ_tail (treeL fr lo hi L ++ [⟨A', B', tl, th⟩]) L A' B' g8 c8 bx Aw cw wy vv sc w0 _ _ _ _ _ _ _ _ _ _ _ _ _ _ _ _ _ _ _ _ _ _ _ _ _ _ _ _ _ _ _ _ _ _ _ _ _ _ _ _ _ _ _ _ _ _ _ _ _ _ _ _ _ _ _ _ _ _ _ _ _ _ _ _ _ _ _ _ _ _ _ _ _ _ _ _ _ _ _ _ _ _ _ _ _ _ _ _ _ _ _ _ _ _ _ _ _ _ _ _ _ _ _ _ _ _ _ _ _ _ _ _ _ _ _ _ _ _ _ _ _ _ _ _ _ _ _ _ _ _ _ _ _ _ _ _ _ _ _ _ _ _ _ _ _ _ _ _ _ _ _ _ _ _ _ _ _ _ _ _ _ _ _ _ _ _ _ _ _ _ _ _ _ _ _ _ _ _ _ _ _ _ _ _ _ _ _ _ _ _ _ _ _ _ _ _ _ _ _ _ _ _ _ _ _ _ _ _ _ _ _ _ _ _ _ _ _ _ _ _ _ _ _ _ _ _ _ _ _ _ _ _ _ _ _ _ _ _ _ _ _ _ _ _ _ _ _ _ _ _ _ _ _ _ _ _ _ _ _ _ _ _ _ _ _ _ _ _ _ _ _ _ _ _ _ _ _ _ _ _ _ _ _ _ _ _ _ _ _ _ _ _ _ _ _ _ _ _ _ _ _ _ _ _ _ _ _ _ _ _ _ _ _ _ _ _ _ _ _ _ _ _ _ _ _ _ _ _ _ _ _ _ _ _ _ _ _ _ _ _ _ _ _ _ _ _ _ _ _ _ _ _ _ _ _ _ _ _ _ _ _ _ _ _ _ _ _ _ _ _ _ _ _ _ X8 hL hA hB (by rw [List.length_append, treeL_len]; rfl) HK.out HF.out HP.out HS.out (bl_trans HB0.out bX8) (rds_of_own1 (x := ⟨A', B', tl, th⟩) ownX8) (HW.out.up bX8) HWb.out (HX.out.below bX8 HX.out.lt))
          exact AllReadyH.nil
        exact AllReadyH.nil
      exact AllReadyH.nil
    exact AllReadyH.nil
  refine AllReadyH.cons rfl (fun K10 hK10 => ?_) ?_
  · skip
    refine step_bs1 rfl rfl (by rfl) ?_
    have bX10 : Below W.heap.size W (X.alloc (.cells #[.int .i64 (A' : Int), .int .i64 (B' : Int), .int .i64 tl, .int .i64 th] 41)) := bl_alloc bX _
    have qX10 : Blk (X.alloc (.cells #[.int .i64 (A' : Int), .int .i64 (B' : Int), .int .i64 tl, .int .i64 th] 41)) X.heap.size 41 #[.int .i64 (A' : Int), .int .i64 (B' : Int), .int .i64 tl, .int .i64 th] := Blk.new _ _ _
    obtain ⟨g10, hg10⟩ : ∃ g, g = X.heap.size := ⟨_, rfl⟩
    rw [← hg10] at qX10 ⊢
    generalize X.alloc (.cells #[.int .i64 (A' : Int), .int .i64 (B' : Int), .int .i64 tl, .int .i64 th] 41) = X10 at *
    refine hK10.out _ _ bX10 (fun _ => ?_)
    simp only [Act.put, List.setIfInBounds_toArray]
    refine wpAnyH_ready (rs := [0]) (by kernel_rfl) (by simp) ?_
    refine AllReadyH.cons rfl (fun K11 hK11 => ?_) ?_
    · skip
      refine step_bs0 rfl rfl ?_
      have bX11 : Below W.heap.size W (X10.alloc (.cells #[] 41)) := bl_alloc bX10 _
      have own0_X11 : (X10.alloc (.cells #[] 41)).ownsRow W.heap.size 41 4 (.slice (some ⟨X10.heap.size, 0, none⟩) 0 0) 0 [] := World.ownsRow_lit X10 #[] 0 (by have := bX10.size; omega) (by unfold maxLen; omega) rfl
      have zX11 : (X10.alloc (.cells #[] 41)).heap.size = X10.heap.size + 1 := by simp
      have qX11 := qX10.alloc (.cells #[] 41)
      have neX11 : g10 ≠ X10.heap.size := by have := qX10.lt; omega
      have geX11 : W.heap.size ≤ X10.heap.size := bX10.size
      obtain ⟨g11, hg11⟩ : ∃ g, g = X10.heap.size := ⟨_, rfl⟩
      rw [← hg11] at own0_X11 zX11 geX11 neX11 ⊢
      generalize X10.alloc (.cells #[] 41) = X11 at *
      refine hK11.out _ _ bX11 (fun _ => ?_)
      simp only [Act.put]
      refine wpAnyH_ready (rs := [2]) (by kernel_rfl) (by simp) ?_
      refine AllReadyH.cons rfl (fun K12 hK12 => ?_) ?_
      · skip
        refine step_rd hdi hd0 hd1 hd2 (by rfl) (by rfl) _ _ (by rfl) W.heap.size 0 g11 0 [] (by rfl) own0_X11 ⟨br, or_, none⟩ L cr (rowL (rd4 fr lo hi) L) (by rfl) (rowL_len (c := 4) (fun _ => rfl) L) (HNw.out _ bX11) HOne.out hL0 (by omega) bX11.size ?_
        intro g12 c12 X12 own2_X12 grX12 atX12 ltX12
        have bX12 : Below W.heap.size W X12 := bX11.grown grX12 bX11.size (fun k h => by obtain rfl := Option.some.inj h; exact geX11)
        rw [Nat.zero_add] at own2_X12 ⊢
        rw [List.nil_append] at own2_X12
        have qX12 : Blk X12 g10 41 #[.int .i64 (A' : Int), .int .i64 (B' : Int), .int .i64 tl, .int .i64 th] := qX11.same (grX12.block _ qX11.lt (fun e => neX11 (Option.some.inj e)))
        have geX12 : W.heap.size ≤ g12 := atX12.elim (fun h => by rw [h]; exact geX11) (fun h => by rw [h]; exact bX11.size)
        refine hK12.out _ _ bX12 (fun _ => ?_)
        simp only [Act.put]
        refine wpAnyH_ready (rs := [11]) (by kernel_rfl) (by simp) ?_
        refine AllReadyH.cons rfl (fun K13 hK13 => ?_) ?_
        · skip
          refine step_rd hdi hd0 hd1 hd2 (by rfl) (by rfl) _ _ (by rfl) W.heap.size L g12 c12 (rowL (rd4 fr lo hi) L) (by rfl) own2_X12 ⟨g10, 0, none⟩ 1 1 [.int .i64 (A' : Int), .int .i64 (B' : Int), .int .i64 tl, .int .i64 th] (by rfl) (by rfl) (World.news_of_block qX12) (fun u hu => by simp at hu; rcases hu with rfl | rfl | rfl | rfl <;> rfl) (by omega) (by omega) bX12.size ?_
          intro g13 c13 X13 ownX13 grX13 atX13 ltX13
          have bX13 : Below W.heap.size W X13 := bX12.grown grX13 bX12.size (fun k h => by obtain rfl := Option.some.inj h; exact geX12)
          refine hK13.out _ _ bX13 (fun _ => ?_)
          simp only [Act.put]
          refine wpAnyH_ready (rs := [12]) (by kernel_rfl) (by simp) ?_
          refine AllReadyH.cons rfl (fun K14 hK14 => ?_) ?_
          · skip
            refine step_asg rfl rfl ?_
            refine hK14.out _ _ bX13 (fun _ => ?_)
            simp only [Act.put]
            refine wpAnyH_done (by kernel_rfl) ?_ _
            refine HKK.out _ _ (circ_tail (treeL fr lo hi L ++ [⟨A', B', tl, th⟩]) L A' B' g13 c13 bx Aw cw wy vv sc w0 _ _ _ _ _ _ _ _ _ _ _ _ _ _ _ _ _ _ _ _ _ _ _ _ _ _ _ _ _ _ _ _ _ _ _ _ _ _ _ _ _ _ _ _ _ _ _ _ _ _ _ _ _ _ _ _ _ _ _ _ _ _ _ _ _ _ _ _ _ _ _ _ _ _ _ _ _ _ _ _ _ _ _ _ _ _ _ _ _ _ _ _ _ _ _ _ _ _ _ _ _ _ _ _ _ _ _ _ _ _ _ _ _ _ _ _ _ _ _ _ _ _ _ _ _ _ _ _ _ _ _ _ _ _ _ _ _ _ _ _ _ _ _ _ _ _ _ _ _ _ _ _ _ _ _ _ _ _ _ _ _ _ _ _ _ _ _ _ _ _ _ _ _ _ _ _ _ _ _ _ _ _ _ _ _ _ _ _ _ _ _ _ _ _ _ _ _ _ _ _ _ _ _ _ _ _ _ _ _ _ _ _ _ _ _ _ _ _ _ _ _ _ _ _ _ _ _ _ _ _ _ _ _ _ _ _ _ _ _ _ _ _ _ _ _ _ _ _ _ _ _ _ _ _ _ _ _ _ _ _ _ _ _ _ _ _ _ _ _ _ _ _ _ _ _ _ _ _ _ _ _ _ _ _ _ _ _ _ _ _ _ _ _ _ _ _ _ _ _ _ _ _ _ _ _ _ _ _ _ _ _ _ _ _ _ _ _ _ _ _ _ _ _ _ _ _ _ _ _ _ _ _ _ _ _ _ _ _ _ _ _ _ _ _ _ _ _ _ _ _ _ _ _ _ _ _ _ _ _ _ _ _ _ _ _ _ _ _ _ _ _ _ _ _ X13 hL hA hB (by rw [List.length_append, treeL_len]; rfl) HK.out HF.out HP.out HS.out (bl_trans HB0.out bX13) (rds_of_own1 (x := ⟨A', B', tl, th⟩) ownX13) (HW.out.up bX13) HWb.out (HX.out.below bX13 HX.out.lt))
          exact AllReadyH.nil
        exact AllReadyH.nil
      exact AllReadyH.nil
    exact AllReadyH.nil
  exact AllReadyH.nil
end Go.Proofs.YtehifkdfbiebfaaDoor
