/- TopCircle: what stands behind the list of all readings (gencirf.py prints it). TopCircle: from region 41 on (gencirf.py prints it). -/
import Derived.Test.YtehifkdfbiebfaaDoorK43
import Derived.Test.YtehifkdfbiebfaaDoorK42
import Derived.Test.YtehifkdfbiebfaaDoorK35
import Derived.Deep.CutRange
import Derived.Deep.CutBlock
namespace Go.Proofs.YtehifkdfbiebfaaDoor
open Go Go.RowKit Go.Shelf

noncomputable def same_p_code : Code := at_ [1, 1, 1, 1, 1, 1, 1, 1, 1, 1, 1, 1, 1, 1, 1, 1, 1, 1, 1, 1, 1, 0, 1, 0, 0, 1, 0] ((Tryd.f3.body).getD .skip)
set_option maxRecDepth 100000 in
set_option maxHeartbeats 32000000 in
theorem same_p (x y z : Int) (st : Bool) (k bx bw ow N cw A' B' : Nat) (s0 s1 s2 s5 s6 s7 s8 s9 s10 s12 s13 s14 s15 s17 s18 s19 s20 s21 s22 s23 s24 s25 s26 s27 s28 s29 s30 s31 s32 s33 s34 s35 s36 s37 s38 s39 s40 s41 s42 s43 s44 s45 s46 s49 s50 s51 s52 s53 s54 s55 s56 s57 s58 s59 s60 s61 s62 s63 s64 s65 s66 s67 s68 s69 s70 s71 s72 s73 s74 s75 s76 s77 s78 s79 s80 s81 s82 s83 s84 s85 s86 s87 s88 s89 s90 s91 s92 s93 s94 s95 s96 s97 s98 s99 s100 s101 s102 s103 s104 s105 s106 s107 s108 s109 s110 s111 s112 s113 s114 s115 s116 s117 s118 s119 s120 s121 s122 s123 s124 s125 s126 s127 s128 s129 s130 s131 s132 s133 s134 s135 s136 s137 s138 s139 s140 s141 s142 s143 s144 s145 s146 s147 s148 s149 s150 s151 s152 s153 s154 s155 s156 s157 s158 s159 s160 s161 s162 s163 s164 s165 s166 s167 s168 s169 s170 s171 s172 s173 s174 s175 s176 s177 s178 s179 s180 s181 s182 s183 s184 s185 s186 s187 s188 s189 s190 s191 s192 s193 s194 s195 s196 s197 s198 s199 s200 s201 s202 s203 s204 s205 s206 s207 s208 s209 s210 s211 s212 s213 s214 s215 s216 s217 s218 s219 s220 s221 s222 s223 s224 s225 s226 s227 s228 s229 s230 s231 s232 s233 s234 s235 s236 s237 s238 s239 s240 s241 s242 s243 s244 s245 s246 s247 s248 s249 s250 s251 s252 s253 s254 s255 s256 s257 s258 s259 s260 s261 s262 s263 s264 s265 s266 s267 s268 s269 s270 s271 s272 s273 s274 s275 s276 s277 s278 s279 s280 s281 s282 s283 s284 s285 s286 s287 s288 s289 s290 s291 s292 s293 s294 s295 s296 s297 s298 s299 s300 s301 s302 s303 s304 s305 s306 s307 s308 s309 s310 s311 s312 s313 s314 s315 s316 s317 s318 s319 s320 s321 s322 s323 s324 s325 s326 s327 s328 s329 s330 s331 s332 s333 s334 s335 s336 s337 s338 s339 s340 s341 s342 s343 s344 s345 s346 s347 s348 s349 s350 s351 s352 s353 s354 s355 s356 s357 s358 s359 s360 s361 s362 s363 s364 s365 s366 s367 s368 s369 s370 s371 s372 s373 s374 s375 s376 s377 s378 s379 s380 s381 s382 s383 s384 : Value) (W : World) (hk : k < 6) (zx : bx < W.heap.size) (zw : bw < W.heap.size) (hA : A' < N) (hB : B' < N) (_ : N ≤ 13) (c0 : W.cell? ⟨bx, k, none⟩ = some (.int .i64 x)) (c1 : W.cell? ⟨bw, ow + B' * 6 + k, none⟩ = some (.int .i64 y)) (c2 : W.cell? ⟨bw, ow + A' * 6 + k, none⟩ = some (.int .i64 z)) (wv : IntKind.i64.wrap (y - z) = y - z) {J K : Act → World → Prop} {Q' : Exit → Act → World → Prop} (_ : ∀ (c : List PanicEntry) (d : Option Tmp) (v : Value) (a : Act) (w : World), Q' (Exit.panic c) (a.put d v) w → Q' (Exit.panic c) a w) (hJ : ∀ (u316 u317 u318 u319 u320 u321 u322 u323 u324 u325 u326 u327 u328 u329 u330 u331 u332 u333 u334 u335 : Value) (s : Bool)  (W' : World), (s = true → st = true ∧ x = y - z) → Below W.heap.size W W' → J ⟨#[s0, s1, s2, .int .i64 (A' : Int), .int .i64 (B' : Int), s5, s6, s7, s8, s9, s10, .pointer (some ⟨bx, 0, none⟩), s12, s13, s14, s15, .slice (some ⟨bw, ow, none⟩) N cw, s17, s18, s19, s20, s21, s22, s23, s24, s25, s26, s27, s28, s29, s30, s31, s32, s33, s34, s35, s36, s37, s38, s39, s40, s41, s42, s43, s44, s45, s46, .bool s, .int .i64 (k : Int), s49, s50, s51, s52, s53, s54, s55, s56, s57, s58, s59, s60, s61, s62, s63, s64, s65, s66, s67, s68, s69, s70, s71, s72, s73, s74, s75, s76, s77, s78, s79, s80, s81, s82, s83, s84, s85, s86, s87, s88, s89, s90, s91, s92, s93, s94, s95, s96, s97, s98, s99, s100, s101, s102, s103, s104, s105, s106, s107, s108, s109, s110, s111, s112, s113, s114, s115, s116, s117, s118, s119, s120, s121, s122, s123, s124, s125, s126, s127, s128, s129, s130, s131, s132, s133, s134, s135, s136, s137, s138, s139, s140, s141, s142, s143, s144, s145, s146, s147, s148, s149, s150, s151, s152, s153, s154, s155, s156, s157, s158, s159, s160, s161, s162, s163, s164, s165, s166, s167, s168, s169, s170, s171, s172, s173, s174, s175, s176, s177, s178, s179, s180, s181, s182, s183, s184, s185, s186, s187, s188, s189, s190, s191, s192, s193, s194, s195, s196, s197, s198, s199, s200, s201, s202, s203, s204, s205, s206, s207, s208, s209, s210, s211, s212, s213, s214, s215, s216, s217, s218, s219, s220, s221, s222, s223, s224, s225, s226, s227, s228, s229, s230, s231, s232, s233, s234, s235, s236, s237, s238, s239, s240, s241, s242, s243, s244, s245, s246, s247, s248, s249, s250, s251, s252, s253, s254, s255, s256, s257, s258, s259, s260, s261, s262, s263, s264, s265, s266, s267, s268, s269, s270, s271, s272, s273, s274, s275, s276, s277, s278, s279, s280, s281, s282, s283, s284, s285, s286, s287, s288, s289, s290, s291, s292, s293, s294, s295, s296, s297, s298, s299, s300, s301, s302, s303, s304, s305, s306, s307, s308, s309, s310, s311, s312, s313, s314, s315, u316, u317, u318, u319, u320, u321, u322, u323, u324, u325, u326, u327, u328, u329, u330, u331, u332, u333, u334, u335, s336, s337, s338, s339, s340, s341, s342, s343, s344, s345, s346, s347, s348, s349, s350, s351, s352, s353, s354, s355, s356, s357, s358, s359, s360, s361, s362, s363, s364, s365, s366, s367, s368, s369, s370, s371, s372, s373, s374, s375, s376, s377, s378, s379, s380, s381, s382, s383, s384], []⟩ W') (hK : ∀ a' w', Met J a' w' → K a' w') : Code.wp Tryd.prog same_p_code (Exit.then K Q') ⟨#[s0, s1, s2, .int .i64 (A' : Int), .int .i64 (B' : Int), s5, s6, s7, s8, s9, s10, .pointer (some ⟨bx, 0, none⟩), s12, s13, s14, s15, .slice (some ⟨bw, ow, none⟩) N cw, s17, s18, s19, s20, s21, s22, s23, s24, s25, s26, s27, s28, s29, s30, s31, s32, s33, s34, s35, s36, s37, s38, s39, s40, s41, s42, s43, s44, s45, s46, .bool st, .int .i64 (k : Int), s49, s50, s51, s52, s53, s54, s55, s56, s57, s58, s59, s60, s61, s62, s63, s64, s65, s66, s67, s68, s69, s70, s71, s72, s73, s74, s75, s76, s77, s78, s79, s80, s81, s82, s83, s84, s85, s86, s87, s88, s89, s90, s91, s92, s93, s94, s95, s96, s97, s98, s99, s100, s101, s102, s103, s104, s105, s106, s107, s108, s109, s110, s111, s112, s113, s114, s115, s116, s117, s118, s119, s120, s121, s122, s123, s124, s125, s126, s127, s128, s129, s130, s131, s132, s133, s134, s135, s136, s137, s138, s139, s140, s141, s142, s143, s144, s145, s146, s147, s148, s149, s150, s151, s152, s153, s154, s155, s156, s157, s158, s159, s160, s161, s162, s163, s164, s165, s166, s167, s168, s169, s170, s171, s172, s173, s174, s175, s176, s177, s178, s179, s180, s181, s182, s183, s184, s185, s186, s187, s188, s189, s190, s191, s192, s193, s194, s195, s196, s197, s198, s199, s200, s201, s202, s203, s204, s205, s206, s207, s208, s209, s210, s211, s212, s213, s214, s215, s216, s217, s218, s219, s220, s221, s222, s223, s224, s225, s226, s227, s228, s229, s230, s231, s232, s233, s234, s235, s236, s237, s238, s239, s240, s241, s242, s243, s244, s245, s246, s247, s248, s249, s250, s251, s252, s253, s254, s255, s256, s257, s258, s259, s260, s261, s262, s263, s264, s265, s266, s267, s268, s269, s270, s271, s272, s273, s274, s275, s276, s277, s278, s279, s280, s281, s282, s283, s284, s285, s286, s287, s288, s289, s290, s291, s292, s293, s294, s295, s296, s297, s298, s299, s300, s301, s302, s303, s304, s305, s306, s307, s308, s309, s310, s311, s312, s313, s314, s315, s316, s317, s318, s319, s320, s321, s322, s323, s324, s325, s326, s327, s328, s329, s330, s331, s332, s333, s334, s335, s336, s337, s338, s339, s340, s341, s342, s343, s344, s345, s346, s347, s348, s349, s350, s351, s352, s353, s354, s355, s356, s357, s358, s359, s360, s361, s362, s363, s364, s365, s366, s367, s368, s369, s370, s371, s372, s373, s374, s375, s376, s377, s378, s379, s380, s381, s382, s383, s384], []⟩ W := by
  conv => arg 2; whnf
  have zx' := zx
  have zw' := zw
  have HJ := Lib.hid hJ
  clear hJ
  go_upto_region 48 with fail
  have ki : (k : Int) < 6 := by omega
  cases st with
  | false =>
    (refine wp_region_bl [0,1,2,3,4,5,6,7,8,9,10,11,12,13,14,15,16,17,18,19] [20] (by kernel_rfl) (by kernel_rfl) (by rfl) ?_
     simp only [pickI, pick, List.getElem?_cons_succ, List.getElem?_cons_zero]
     iterate 20 (first
       | (refine head_val (by rfl) (by first | exact wanted_free rfl | rfl) ?_
          apply Exists.intro
          refine ⟨fun X hX => ?_, ?_⟩
          · (obtain ⟨qz, qc, qf⟩ := bcl hX.out (by first | (simp; rfl) | rfl)
             go_simp
             first | done | rfl | exact ⟨rfl, rfl⟩)
          simp only [Act.put, List.setIfInBounds_toArray, List.set_cons_zero, List.set_cons_succ])
       | (refine head_pass (by rfl) ?_
          simp only [Act.put, List.setIfInBounds_toArray, List.set_cons_zero, List.set_cons_succ]))
     refine head_nil ?_
     intro w' hw'
     have hb := hw'.out
     clear hw'
     obtain ⟨hz, hc, hf⟩ := bcl hb (by first | (simp; rfl) | rfl))
    go_wp2
    refine Met.intro ?_
    exact HJ.out _ _ _ _ _ _ _ _ _ _ _ _ _ _ _ _ _ _ _ _ false _ (fun h => absurd h (by simp)) hb
  | true =>
    by_cases hxy : x = y - z
    · have q : (x == y - z) = true := by rw [hxy]; simp
      (refine wp_region_bl [0,1,2,3,4,5,6,7,8,9,10,11,12,13,14,15,16,17,18,19] [20] (by kernel_rfl) (by kernel_rfl) (by rfl) ?_
       simp only [pickI, pick, List.getElem?_cons_succ, List.getElem?_cons_zero]
       iterate 20 (first
         | (refine head_val (by rfl) (by first | exact wanted_free rfl | rfl) ?_
            apply Exists.intro
            refine ⟨fun X hX => ?_, ?_⟩
            · (obtain ⟨qz, qc, qf⟩ := bcl hX.out (by first | (simp; rfl) | rfl)
               go_simp
               first | done | rfl | exact ⟨rfl, rfl⟩)
            simp only [Act.put, List.setIfInBounds_toArray, List.set_cons_zero, List.set_cons_succ])
         | (refine head_pass (by rfl) ?_
            simp only [Act.put, List.setIfInBounds_toArray, List.set_cons_zero, List.set_cons_succ]))
       refine head_nil ?_
       intro w' hw'
       have hb := hw'.out
       clear hw'
       obtain ⟨hz, hc, hf⟩ := bcl hb (by first | (simp; rfl) | rfl))
      go_wp2
      refine Met.intro ?_
      exact HJ.out _ _ _ _ _ _ _ _ _ _ _ _ _ _ _ _ _ _ _ _ true _ (fun _ => by first | exact ⟨rfl, hxy⟩ | exact ⟨trivial, hxy⟩) hb
    · have q : (x == y - z) = false := by rw [beq_eq_false_iff_ne]; exact hxy
      (refine wp_region_bl [0,1,2,3,4,5,6,7,8,9,10,11,12,13,14,15,16,17,18,19] [20] (by kernel_rfl) (by kernel_rfl) (by rfl) ?_
       simp only [pickI, pick, List.getElem?_cons_succ, List.getElem?_cons_zero]
       iterate 20 (first
         | (refine head_val (by rfl) (by first | exact wanted_free rfl | rfl) ?_
            apply Exists.intro
            refine ⟨fun X hX => ?_, ?_⟩
            · (obtain ⟨qz, qc, qf⟩ := bcl hX.out (by first | (simp; rfl) | rfl)
               go_simp
               first | done | rfl | exact ⟨rfl, rfl⟩)
            simp only [Act.put, List.setIfInBounds_toArray, List.set_cons_zero, List.set_cons_succ])
         | (refine head_pass (by rfl) ?_
            simp only [Act.put, List.setIfInBounds_toArray, List.set_cons_zero, List.set_cons_succ]))
       refine head_nil ?_
       intro w' hw'
       have hb := hw'.out
       clear hw'
       obtain ⟨hz, hc, hf⟩ := bcl hb (by first | (simp; rfl) | rfl))
      go_wp2
      refine Met.intro ?_
      exact HJ.out _ _ _ _ _ _ _ _ _ _ _ _ _ _ _ _ _ _ _ _ false _ (fun h => absurd h (by simp)) hb
end Go.Proofs.YtehifkdfbiebfaaDoor
namespace Go.Proofs.YtehifkdfbiebfaaDoor
open Go Go.RowKit Go.Shelf

noncomputable def circ_tail_code : Code := at_ [1, 1, 1, 1, 1, 1, 1, 1, 1, 1, 1, 1, 1, 1, 1, 1, 1, 1] ((Tryd.f3.body).getD .skip)
set_option maxRecDepth 100000 in
set_option maxHeartbeats 32000000 in
theorem circ_tail (l : List Rd) (L A' B' q qc bx : Nat) (Aw : Option Addr) (cw : Nat) (wy : Nat → Nat → Int) (vv : Nat → Int) (sc : Int) (w0 : World) (s0 s1 s2 s5 s6 s7 s8 s9 s10 s12 s15 s17 s18 s19 s20 s21 s22 s23 s24 s25 s26 s27 s28 s29 s30 s31 s32 s33 s34 s35 s36 s37 s39 s44 s45 s46 s47 s48 s49 s50 s51 s52 s53 s54 s55 s56 s57 s58 s59 s60 s61 s62 s63 s64 s65 s66 s67 s68 s69 s70 s71 s72 s73 s74 s75 s76 s77 s78 s79 s80 s81 s82 s83 s84 s85 s86 s87 s88 s89 s90 s91 s92 s93 s94 s95 s96 s97 s98 s99 s100 s101 s102 s103 s104 s105 s106 s107 s108 s109 s110 s111 s112 s113 s114 s115 s116 s117 s118 s119 s120 s121 s122 s123 s124 s125 s126 s127 s128 s129 s130 s131 s132 s133 s134 s135 s136 s137 s138 s139 s140 s141 s142 s143 s144 s145 s146 s147 s148 s149 s150 s151 s152 s153 s154 s155 s156 s157 s158 s159 s160 s161 s162 s163 s164 s165 s166 s167 s168 s169 s170 s171 s172 s173 s174 s175 s176 s177 s178 s179 s180 s181 s182 s183 s184 s185 s186 s187 s188 s189 s190 s191 s192 s193 s194 s195 s196 s197 s198 s199 s200 s201 s202 s203 s204 s205 s206 s207 s208 s209 s210 s211 s212 s213 s214 s215 s216 s217 s218 s219 s220 s221 s222 s223 s224 s225 s226 s227 s228 s229 s230 s231 s232 s233 s234 s235 s236 s237 s238 s239 s240 s241 s242 s243 s244 s245 s246 s247 s248 s249 s250 s251 s252 s253 s254 s255 s256 s257 s258 s259 s260 s261 s262 s263 s264 s265 s266 s267 s268 s269 s270 s271 s272 s273 s274 s275 s276 s277 s278 s279 s280 s281 s282 s283 s284 s285 s286 s287 s288 s289 s290 s291 s292 s293 s294 s295 s296 s297 s298 s299 s300 s301 s302 s303 s304 s305 s306 s307 s308 s309 s310 s311 s312 s313 s314 s315 s316 s317 s318 s319 s320 s321 s322 s323 s324 s325 s326 s327 s328 s329 s330 s331 s332 s333 s334 s335 s336 s337 s338 s339 s340 s341 s342 s343 s344 s345 s346 s347 s348 s349 s350 s351 s352 s353 s354 s355 s356 s357 s358 s359 s360 s361 s362 s363 s364 s365 s366 s367 s368 s369 s370 s371 s372 s373 s374 s375 s376 s377 s378 s379 s380 s381 s382 s383 s384 : Value) (W : World) (hL : L ≤ 12) (hA : A' ≤ L) (hB : B' ≤ L) (hln : l.length = L + 1) (hRk : RdOk (L + 1) l) (hF : (∃ p, Feas l p) ↔ sc = 0) (hP : ∀ c, ChainOk (L + 1) l c → ∃ k, k < c.length ∧ (c.getD k 0 = (L : Int) + 1 ∨ c.getD k 0 = -((L : Int) + 1))) (hS : (∀ i, i < 6 → vv i = wy B' i - wy A' i) → sc = 0) (hb0 : Below w0.heap.size w0 W) (hr : Rds W W.heap.size (some ⟨q, 0, none⟩) l) (hw : VecsR W W.heap.size Aw (L + 1) wy) (hwb : ∀ j i, j ≤ L → i < 6 → -48 ≤ wy j i ∧ wy j i ≤ 48) (hx : Blk W bx 27 #[.int .i64 (vv 0), .int .i64 (vv 1), .int .i64 (vv 2), .int .i64 (vv 3), .int .i64 (vv 4), .int .i64 (vv 5)]) : Code.wp Tryd.prog circ_tail_code (bodyPost Tryd.prog Tryd.f3 (Ret (.bool true) w0)) ⟨#[s0, s1, s2, .int .i64 (A' : Int), .int .i64 (B' : Int), s5, s6, s7, s8, s9, s10, .pointer (some ⟨bx, 0, none⟩), s12, .bool true, .int .i64 ((L : Int) + 1), s15, .slice Aw (L + 1) cw, s17, s18, s19, s20, s21, s22, s23, s24, s25, s26, s27, s28, s29, s30, s31, s32, s33, s34, s35, s36, s37, .int .i64 0, s39, .bool true, .int .i64 sc, .int .i64 0, .slice (some ⟨q, 0, none⟩) (L + 1) qc, s44, s45, s46, s47, s48, s49, s50, s51, s52, s53, s54, s55, s56, s57, s58, s59, s60, s61, s62, s63, s64, s65, s66, s67, s68, s69, s70, s71, s72, s73, s74, s75, s76, s77, s78, s79, s80, s81, s82, s83, s84, s85, s86, s87, s88, s89, s90, s91, s92, s93, s94, s95, s96, s97, s98, s99, s100, s101, s102, s103, s104, s105, s106, s107, s108, s109, s110, s111, s112, s113, s114, s115, s116, s117, s118, s119, s120, s121, s122, s123, s124, s125, s126, s127, s128, s129, s130, s131, s132, s133, s134, s135, s136, s137, s138, s139, s140, s141, s142, s143, s144, s145, s146, s147, s148, s149, s150, s151, s152, s153, s154, s155, s156, s157, s158, s159, s160, s161, s162, s163, s164, s165, s166, s167, s168, s169, s170, s171, s172, s173, s174, s175, s176, s177, s178, s179, s180, s181, s182, s183, s184, s185, s186, s187, s188, s189, s190, s191, s192, s193, s194, s195, s196, s197, s198, s199, s200, s201, s202, s203, s204, s205, s206, s207, s208, s209, s210, s211, s212, s213, s214, s215, s216, s217, s218, s219, s220, s221, s222, s223, s224, s225, s226, s227, s228, s229, s230, s231, s232, s233, s234, s235, s236, s237, s238, s239, s240, s241, s242, s243, s244, s245, s246, s247, s248, s249, s250, s251, s252, s253, s254, s255, s256, s257, s258, s259, s260, s261, s262, s263, s264, s265, s266, s267, s268, s269, s270, s271, s272, s273, s274, s275, s276, s277, s278, s279, s280, s281, s282, s283, s284, s285, s286, s287, s288, s289, s290, s291, s292, s293, s294, s295, s296, s297, s298, s299, s300, s301, s302, s303, s304, s305, s306, s307, s308, s309, s310, s311, s312, s313, s314, s315, s316, s317, s318, s319, s320, s321, s322, s323, s324, s325, s326, s327, s328, s329, s330, s331, s332, s333, s334, s335, s336, s337, s338, s339, s340, s341, s342, s343, s344, s345, s346, s347, s348, s349, s350, s351, s352, s353, s354, s355, s356, s357, s358, s359, s360, s361, s362, s363, s364, s365, s366, s367, s368, s369, s370, s371, s372, s373, s374, s375, s376, s377, s378, s379, s380, s381, s382, s383, s384], []⟩ W := by
  conv => arg 2; whnf
  have HR := Lib.hid hr
  have HW := Lib.hid hw
  have HX := Lib.hid hx
  have HB0 := Lib.hid hb0
  have HK := Lib.hid hRk
  have HF := Lib.hid hF
  have HP := Lib.hid hP
  have HS := Lib.hid hS
  have HWb := Lib.hid hwb
  have eL : ((L + 1 : Nat) : Int) = (L : Int) + 1 := by omega
  have hSo := fun (h : sc = 0) => Solve_ok hRk (hF.2 h) (some ⟨q, 0, none⟩) qc W hr
  have hSl := fun (h : sc ≠ 0) => Solve_lie hRk (fun p hp => h (hF.1 ⟨p, hp⟩)) (some ⟨q, 0, none⟩) qc W hr
  rw [hln, eL] at hSo hSl
  have hSv : Calls Tryd.prog 11 #[.int .i64 ((L : Int) + 1), .slice (some ⟨q, 0, none⟩) (L + 1) qc] W (fun e w' => Below W.heap.size W w' ∧ ∃ (Ax : Option Addr) (Nx cx : Nat) (Ac : Option Addr) (c : List Int) (cc : Nat) (f : Int), e = .returned (.tuple #[.slice Ax Nx cx, .slice Ac c.length cc, .int .i64 f]) ∧ ((f = 0 ∧ sc = 0) ∨ (f = 23 ∧ sc ≠ 0 ∧ ChainOk (L + 1) l c ∧ IntsR w' w'.heap.size Ac c))) := by
    by_cases h : sc = 0
    · refine (hSo h).mono ?_
      rintro e w' ⟨hb, x, rfl⟩
      exact ⟨hb, _, _, _, none, [], 0, 0, rfl, Or.inl ⟨rfl, h⟩⟩
    · refine (hSl h).mono ?_
      rintro e w' ⟨hb, c, A, cap, hc, rfl, hi⟩
      exact ⟨hb, none, 0, 0, A, c, cap, 23, rfl, Or.inr ⟨rfl, h, hc, hi⟩⟩
  have HSv := Lib.hid hSv
  clear hr hw hx hb0 hRk hF hP hS hwb hSo hSl hSv
  go_wp2_with fail
  (with_reducible refine HSv.out.mono ?_)
  rintro e W1 ⟨hb1, Ax, Nx, cx, Ac, c, cc, f, rfl, hfc⟩
  have HB1 := Lib.hid hb1
  have HFc := Lib.hid hfc
  clear hb1 hfc HSv
  simp only
  go_upto_region 42 with fail
  go_cut [311] from 287 to 311 (fun u X => u = .bool false ∧ X = W1)
  case first =>
    rcases HFc.out with ⟨h1, h2⟩ | ⟨h1, h2, _⟩
    · have q1 : (f == 0) = true := by rw [h1]; rfl
      have q2 : (f != 0) = false := by rw [h1]; rfl
      have q3 : (sc == 0) = true := by rw [h2]; rfl
      clear h1 h2
      go_wp2
      go_meet
      case rel => exact ⟨rfl, rfl⟩
    · have q1 : (f == 0) = false := by rw [h1]; rfl
      have q2 : (f != 0) = true := by rw [h1]; rfl
      have q3 : (sc == 0) = false := by rw [beq_eq_false_iff_ne]; exact h2
      have q4 : (f != 23) = false := by rw [h1]; rfl
      clear h1 h2
      go_wp2
      go_meet
      case rel => exact ⟨rfl, rfl⟩
  case rest =>
  obtain ⟨rfl, hw⟩ := hcut
  rw [hw]
  clear hw
  go_wp2
  go_loopw [47, 48] (fun s i wr => ∃ (j : Nat) (st : Bool), j ≤ 6 ∧ s = .bool st ∧ i = .int .i64 (j : Int) ∧ Hid (Below W1.heap.size W1 wr) ∧ Hid (st = true → ∀ i, i < j → vv i = wy B' i - wy A' i)) (fun _ i _ => 6 - (intOf i).toNat)
  case atStart => exact ⟨0, true, by omega, rfl, rfl, Lib.hid (bl_refl _), Lib.hid (fun _ i hi => by omega)⟩
  case round =>
    obtain ⟨j, st, hj, rfl, rfl, HB, HSt⟩ := hrel
    by_cases hlt : j < 6
    · skip
      have hji : (j : Int) < 6 := by omega
      have wj : IntKind.i64.wrap ((j : Int) + 1) = (j : Int) + 1 := by rw [IntKind.wrap_i64]; omega
      have hB2 := bl_trans HB1.out HB.out
      have hx := HX.out.below hB2 HX.out.lt
      have hx1 : wr.cell? ⟨bx, j, none⟩ = some (.int .i64 (vv j)) := by
        rw [hx.cell j]
        rcases lt6 hlt with rfl | rfl | rfl | rfl | rfl | rfl <;> rfl
      obtain ⟨bw, ow, rfl, hbw, hcw⟩ := HW.out (by omega)
      have c1 := (hB2.cell (p := ⟨bw, ow + B' * 6 + j, none⟩) hbw).trans (hcw B' (by omega) j hlt)
      have c2 := (hB2.cell (p := ⟨bw, ow + A' * 6 + j, none⟩) hbw).trans (hcw A' (by omega) j hlt)
      have zw : bw < wr.heap.size := by have := hB2.size; omega
      have wv : IntKind.i64.wrap (wy B' j - wy A' j) = wy B' j - wy A' j := by
        have := HWb.out B' j hB hlt
        have := HWb.out A' j hA hlt
        rw [IntKind.wrap_i64]
        omega
      have HZ := Lib.hid (And.intro (And.intro hx.lt zw) (And.intro hx1 (And.intro (And.intro c1 c2) wv)))
      clear hB2 hx hx1 hcw c1 c2 zw wv
      go_upto_block 5 with fail
      refine same_p (vv j) (wy B' j) (wy A' j) st j bx bw ow (L + 1) cw A' B' _ _ _ _ _ _ _ _ _ _ _ _ _ _ _ _ _ _ _ _ _ _ _ _ _ _ _ _ _ _ _ _ _ _ _ _ _ _ _ _ _ _ _ _ _ _ _ _ _ _ _ _ _ _ _ _ _ _ _ _ _ _ _ _ _ _ _ _ _ _ _ _ _ _ _ _ _ _ _ _ _ _ _ _ _ _ _ _ _ _ _ _ _ _ _ _ _ _ _ _ _ _ _ _ _ _ _ _ _ _ _ _ _ _ _ _ _ _ _ _ _ _ _ _ _ _ _ _ _ _ _ _ _ _ _ _ _ _ _ _ _ _ _ _ _ _ _ _ _ _ _ _ _ _ _ _ _ _ _ _ _ _ _ _ _ _ _ _ _ _ _ _ _ _ _ _ _ _ _ _ _ _ _ _ _ _ _ _ _ _ _ _ _ _ _ _ _ _ _ _ _ _ _ _ _ _ _ _ _ _ _ _ _ _ _ _ _ _ _ _ _ _ _ _ _ _ _ _ _ _ _ _ _ _ _ _ _ _ _ _ _ _ _ _ _ _ _ _ _ _ _ _ _ _ _ _ _ _ _ _ _ _ _ _ _ _ _ _ _ _ _ _ _ _ _ _ _ _ _ _ _ _ _ _ _ _ _ _ _ _ _ _ _ _ _ _ _ _ _ _ _ _ _ _ _ _ _ _ _ _ _ _ _ _ _ _ _ _ _ _ _ _ _ _ _ _ _ _ _ _ _ _ _ _ _ _ _ _ _ _ _ _ _ _ _ _ _ _ _ _ _ _ _ _ _ _ _ _ _ _ _ _ _ _ _ _ _ _ _ _ _ _ _ _ _ _ _ _ _ _ hlt HZ.out.1.1 HZ.out.1.2 (by omega) (by omega) (by omega) HZ.out.2.1 HZ.out.2.2.1.1 HZ.out.2.2.1.2 HZ.out.2.2.2 (by repeat (first | (with_reducible refine panic_then ?_) | (with_reducible refine panic_block ?_) | (with_reducible exact panic_body) | exact panic_body | refine panic_then ?_ | refine panic_block ?_)) (fun u316 u317 u318 u319 u320 u321 u322 u323 u324 u325 u326 u327 u328 u329 u330 u331 u332 u333 u334 u335 s W' hs hb => ?_) (fun _ _ h => h)
      have HB3 := Lib.hid (bl_trans HB.out hb)
      have HS3 := Lib.hid hs
      clear hb hs HZ HB
      go_wp2
      go_roundw
      case rel =>
        refine ⟨j + 1, s, by omega, rfl, by go_num, HB3, Lib.hid (fun h i hi => ?_)⟩
        obtain ⟨h1, h2⟩ := HS3.out h
        by_cases e : i = j
        · rw [e]; exact h2
        · exact HSt.out h1 i (by omega)
      case measure => simp [intOf]; omega
    · obtain rfl : j = 6 := by omega
      have HB2 := Lib.hid (bl_trans HB1.out HB.out)
      have HB3 := Lib.hid (bl_trans HB0.out HB2.out)
      rcases HFc.out with ⟨h1, h2⟩ | ⟨h1, h2, hch, hin⟩
      · have q1 : (f == 0) = true := by rw [h1]; rfl
        clear h1 h2 HB HFc
        go_wp2
        go_ret
        exact ⟨rfl, HB3.out⟩
      have q1 : (f == 0) = false := by rw [h1]; rfl
      obtain rfl : st = false := by
        cases st with
        | false => rfl
        | true => exact absurd (HS.out (HSt.out rfl)) h2
      have q2 : (f == 23) = true := by rw [h1]; rfl
      clear h1
      obtain ⟨kp, hkp, hkv⟩ := HP.out c hch
      have HKp := Lib.hid hkv
      have hlc := hch.len
      have HCh := Lib.hid hch
      have HIn := Lib.hid hin
      have HRf := Refutes_c HK.out hch (some ⟨q, 0, none⟩) qc Ac cc
      rw [hln, eL] at HRf
      have HRF := Lib.hid (fun X (hX : Below wr.heap.size wr X) => HRf X ((HR.out.up HB2.out).up hX) (((hin.up HB.out).up hX)))
      have HC := Lib.hid (fun k (hk : k < c.length) X (hX : Below wr.heap.size wr X) => show ∃ ab ao, Ac = some ⟨ab, ao, none⟩ ∧ ab < X.heap.size ∧ X.cell? ⟨ab, ao + k, none⟩ = some (.int .i64 (c.getD k 0)) from by
        obtain ⟨ab, ao, e, hlt, hc⟩ := (hin.up HB.out).up hX (by omega)
        exact ⟨ab, ao, e, hlt, hc k _ (by rw [List.getD_eq_getElem?_getD, List.getElem?_eq_getElem hk]; rfl)⟩)
      have wn : IntKind.i64.wrap (-((L : Int) + 1)) = -((L : Int) + 1) := by rw [IntKind.wrap_i64]; omega
      obtain ⟨Wz, hWz⟩ : ∃ x : World, x = wr := ⟨_, rfl⟩
      rw [← hWz] at HB2 HB3 HRF HC ⊢
      clear hch hkv HFc HIn HRf HB HSt HB2 hWz hin
      go_wp2
      go_loopw [49, 50] (fun p i wr => ∃ (j : Nat) (pt : Bool), j ≤ c.length ∧ p = .bool pt ∧ i = .int .i64 (j : Int) ∧ Hid (Below Wz.heap.size Wz wr) ∧ Hid (kp < j → pt = true)) (fun _ i _ => c.length - (intOf i).toNat)
      case atStart => exact ⟨0, false, by omega, rfl, rfl, Lib.hid (bl_refl _), Lib.hid (fun h => by omega)⟩
      case round =>
        obtain ⟨j, pt, hj, rfl, rfl, HB, HPt⟩ := hrel
        by_cases hlt : j < c.length
        · skip
          have hji : (j : Int) < (c.length : Int) := by omega
          have wj : IntKind.i64.wrap ((j : Int) + 1) = (j : Int) + 1 := by rw [IntKind.wrap_i64]; omega
          cases pt with
          | true =>
            go_wp2
            go_roundw
            case rel => exact ⟨j + 1, true, by omega, rfl, by go_num, HB, Lib.hid (fun _ => rfl)⟩
            case measure => simp [intOf]; omega
          | false =>
            obtain ⟨ab, ao, rfl, hz, hc⟩ := HC.out j hlt _ HB.out
            have HKj : Hid (j = kp → c.getD j 0 = (L : Int) + 1 ∨ c.getD j 0 = -((L : Int) + 1)) := Lib.hid (fun e => by rw [e]; exact HKp.out)
            generalize c.getD j 0 = ck at *
            by_cases h1 : ck = (L : Int) + 1
            · have q3 : (ck == (L : Int) + 1) = true := by rw [h1]; simp
              go_wp2
              go_roundw
              case rel => exact ⟨j + 1, true, by omega, rfl, by go_num, HB, Lib.hid (fun _ => rfl)⟩
              case measure => simp [intOf]; omega
            · have q3 : (ck == (L : Int) + 1) = false := by rw [beq_eq_false_iff_ne]; exact h1
              by_cases h2 : ck = -((L : Int) + 1)
              · have q4 : (ck == -((L : Int) + 1)) = true := by rw [h2]; simp
                clear h1 h2
                go_wp2
                go_roundw
                case rel => exact ⟨j + 1, true, by omega, rfl, by go_num, HB, Lib.hid (fun _ => rfl)⟩
                case measure => simp [intOf]; omega
              · have q4 : (ck == -((L : Int) + 1)) = false := by rw [beq_eq_false_iff_ne]; exact h2
                have hjk : j ≠ kp := fun e => (HKj.out e).elim h1 h2
                clear h1 h2
                go_wp2
                go_roundw
                case rel => exact ⟨j + 1, false, by omega, rfl, by go_num, HB, Lib.hid (fun h => by have := HPt.out (by omega); exact this)⟩
                case measure => simp [intOf]; omega
        · obtain rfl : j = c.length := by omega
          obtain rfl : pt = true := HPt.out hkp
          go_wp2_with fail
          (with_reducible refine (HRF.out _ HB.out).mono ?_)
          rintro e W9 ⟨rfl, hb9⟩
          have HB9 := Lib.hid (bl_trans (bl_trans HB3.out HB.out) hb9)
          clear hb9
          simp only
          go_wp2
          go_ret
          exact ⟨rfl, HB9.out⟩
end Go.Proofs.YtehifkdfbiebfaaDoor
