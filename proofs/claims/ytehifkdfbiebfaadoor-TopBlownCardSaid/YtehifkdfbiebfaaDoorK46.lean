/- TopBlown: the gap of the best blow; one round over the list. -/
import Derived.Test.YtehifkdfbiebfaaDoorK42
import Derived.Test.YtehifkdfbiebfaaDoorK44
namespace Go.Proofs.YtehifkdfbiebfaaDoor
open Go Go.RowKit

theorem gp_bd (a b : Nat → Int) : (-2400000000000000000 ≤ gpL a b ∧ gpL a b ≤ 2400000000000000000) ∧ (-2400000000000000000 ≤ gpH a b ∧ gpH a b ≤ 2400000000000000000) := by
  unfold gpL gpH
  cases hg : gpG a b
  · simp
  · have h2 := hg
    unfold gpG at h2
    rw [Bool.and_eq_true] at h2
    have ha := pV_six (f := a) h2.1
    have hb := pV_six (f := b) h2.2
    have h := sz_bd (g := dfF a b) (fun k hk => by
      have := ha k hk
      have := hb k hk
      unfold dfF
      omega) 6 (Nat.le_refl _)
    rw [if_pos rfl, if_pos rfl]
    omega
/-- A blow of a horn whose sound is a pitch. -/
theorem sdV_ok {bs : Nat → Int} {n : Nat} {g : Nat → Nat → Int} {M : Nat} {tl : Int} {m : Nat} (hv : hvV (bs 0) (bs 1) (bs 2) (bs 3) (bs 4) (bs 5) n g (M : Int) tl = true) (hm : m < M * 2 ^ n) (hp : pV6 (sndF bs g n m) 576 = true) :
    sdV bs n g (M : Int) tl (blwX n m : Int) (blwS n m : Int) = .tuple #[.agg #[.int .i64 (sndF bs g n m 0), .int .i64 (sndF bs g n m 1), .int .i64 (sndF bs g n m 2), .int .i64 (sndF bs g n m 3), .int .i64 (sndF bs g n m 4), .int .i64 (sndF bs g n m 5)], .int .i64 0] := by
  obtain ⟨_, hn4, _, hm2, _, _⟩ := hvG_of (hv_valve hv).1
  have hb := blw_bd hn4 (by omega) hm
  have hlt : blwS n m < 2 ^ n := Nat.mod_lt _ (Nat.pow_pos (by omega))
  have hin : inB n (M : Int) (blwX n m : Int) (blwS n m : Int) = true := by
    unfold inB
    simp only [Bool.and_eq_true, decide_eq_true_eq]
    omega
  have hE : sdE bs n g (M : Int) tl (blwX n m : Int) (blwS n m : Int) = 0 := by
    unfold sdE
    rw [hv, hin]
    simp only [Bool.and_self, if_true, Int.toNat_natCast]
    exact if_pos hp
  have hY : ∀ i, sdY bs n g (M : Int) tl (blwX n m : Int) (blwS n m : Int) i = sndF bs g n m i := fun i => by
    unfold sdY
    rw [if_pos hE]
    rfl
  unfold sdV cell6
  rw [hE, hY, hY, hY, hY, hY, hY]
noncomputable def best_p_code : Code := at_ [1, 1, 1, 1, 1, 1, 1, 1, 1, 1, 0, 1] ((Tryd.f5.body).getD .skip)
set_option maxRecDepth 100000 in
set_option maxHeartbeats 32000000 in
theorem best_p (bs : Nat → Int) (A : Option Addr) (n cap : Nat) (g : Nat → Nat → Int) (M : Nat) (tl : Int) (a : Nat → Int) (m hp' ap bp : Nat) (s0 s1 s2 s3 s4 s6 s7 s8 s9 s10 s11 s12 s13 s14 s15 s16 s17 s18 s19 s20 s21 s22 s23 s24 s25 s26 s27 s28 s30 s32 s33 s34 s35 s36 s37 s38 s39 s40 s41 s42 s43 s44 s45 s46 s47 s48 s49 s50 s51 s52 s53 s54 s55 s56 s57 s58 s59 s60 s61 s62 s63 s64 s65 s66 s67 s68 s69 s70 s71 s72 s73 s74 s75 s76 s77 s78 s79 s80 s81 s82 s83 s84 s85 s86 s87 s88 s89 s90 s91 s92 s93 s94 s95 s96 s97 s98 s99 s100 s101 s102 s103 s104 s105 s106 s107 s108 s109 s110 s111 s112 s113 s114 s115 s116 s117 s118 s119 s120 s121 s122 s123 s124 s125 s126 s127 s128 s129 s130 s131 s132 s133 s134 s135 s136 s137 s138 s139 s140 s141 s142 s143 s144 s145 s146 s147 s148 s149 s150 s151 s152 s153 s154 s155 s156 s157 s158 s159 s160 s161 s162 s163 s164 s165 s167 s168 s169 s170 s171 s172 s173 s174 s175 s176 s177 s178 s179 s180 s181 s182 s183 s184 s185 s186 s187 s188 s189 s190 s191 s192 s193 s194 s195 s196 s197 s198 s199 s200 s201 s202 s203 s204 s205 s206 s207 s208 s209 s210 s211 s212 s213 s214 s215 s216 s217 s218 s219 s220 s221 s222 s223 s224 s225 s226 s227 s228 s229 s230 s231 s232 s233 s234 s235 s236 s237 s238 : Value) (W : World) (hP : PR W) (hQ : BP W) (hL : LG W) (hv : VecsR W W.heap.size A n g) (hn : n ≤ 9223372036854775807) (hval : hvV (bs 0) (bs 1) (bs 2) (bs 3) (bs 4) (bs 5) n g (M : Int) tl = true) (hm : m < M * 2 ^ n) (hp : pV6 (sndF bs g n m) 576 = true) (ha : pV6 a 576 = true) (hH : Blk W hp' 75 #[.int .i64 (bs 0), .int .i64 (bs 1), .int .i64 (bs 2), .int .i64 (bs 3), .int .i64 (bs 4), .int .i64 (bs 5), .slice A n cap, .int .i64 (M : Int), .int .i64 tl]) (hA : Blk W ap 72 (cell6 a)) (hB : Blk W bp 79 #[.int .i64 (blwX n m : Int), .int .i64 (blwS n m : Int)]) {J K : Act → World → Prop} {Q' : Exit → Act → World → Prop} (hJ : ∀ (u34 u35 u36 u37 u167 u168 u169 u170 u171 u172 u173 u174 u175 u176 u177 u178 u179 u180 u181 u182 u183 u184 u185 u186 u187 u188 u189 : Value)  (W' : World), Below W.heap.size W W' → J ⟨#[s0, s1, s2, s3, s4, .pointer (some ⟨hp', 0, none⟩), s6, s7, s8, s9, s10, s11, s12, s13, s14, s15, s16, s17, s18, s19, s20, s21, s22, s23, s24, s25, s26, s27, s28, .pointer (some ⟨ap, 0, none⟩), s30, .pointer (some ⟨bp, 0, none⟩), s32, .int .i64 (farA (gpL a (sndF bs g n m)) (gpH a (sndF bs g n m))), u34, u35, u36, u37, s38, s39, s40, s41, s42, s43, s44, s45, s46, s47, s48, s49, s50, s51, s52, s53, s54, s55, s56, s57, s58, s59, s60, s61, s62, s63, s64, s65, s66, s67, s68, s69, s70, s71, s72, s73, s74, s75, s76, s77, s78, s79, s80, s81, s82, s83, s84, s85, s86, s87, s88, s89, s90, s91, s92, s93, s94, s95, s96, s97, s98, s99, s100, s101, s102, s103, s104, s105, s106, s107, s108, s109, s110, s111, s112, s113, s114, s115, s116, s117, s118, s119, s120, s121, s122, s123, s124, s125, s126, s127, s128, s129, s130, s131, s132, s133, s134, s135, s136, s137, s138, s139, s140, s141, s142, s143, s144, s145, s146, s147, s148, s149, s150, s151, s152, s153, s154, s155, s156, s157, s158, s159, s160, s161, s162, s163, s164, s165, .bool true, u167, u168, u169, u170, u171, u172, u173, u174, u175, u176, u177, u178, u179, u180, u181, u182, u183, u184, u185, u186, u187, u188, u189, s190, s191, s192, s193, s194, s195, s196, s197, s198, s199, s200, s201, s202, s203, s204, s205, s206, s207, s208, s209, s210, s211, s212, s213, s214, s215, s216, s217, s218, s219, s220, s221, s222, s223, s224, s225, s226, s227, s228, s229, s230, s231, s232, s233, s234, s235, s236, s237, s238], []⟩ W') (hK : ∀ a' w', Met J a' w' → K a' w') : Code.wp Tryd.prog best_p_code (Exit.then K Q') ⟨#[s0, s1, s2, s3, s4, .pointer (some ⟨hp', 0, none⟩), s6, s7, s8, s9, s10, s11, s12, s13, s14, s15, s16, s17, s18, s19, s20, s21, s22, s23, s24, s25, s26, s27, s28, .pointer (some ⟨ap, 0, none⟩), s30, .pointer (some ⟨bp, 0, none⟩), s32, s33, s34, s35, s36, s37, s38, s39, s40, s41, s42, s43, s44, s45, s46, s47, s48, s49, s50, s51, s52, s53, s54, s55, s56, s57, s58, s59, s60, s61, s62, s63, s64, s65, s66, s67, s68, s69, s70, s71, s72, s73, s74, s75, s76, s77, s78, s79, s80, s81, s82, s83, s84, s85, s86, s87, s88, s89, s90, s91, s92, s93, s94, s95, s96, s97, s98, s99, s100, s101, s102, s103, s104, s105, s106, s107, s108, s109, s110, s111, s112, s113, s114, s115, s116, s117, s118, s119, s120, s121, s122, s123, s124, s125, s126, s127, s128, s129, s130, s131, s132, s133, s134, s135, s136, s137, s138, s139, s140, s141, s142, s143, s144, s145, s146, s147, s148, s149, s150, s151, s152, s153, s154, s155, s156, s157, s158, s159, s160, s161, s162, s163, s164, s165, .bool true, s167, s168, s169, s170, s171, s172, s173, s174, s175, s176, s177, s178, s179, s180, s181, s182, s183, s184, s185, s186, s187, s188, s189, s190, s191, s192, s193, s194, s195, s196, s197, s198, s199, s200, s201, s202, s203, s204, s205, s206, s207, s208, s209, s210, s211, s212, s213, s214, s215, s216, s217, s218, s219, s220, s221, s222, s223, s224, s225, s226, s227, s228, s229, s230, s231, s232, s233, s234, s235, s236, s237, s238], []⟩ W := by
  conv => arg 2; whnf
  have HSd : Hid (∀ X, Below W.heap.size W X → Calls Tryd.prog 27 #[.agg #[.int .i64 (bs 0), .int .i64 (bs 1), .int .i64 (bs 2), .int .i64 (bs 3), .int .i64 (bs 4), .int .i64 (bs 5), .slice A n cap, .int .i64 (M : Int), .int .i64 tl], .agg #[.int .i64 (blwX n m : Int), .int .i64 (blwS n m : Int)]] X (Ret (.tuple #[.agg #[.int .i64 (sndF bs g n m 0), .int .i64 (sndF bs g n m 1), .int .i64 (sndF bs g n m 2), .int .i64 (sndF bs g n m 3), .int .i64 (sndF bs g n m 4), .int .i64 (sndF bs g n m 5)], .int .i64 0]) X)) := Lib.hid (fun X hX => by
    have h := Sound_c bs A n cap g (M : Int) tl (blwX n m : Int) (blwS n m : Int) X (hv.up hX) (hP.up hX) (hQ.up hX) hn
    rw [sdV_ok hval hm hp] at h
    exact h)
  have hG : gpG a (sndF bs g n m) = true := by unfold gpG; rw [ha, hp]; rfl
  have HGp : Hid (∀ X, Below W.heap.size W X → Calls Tryd.prog 37 #[.agg #[.int .i64 (a 0), .int .i64 (a 1), .int .i64 (a 2), .int .i64 (a 3), .int .i64 (a 4), .int .i64 (a 5)], .agg #[.int .i64 (sndF bs g n m 0), .int .i64 (sndF bs g n m 1), .int .i64 (sndF bs g n m 2), .int .i64 (sndF bs g n m 3), .int .i64 (sndF bs g n m 4), .int .i64 (sndF bs g n m 5)]] X (Ret (.tuple #[.agg #[.int .i64 (gpL a (sndF bs g n m)), .int .i64 (gpH a (sndF bs g n m))], .int .i64 0]) X)) := Lib.hid (fun X hX => by
    have h := Gap_c a (sndF bs g n m) X (hL.up hX)
    unfold gpV at h
    rw [show gpE a (sndF bs g n m) = 0 from if_pos hG] at h
    exact h)
  obtain ⟨⟨b1, b2⟩, b3, b4⟩ := gp_bd a (sndF bs g n m)
  have HFa := Lib.hid (fun w => far_c (gpL a (sndF bs g n m)) (gpH a (sndF bs g n m)) w (by omega) (by omega) (by omega) (by omega))
  have HJ := Lib.hid hJ
  unfold cell6 at hA
  clear hP hQ hL hv hval hm hp ha hG b1 b2 b3 b4 hJ
  generalize farA (gpL a (sndF bs g n m)) (gpH a (sndF bs g n m)) = fa at *
  generalize farB (gpL a (sndF bs g n m)) (gpH a (sndF bs g n m)) = fb at *
  generalize gpL a (sndF bs g n m) = gl at *
  generalize gpH a (sndF bs g n m) = gh at *
  generalize sndF bs g n m 0 = y0 at *
  generalize sndF bs g n m 1 = y1 at *
  generalize sndF bs g n m 2 = y2 at *
  generalize sndF bs g n m 3 = y3 at *
  generalize sndF bs g n m 4 = y4 at *
  generalize sndF bs g n m 5 = y5 at *
  generalize (blwX n m : Int) = bx at *
  generalize (blwS n m : Int) = bs' at *
  generalize a 0 = t0 at *
  generalize a 1 = t1 at *
  generalize a 2 = t2 at *
  generalize a 3 = t3 at *
  generalize a 4 = t4 at *
  generalize a 5 = t5 at *
  generalize bs 0 = e0 at *
  generalize bs 1 = e1 at *
  generalize bs 2 = e2 at *
  generalize bs 3 = e3 at *
  generalize bs 4 = e4 at *
  generalize bs 5 = e5 at *
  have h_0 := hH.cell 0
  have h_1 := hH.cell 1
  have h_2 := hH.cell 2
  have h_3 := hH.cell 3
  have h_4 := hH.cell 4
  have h_5 := hH.cell 5
  have h_6 := hH.cell 6
  have h_7 := hH.cell 7
  have h_8 := hH.cell 8
  simp only [List.getElem?_toArray, List.getElem?_cons_zero, List.getElem?_cons_succ] at h_0 h_1 h_2 h_3 h_4 h_5 h_6 h_7 h_8
  have zh := hH.lt
  have HA := Lib.hid hA
  have HH := Lib.hid hH
  clear hA hH
  have HB := Lib.hid hB
  clear hB
  have b_0 := HB.out.cell 0
  have b_1 := HB.out.cell 1
  simp only [List.getElem?_toArray, List.getElem?_cons_zero, List.getElem?_cons_succ] at b_0 b_1
  have zb := HB.out.lt
  go_wp2_with fail
  (with_reducible refine (HSd.out _ (bl_refl _)).mono ?_)
  rintro e V1 ⟨rfl, b1⟩
  clear HB HH HSd h_0 h_1 h_2 h_3 h_4 h_5 h_6 h_7 h_8 zh b_0 b_1 zb
  go_upto_region 21 with fail
  refine wp_letter ?_
  intro W2 hW2
  have k2 : Below W.heap.size W W2 := by rw [hW2]; exact bl_alloc b1 _
  have hS2 : Blk W2 V1.heap.size 72 #[.int .i64 y0, .int .i64 y1, .int .i64 y2, .int .i64 y3, .int .i64 y4, .int .i64 y5] := by rw [hW2]; exact Blk.new _ _ _
  have hA2 := HA.out.below k2 HA.out.lt
  clear hW2 b1 HA
  generalize V1.heap.size = sp at *
  have c_0 := hA2.cell 0
  have c_1 := hA2.cell 1
  have c_2 := hA2.cell 2
  have c_3 := hA2.cell 3
  have c_4 := hA2.cell 4
  have c_5 := hA2.cell 5
  simp only [List.getElem?_toArray, List.getElem?_cons_zero, List.getElem?_cons_succ] at c_0 c_1 c_2 c_3 c_4 c_5
  have zc := hA2.lt
  have d_0 := hS2.cell 0
  have d_1 := hS2.cell 1
  have d_2 := hS2.cell 2
  have d_3 := hS2.cell 3
  have d_4 := hS2.cell 4
  have d_5 := hS2.cell 5
  simp only [List.getElem?_toArray, List.getElem?_cons_zero, List.getElem?_cons_succ] at d_0 d_1 d_2 d_3 d_4 d_5
  have zd := hS2.lt
  clear hA2 hS2
  go_wp2_with fail
  (with_reducible refine (HGp.out _ k2).mono ?_)
  rintro e V2 ⟨rfl, b2⟩
  have k2' := bl_trans k2 b2
  clear b2 k2 HGp c_0 c_1 c_2 c_3 c_4 c_5 zc d_0 d_1 d_2 d_3 d_4 d_5 zd
  go_wp2_with fail
  refine calls_letter ?_
  intro W3 hW3
  have k3 : Below W.heap.size W W3 := by rw [hW3]; exact bl_alloc k2' _
  clear hW3 k2'
  generalize V2.heap.size = gp at *
  (with_reducible refine (HFa.out _).mono ?_)
  rintro e V3 ⟨rfl, b3⟩
  have k3' := bl_trans k3 b3
  clear b3 k3 HFa
  go_wp2
  refine Met.intro ?_
  exact HJ.out _ _ _ _ _ _ _ _ _ _ _ _ _ _ _ _ _ _ _ _ _ _ _ _ _ _ _ _ k3'
noncomputable def list_p_code : Code := at_ [1, 1, 1, 1, 1, 1, 1, 1, 1, 1, 1, 0, 1, 0, 0, 1, 0] ((Tryd.f5.body).getD .skip)
set_option maxRecDepth 100000 in
set_option maxHeartbeats 32000000 in
theorem list_p (bs : Nat → Int) (A : Option Addr) (n cap : Nat) (g : Nat → Nat → Int) (M : Nat) (tl : Int) (a : Nat → Int) (m hp' ap lb lo N lc j : Nat) (ge fz : Int) (s0 s1 s2 s3 s4 s6 s7 s8 s9 s10 s11 s12 s13 s14 s15 s16 s17 s18 s19 s20 s21 s22 s23 s24 s25 s26 s27 s28 s31 s34 s35 s36 s37 s39 s40 s41 s42 s43 s44 s45 s46 s47 s48 s49 s50 s51 s52 s53 s54 s55 s56 s57 s58 s59 s60 s61 s62 s63 s64 s65 s66 s67 s68 s69 s70 s71 s72 s73 s74 s75 s76 s77 s78 s79 s80 s81 s82 s83 s84 s85 s86 s87 s88 s89 s90 s91 s92 s93 s94 s95 s96 s97 s98 s99 s100 s101 s102 s103 s104 s105 s106 s107 s108 s109 s110 s111 s112 s113 s114 s115 s116 s117 s118 s119 s120 s121 s122 s123 s124 s125 s126 s127 s128 s129 s130 s131 s132 s133 s134 s135 s136 s137 s138 s139 s140 s141 s142 s143 s144 s145 s146 s147 s148 s149 s150 s151 s152 s153 s154 s155 s156 s157 s158 s159 s160 s161 s162 s163 s164 s165 s166 s167 s168 s169 s170 s171 s172 s173 s174 s175 s176 s177 s178 s179 s180 s181 s182 s183 s184 s185 s186 s187 s188 s189 s190 s191 s192 s193 s194 s195 s196 s197 s198 s199 s200 s201 s202 s203 s204 s205 s206 s207 s208 s209 s210 s211 s212 s213 s214 s215 s216 s217 s218 s219 s220 s221 s222 s223 s224 s225 s226 s227 s228 s229 s230 s231 s232 s233 s234 s235 s236 s237 s238 : Value) (W : World) (hP : PR W) (hQ : BP W) (hL : LG W) (hv : VecsR W W.heap.size A n g) (hn : n ≤ 9223372036854775807) (hval : hvV (bs 0) (bs 1) (bs 2) (bs 3) (bs 4) (bs 5) n g (M : Int) tl = true) (hm : m < M * 2 ^ n) (hp : pV6 (sndF bs g n m) 576 = true) (ha : pV6 a 576 = true) (hH : Blk W hp' 75 #[.int .i64 (bs 0), .int .i64 (bs 1), .int .i64 (bs 2), .int .i64 (bs 3), .int .i64 (bs 4), .int .i64 (bs 5), .slice A n cap, .int .i64 (M : Int), .int .i64 tl]) (hA : Blk W ap 72 (cell6 a)) (hj : j < N) (_ : N ≤ 256) (hl0 : lb < W.heap.size) (lc0 : W.cell? ⟨lb, lo + j * 2, none⟩ = some (.int .i64 (blwX n m : Int))) (lc1 : W.cell? ⟨lb, lo + j * 2 + 1, none⟩ = some (.int .i64 (blwS n m : Int))) (ht1 : 0 ≤ tl) (ht2 : tl ≤ 50000) (hk1 : farB (gpL a (sndF bs g n m)) (gpH a (sndF bs g n m)) ≤ tl * 10000) (hk2 : ge = 0 → fz ≤ farB (gpL a (sndF bs g n m)) (gpH a (sndF bs g n m))) {J K : Act → World → Prop} {Q' : Exit → Act → World → Prop} (hQp : ∀ (c : List PanicEntry) (d : Option Tmp) (v : Value) (a : Act) (w : World), Q' (Exit.panic c) (a.put d v) w → Q' (Exit.panic c) a w) (hJ : ∀ (u39 u40 u41 u42 u43 u44 u196 u197 u198 u199 u200 u201 u202 u203 u204 u205 u206 u207 u208 u209 u210 u211 u212 u213 u214 u215 u216 u217 u218 u219 u220 u221 u222 u223 u224 u225 u226 u227 u228 u229 u230 u231 u232 u233 u234 u235 u236 u237 : Value)  (W' : World), Below W.heap.size W W' → J ⟨#[s0, s1, s2, s3, s4, .pointer (some ⟨hp', 0, none⟩), s6, s7, s8, s9, s10, s11, s12, s13, s14, s15, s16, s17, s18, s19, s20, s21, s22, s23, s24, s25, s26, s27, s28, .pointer (some ⟨ap, 0, none⟩), .slice (some ⟨lb, lo, none⟩) N lc, s31, .int .i64 ge, .int .i64 fz, s34, s35, s36, s37, .int .i64 (j : Int), u39, u40, u41, u42, u43, u44, s45, s46, s47, s48, s49, s50, s51, s52, s53, s54, s55, s56, s57, s58, s59, s60, s61, s62, s63, s64, s65, s66, s67, s68, s69, s70, s71, s72, s73, s74, s75, s76, s77, s78, s79, s80, s81, s82, s83, s84, s85, s86, s87, s88, s89, s90, s91, s92, s93, s94, s95, s96, s97, s98, s99, s100, s101, s102, s103, s104, s105, s106, s107, s108, s109, s110, s111, s112, s113, s114, s115, s116, s117, s118, s119, s120, s121, s122, s123, s124, s125, s126, s127, s128, s129, s130, s131, s132, s133, s134, s135, s136, s137, s138, s139, s140, s141, s142, s143, s144, s145, s146, s147, s148, s149, s150, s151, s152, s153, s154, s155, s156, s157, s158, s159, s160, s161, s162, s163, s164, s165, s166, s167, s168, s169, s170, s171, s172, s173, s174, s175, s176, s177, s178, s179, s180, s181, s182, s183, s184, s185, s186, s187, s188, s189, s190, s191, s192, s193, s194, s195, u196, u197, u198, u199, u200, u201, u202, u203, u204, u205, u206, u207, u208, u209, u210, u211, u212, u213, u214, u215, u216, u217, u218, u219, u220, u221, u222, u223, u224, u225, u226, u227, u228, u229, u230, u231, u232, u233, u234, u235, u236, u237, s238], []⟩ W') (hK : ∀ a' w', Met J a' w' → K a' w') : Code.wp Tryd.prog list_p_code (Exit.then K Q') ⟨#[s0, s1, s2, s3, s4, .pointer (some ⟨hp', 0, none⟩), s6, s7, s8, s9, s10, s11, s12, s13, s14, s15, s16, s17, s18, s19, s20, s21, s22, s23, s24, s25, s26, s27, s28, .pointer (some ⟨ap, 0, none⟩), .slice (some ⟨lb, lo, none⟩) N lc, s31, .int .i64 ge, .int .i64 fz, s34, s35, s36, s37, .int .i64 (j : Int), s39, s40, s41, s42, s43, s44, s45, s46, s47, s48, s49, s50, s51, s52, s53, s54, s55, s56, s57, s58, s59, s60, s61, s62, s63, s64, s65, s66, s67, s68, s69, s70, s71, s72, s73, s74, s75, s76, s77, s78, s79, s80, s81, s82, s83, s84, s85, s86, s87, s88, s89, s90, s91, s92, s93, s94, s95, s96, s97, s98, s99, s100, s101, s102, s103, s104, s105, s106, s107, s108, s109, s110, s111, s112, s113, s114, s115, s116, s117, s118, s119, s120, s121, s122, s123, s124, s125, s126, s127, s128, s129, s130, s131, s132, s133, s134, s135, s136, s137, s138, s139, s140, s141, s142, s143, s144, s145, s146, s147, s148, s149, s150, s151, s152, s153, s154, s155, s156, s157, s158, s159, s160, s161, s162, s163, s164, s165, s166, s167, s168, s169, s170, s171, s172, s173, s174, s175, s176, s177, s178, s179, s180, s181, s182, s183, s184, s185, s186, s187, s188, s189, s190, s191, s192, s193, s194, s195, s196, s197, s198, s199, s200, s201, s202, s203, s204, s205, s206, s207, s208, s209, s210, s211, s212, s213, s214, s215, s216, s217, s218, s219, s220, s221, s222, s223, s224, s225, s226, s227, s228, s229, s230, s231, s232, s233, s234, s235, s236, s237, s238], []⟩ W := by
  conv => arg 2; whnf
  have HSd : Hid (∀ X, Below W.heap.size W X → Calls Tryd.prog 27 #[.agg #[.int .i64 (bs 0), .int .i64 (bs 1), .int .i64 (bs 2), .int .i64 (bs 3), .int .i64 (bs 4), .int .i64 (bs 5), .slice A n cap, .int .i64 (M : Int), .int .i64 tl], .agg #[.int .i64 (blwX n m : Int), .int .i64 (blwS n m : Int)]] X (Ret (.tuple #[.agg #[.int .i64 (sndF bs g n m 0), .int .i64 (sndF bs g n m 1), .int .i64 (sndF bs g n m 2), .int .i64 (sndF bs g n m 3), .int .i64 (sndF bs g n m 4), .int .i64 (sndF bs g n m 5)], .int .i64 0]) X)) := Lib.hid (fun X hX => by
    have h := Sound_c bs A n cap g (M : Int) tl (blwX n m : Int) (blwS n m : Int) X (hv.up hX) (hP.up hX) (hQ.up hX) hn
    rw [sdV_ok hval hm hp] at h
    exact h)
  have hG : gpG a (sndF bs g n m) = true := by unfold gpG; rw [ha, hp]; rfl
  have HGp : Hid (∀ X, Below W.heap.size W X → Calls Tryd.prog 37 #[.agg #[.int .i64 (a 0), .int .i64 (a 1), .int .i64 (a 2), .int .i64 (a 3), .int .i64 (a 4), .int .i64 (a 5)], .agg #[.int .i64 (sndF bs g n m 0), .int .i64 (sndF bs g n m 1), .int .i64 (sndF bs g n m 2), .int .i64 (sndF bs g n m 3), .int .i64 (sndF bs g n m 4), .int .i64 (sndF bs g n m 5)]] X (Ret (.tuple #[.agg #[.int .i64 (gpL a (sndF bs g n m)), .int .i64 (gpH a (sndF bs g n m))], .int .i64 0]) X)) := Lib.hid (fun X hX => by
    have h := Gap_c a (sndF bs g n m) X (hL.up hX)
    unfold gpV at h
    rw [show gpE a (sndF bs g n m) = 0 from if_pos hG] at h
    exact h)
  obtain ⟨⟨b1, b2⟩, b3, b4⟩ := gp_bd a (sndF bs g n m)
  have HFa := Lib.hid (fun w => far_c (gpL a (sndF bs g n m)) (gpH a (sndF bs g n m)) w (by omega) (by omega) (by omega) (by omega))
  have HJ := Lib.hid hJ
  have HK1 := Lib.hid hk1
  have HK2 := Lib.hid hk2
  unfold cell6 at hA
  clear hP hQ hL hv hval hm hp ha hG b1 b2 b3 b4 hJ hk1 hk2
  generalize farA (gpL a (sndF bs g n m)) (gpH a (sndF bs g n m)) = fa at *
  generalize farB (gpL a (sndF bs g n m)) (gpH a (sndF bs g n m)) = fb at *
  generalize gpL a (sndF bs g n m) = gl at *
  generalize gpH a (sndF bs g n m) = gh at *
  generalize sndF bs g n m 0 = y0 at *
  generalize sndF bs g n m 1 = y1 at *
  generalize sndF bs g n m 2 = y2 at *
  generalize sndF bs g n m 3 = y3 at *
  generalize sndF bs g n m 4 = y4 at *
  generalize sndF bs g n m 5 = y5 at *
  generalize (blwX n m : Int) = bx at *
  generalize (blwS n m : Int) = bs' at *
  generalize a 0 = t0 at *
  generalize a 1 = t1 at *
  generalize a 2 = t2 at *
  generalize a 3 = t3 at *
  generalize a 4 = t4 at *
  generalize a 5 = t5 at *
  generalize bs 0 = e0 at *
  generalize bs 1 = e1 at *
  generalize bs 2 = e2 at *
  generalize bs 3 = e3 at *
  generalize bs 4 = e4 at *
  generalize bs 5 = e5 at *
  have h_0 := hH.cell 0
  have h_1 := hH.cell 1
  have h_2 := hH.cell 2
  have h_3 := hH.cell 3
  have h_4 := hH.cell 4
  have h_5 := hH.cell 5
  have h_6 := hH.cell 6
  have h_7 := hH.cell 7
  have h_8 := hH.cell 8
  simp only [List.getElem?_toArray, List.getElem?_cons_zero, List.getElem?_cons_succ] at h_0 h_1 h_2 h_3 h_4 h_5 h_6 h_7 h_8
  have zh := hH.lt
  have HA := Lib.hid hA
  have HH := Lib.hid hH
  clear hA hH
  have zl : lb < W.heap.size := hl0
  have hji : (j : Int) < (N : Int) := by omega
  go_upto_region 28 with fail
  (refine wp_region_alloc [0,1,2,3,4,5,6,7,8] [8] [10,11] 9 72 #[.int .i64 0, .int .i64 0, .int .i64 0, .int .i64 0, .int .i64 0, .int .i64 0] _ (by kernel_rfl) (by kernel_rfl) (by kernel_rfl) (by rfl) (by repeat (first | (with_reducible assumption) | (with_reducible refine panic_then ?_) | (with_reducible refine panic_block ?_) | (with_reducible exact panic_body) | exact panic_body | refine panic_then ?_ | refine panic_block ?_)) rfl (fun _ _ => by go_simp) ?_
   simp only [pickI, pick, List.getElem?_cons_succ, List.getElem?_cons_zero]
   iterate 9 (first
     | (refine headZ_val (by rfl) (by first | exact wanted_free rfl | rfl) ?_
        apply Exists.intro
        refine ⟨fun X hX => ?_, ?_⟩
        · (obtain ⟨qz, qc, qf⟩ := bcl hX.out (by first | (simp; rfl) | rfl)
           go_simp
           first | done | (go_at_call 27; ((with_reducible refine (HSd.out _ hX.out).mono ?_); rintro e w2 ⟨rfl, hb2⟩; exact ⟨rfl, hb2⟩)) | rfl | exact ⟨rfl, rfl⟩)
        simp only [Act.put, List.setIfInBounds_toArray, List.set_cons_zero, List.set_cons_succ])
     | (refine headZ_pure (by rfl) (by first | exact wanted_free rfl | rfl) ?_
        apply Exists.intro
        refine ⟨fun X => ?_, ?_⟩
        · (go_simp
           first | done | rfl)
        simp only [Act.put, List.setIfInBounds_toArray, List.set_cons_zero, List.set_cons_succ])
     | (refine headZ_pass (by rfl) ?_
        simp only [Act.put, List.setIfInBounds_toArray, List.set_cons_zero, List.set_cons_succ]))
   refine headZ_nil ?_
   intro w' Bq hw' hBq hBk
   have hb := hw'.out
   clear hw'
   try simp only [List.setIfInBounds_toArray, List.set_cons_zero, List.set_cons_succ]
   obtain ⟨hz, hc, hf⟩ := bcl hb (by first | (simp; rfl) | rfl))
  have f0 := hBk.frozen 0
  have f1 := hBk.frozen 1
  have f2 := hBk.frozen 2
  have f3 := hBk.frozen 3
  have f4 := hBk.frozen 4
  have f5 := hBk.frozen 5
  have u_0 := hBk.cell 0
  have u_1 := hBk.cell 1
  have u_2 := hBk.cell 2
  have u_3 := hBk.cell 3
  have u_4 := hBk.cell 4
  have u_5 := hBk.cell 5
  simp only [List.getElem?_toArray, List.getElem?_cons_zero, List.getElem?_cons_succ] at u_0 u_1 u_2 u_3 u_4 u_5
  have zu := hBk.lt
  have HBk := Lib.hid hBk
  have HA1 := Lib.hid (HA.out.below hb HA.out.lt)
  have HH1 := Lib.hid (HH.out.below hb HH.out.lt)
  have hzA := HA.out.lt
  have hzH := HH.out.lt
  have HB1 := Lib.hid hb
  clear hb hz hc hf hBk lc0 lc1 zl HSd HA HH h_0 h_1 h_2 h_3 h_4 h_5 h_6 h_7 h_8 zh
  go_upto_region 29 with fail
  refine wp_letter ?_
  intro W2 hW2
  have k2 : Below W.heap.size W W2 := by
    rw [hW2]
    have hbb := HB1.out
    (repeat (first | (with_reducible exact hbb) | (with_reducible refine bl_set' ?_ ?_; · (dsimp only; omega))))
  have hS2 : Blk W2 Bq 72 #[.int .i64 y0, .int .i64 y1, .int .i64 y2, .int .i64 y3, .int .i64 y4, .int .i64 y5] := by rw [hW2]; exact blk_st6 HBk.out
  have hA2 : Blk W2 ap 72 #[.int .i64 t0, .int .i64 t1, .int .i64 t2, .int .i64 t3, .int .i64 t4, .int .i64 t5] := by rw [hW2]; exact blk_far (by omega) (blk_far (by omega) (blk_far (by omega) (blk_far (by omega) (blk_far (by omega) (blk_far (by omega) (HA1.out))))))
  have HH2 : Hid (Blk W2 hp' 75 #[.int .i64 e0, .int .i64 e1, .int .i64 e2, .int .i64 e3, .int .i64 e4, .int .i64 e5, .slice A n cap, .int .i64 (M : Int), .int .i64 tl]) := Lib.hid (by rw [hW2]; exact blk_far (by omega) (blk_far (by omega) (blk_far (by omega) (blk_far (by omega) (blk_far (by omega) (blk_far (by omega) (HH1.out)))))))
  clear hW2 HBk HA1 HH1 HB1 hzA hzH f0 f1 f2 f3 f4 f5 u_0 u_1 u_2 u_3 u_4 u_5 zu
  have c_0 := hA2.cell 0
  have c_1 := hA2.cell 1
  have c_2 := hA2.cell 2
  have c_3 := hA2.cell 3
  have c_4 := hA2.cell 4
  have c_5 := hA2.cell 5
  simp only [List.getElem?_toArray, List.getElem?_cons_zero, List.getElem?_cons_succ] at c_0 c_1 c_2 c_3 c_4 c_5
  have zc := hA2.lt
  have d_0 := hS2.cell 0
  have d_1 := hS2.cell 1
  have d_2 := hS2.cell 2
  have d_3 := hS2.cell 3
  have d_4 := hS2.cell 4
  have d_5 := hS2.cell 5
  simp only [List.getElem?_toArray, List.getElem?_cons_zero, List.getElem?_cons_succ] at d_0 d_1 d_2 d_3 d_4 d_5
  have zd := hS2.lt
  clear hA2 hS2
  go_wp2_with fail
  (with_reducible refine (HGp.out _ k2).mono ?_)
  rintro e V2 ⟨rfl, b2⟩
  have k2' := bl_trans k2 b2
  have HH3 := Lib.hid (HH2.out.below b2 HH2.out.lt)
  clear b2 k2 HGp c_0 c_1 c_2 c_3 c_4 c_5 zc d_0 d_1 d_2 d_3 d_4 d_5 zd
  go_wp2_with fail
  refine calls_letter ?_
  intro W3 hW3
  have k3 : Below W.heap.size W W3 := by rw [hW3]; exact bl_alloc k2' _
  have HH4 : Hid (Blk W3 hp' 75 #[.int .i64 e0, .int .i64 e1, .int .i64 e2, .int .i64 e3, .int .i64 e4, .int .i64 e5, .slice A n cap, .int .i64 (M : Int), .int .i64 tl]) := Lib.hid (by rw [hW3]; exact HH3.out.alloc _)
  clear hW3 k2' HH2 HH3
  generalize V2.heap.size = gp at *
  (with_reducible refine (HFa.out _).mono ?_)
  rintro e V3 ⟨rfl, b3⟩
  have k3' := bl_trans k3 b3
  have HH5 := Lib.hid (HH4.out.below b3 HH4.out.lt)
  clear b3 k3 HFa HH4
  have h_0 := HH5.out.cell 0
  have h_1 := HH5.out.cell 1
  have h_2 := HH5.out.cell 2
  have h_3 := HH5.out.cell 3
  have h_4 := HH5.out.cell 4
  have h_5 := HH5.out.cell 5
  have h_6 := HH5.out.cell 6
  have h_7 := HH5.out.cell 7
  have h_8 := HH5.out.cell 8
  simp only [List.getElem?_toArray, List.getElem?_cons_zero, List.getElem?_cons_succ] at h_0 h_1 h_2 h_3 h_4 h_5 h_6 h_7 h_8
  have zh := HH5.out.lt
  have q1 : decide (tl * 10000 < fb) = false := decide_eq_false (by have := HK1.out; omega)
  have w1 : IntKind.i64.wrap (tl * 10000) = tl * 10000 := by rw [IntKind.wrap_i64]; omega
  by_cases hge : ge = 0
  · have q2 : (ge == 0) = true := by rw [hge]; rfl
    have q3 : decide (fb < fz) = false := decide_eq_false (by have := HK2.out hge; omega)
    clear hge HK1 HK2
    go_wp2
    refine Met.intro ?_
    exact HJ.out _ _ _ _ _ _ _ _ _ _ _ _ _ _ _ _ _ _ _ _ _ _ _ _ _ _ _ _ _ _ _ _ _ _ _ _ _ _ _ _ _ _ _ _ _ _ _ _ _ k3'
  · have q2 : (ge == 0) = false := by rw [beq_eq_false_iff_ne]; exact hge
    clear hge HK1 HK2
    go_wp2
    refine Met.intro ?_
    exact HJ.out _ _ _ _ _ _ _ _ _ _ _ _ _ _ _ _ _ _ _ _ _ _ _ _ _ _ _ _ _ _ _ _ _ _ _ _ _ _ _ _ _ _ _ _ _ _ _ _ _ k3'
end Go.Proofs.YtehifkdfbiebfaaDoor
