/- TopBlown: the quotient of two sounds with the same valves. -/
import Derived.Test.YtehifkdfbiebfaaDoorK42
import Derived.Test.YtehifkdfbiebfaaDoorK43
import Derived.Test.YtehifkdfbiebfaaDoorK44
namespace Go.Proofs.YtehifkdfbiebfaaDoor
open Go Go.RowKit

/-- The look over all pairs of harmonics. -/
def chXY (x y : Nat) : Bool := (List.range 6).all (fun i => decide (-4 ≤ raE3 x y i) && decide (raE3 x y i ≤ 4)) && (decide (mkE x y = 0) && (decide (mkN x y = (upN (raE3 x y 0) (raE3 x y 1) (raE3 x y 2) (raE3 x y 3) (raE3 x y 4) (raE3 x y 5) : Nat)) && (decide (mkD x y = (dnN (raE3 x y 0) (raE3 x y 1) (raE3 x y 2) (raE3 x y 3) (raE3 x y 4) (raE3 x y 5) : Nat)) && (decide (upN (raE3 x y 0) (raE3 x y 1) (raE3 x y 2) (raE3 x y 3) (raE3 x y 4) (raE3 x y 5) ≤ 1000000000) && decide (dnN (raE3 x y 0) (raE3 x y 1) (raE3 x y 2) (raE3 x y 3) (raE3 x y 4) (raE3 x y 5) ≤ 1000000000)))))
theorem chXY_all : (List.range 16).all (fun a => (List.range 16).all fun b => chXY (a + 1) (b + 1)) = true := by decide +kernel
theorem chXY_of {x y : Nat} (h1 : 1 ≤ x) (h2 : x ≤ 16) (h3 : 1 ≤ y) (h4 : y ≤ 16) : (∀ i, i < 6 → -4 ≤ raE3 x y i ∧ raE3 x y i ≤ 4) ∧ mkE x y = 0 ∧ mkN x y = (upN (raE3 x y 0) (raE3 x y 1) (raE3 x y 2) (raE3 x y 3) (raE3 x y 4) (raE3 x y 5) : Nat) ∧ mkD x y = (dnN (raE3 x y 0) (raE3 x y 1) (raE3 x y 2) (raE3 x y 3) (raE3 x y 4) (raE3 x y 5) : Nat) ∧
    upN (raE3 x y 0) (raE3 x y 1) (raE3 x y 2) (raE3 x y 3) (raE3 x y 4) (raE3 x y 5) ≤ 1000000000 ∧ dnN (raE3 x y 0) (raE3 x y 1) (raE3 x y 2) (raE3 x y 3) (raE3 x y 4) (raE3 x y 5) ≤ 1000000000 := by
  have h := all_range.1 (all_range.1 chXY_all (x - 1) (by omega)) (y - 1) (by omega)
  rw [show x - 1 + 1 = x by omega, show y - 1 + 1 = y by omega] at h
  unfold chXY at h
  simp only [Bool.and_eq_true, decide_eq_true_eq] at h
  refine ⟨fun i hi => ?_, h.2⟩
  have := all_range.1 h.1 i hi
  simpa using this
theorem sd_sub (bs : Nat → Int) (g : Nat → Nat → Int) (n x y s i : Nat) : sdF bs g n x s i - sdF bs g n y s i = 12 * raE3 x y i := by
  unfold sdF raE3
  omega
theorem wh_ok {r0 r1 r2 r3 r4 r5 : Int} (h : pV r0 r1 r2 r3 r4 r5 48 = true) : whV (12 * r0) (12 * r1) (12 * r2) (12 * r3) (12 * r4) (12 * r5) = .tuple #[.agg #[.int .i64 r0, .int .i64 r1, .int .i64 r2, .int .i64 r3, .int .i64 r4, .int .i64 r5], .int .i64 0] := by
  obtain ⟨h1, h2, h3, h4, h5, h6⟩ := pV_of h
  have h1 := wi_of h1
  have h2 := wi_of h2
  have h3 := wi_of h3
  have h4 := wi_of h4
  have h5 := wi_of h5
  have h6 := wi_of h6
  have hp : pV (12 * r0) (12 * r1) (12 * r2) (12 * r3) (12 * r4) (12 * r5) 576 = true := pV_mk (wi_mk (by omega) (by omega)) (wi_mk (by omega) (by omega)) (wi_mk (by omega) (by omega)) (wi_mk (by omega) (by omega)) (wi_mk (by omega) (by omega)) (wi_mk (by omega) (by omega))
  have hk : ∀ r : Int, whK (12 * r) = true := fun r => by
    unfold whK
    simp
  have hd : ∀ r : Int, (12 * r).tdiv 12 = r := fun r => Int.mul_tdiv_cancel_left r (by omega)
  unfold whV
  rw [hp]
  simp only [hk, hd, Bool.and_self, if_true]
def FrQ (U V : Nat) (w : World) (en : Ending) (w' : World) : Prop := Below w.heap.size w w' ∧ ∃ q n q' n' : Nat, en = .returned (.tuple #[.slice (some ⟨q, 0, none⟩) n n, .slice (some ⟨q', 0, none⟩) n' n', .int .i64 0]) ∧ Num w' w'.heap.size q n U ∧ n ≤ 640 ∧ Num w' w'.heap.size q' n' V ∧ n' ≤ 640
noncomputable def quo_p_code : Code := at_ [1, 1, 1, 1, 0, 1] ((Tryd.f5.body).getD .skip)
set_option maxRecDepth 100000 in
set_option maxHeartbeats 32000000 in
theorem quo_p (bs : Nat → Int) (g : Nat → Nat → Int) (n X Y S ap aq : Nat) (x y : Int) (hx : x = (X : Int)) (hy : y = (Y : Int)) (s0 s1 s4 s5 s6 s7 s8 s9 s10 s11 s13 s15 s16 s17 s18 s19 s20 s21 s22 s23 s24 s25 s26 s27 s28 s29 s30 s31 s32 s33 s34 s35 s36 s37 s38 s39 s40 s41 s42 s43 s44 s45 s46 s47 s48 s49 s50 s51 s52 s53 s54 s55 s56 s57 s58 s59 s60 s61 s62 s63 s64 s65 s66 s68 s69 s70 s71 s72 s73 s74 s75 s76 s77 s78 s79 s80 s81 s82 s83 s84 s85 s86 s87 s88 s89 s90 s91 s92 s93 s94 s95 s96 s97 s98 s99 s100 s101 s102 s103 s104 s105 s106 s107 s108 s109 s110 s111 s112 s113 s114 s115 s116 s117 s118 s119 s120 s121 s122 s123 s124 s125 s126 s127 s128 s129 s130 s131 s132 s133 s134 s135 s136 s137 s138 s139 s140 s141 s142 s143 s144 s145 s146 s147 s148 s149 s150 s151 s152 s153 s154 s155 s156 s157 s158 s159 s160 s161 s162 s163 s164 s165 s166 s167 s168 s169 s170 s171 s172 s173 s174 s175 s176 s177 s178 s179 s180 s181 s182 s183 s184 s185 s186 s187 s188 s189 s190 s191 s192 s193 s194 s195 s196 s197 s198 s199 s200 s201 s202 s203 s204 s205 s206 s207 s208 s209 s210 s211 s212 s213 s214 s215 s216 s217 s218 s219 s220 s221 s222 s223 s224 s225 s226 s227 s228 s229 s230 s231 s232 s233 s234 s235 s236 s237 s238 : Value) (W : World) (hP : PR W) (hX1 : 1 ≤ X) (hX : X ≤ 16) (hY1 : 1 ≤ Y) (hY : Y ≤ 16) (hp : pV6 (sdF bs g n X S) 576 = true) (hq : pV6 (sdF bs g n Y S) 576 = true) (hA : Blk W ap 72 (cell6 (sdF bs g n X S))) (hB : Blk W aq 72 (cell6 (sdF bs g n Y S))) {J K : Act → World → Prop} {Q' : Exit → Act → World → Prop} (hJ : ∀ (u16 u17 u18 u19 u20 u21 u22 u23 u24 u25 u26 u27 u28 u68 u69 u70 u71 u72 u73 u74 u75 u76 u77 u78 u79 u80 u81 u82 u83 u84 u85 u86 u87 u88 u89 u90 u91 u92 u93 u94 u95 u96 u97 u98 u99 u100 u101 u102 u103 u104 u105 u106 u107 u108 u109 u110 u111 u112 u113 u114 u115 u116 u117 u118 u119 u120 u121 u122 u123 u124 u125 u126 u127 u128 u129 u130 u131 u132 u133 u134 u135 u136 u137 u138 u139 u140 : Value)  (W' : World), Below W.heap.size W W' → J ⟨#[s0, s1, .int .i64 x, .int .i64 y, s4, s5, s6, s7, s8, s9, s10, s11, .pointer (some ⟨ap, 0, none⟩), s13, .pointer (some ⟨aq, 0, none⟩), s15, u16, u17, u18, u19, u20, u21, u22, u23, u24, u25, u26, u27, u28, s29, s30, s31, s32, s33, s34, s35, s36, s37, s38, s39, s40, s41, s42, s43, s44, s45, s46, s47, s48, s49, s50, s51, s52, s53, s54, s55, s56, s57, s58, s59, s60, s61, s62, s63, s64, s65, s66, .bool true, u68, u69, u70, u71, u72, u73, u74, u75, u76, u77, u78, u79, u80, u81, u82, u83, u84, u85, u86, u87, u88, u89, u90, u91, u92, u93, u94, u95, u96, u97, u98, u99, u100, u101, u102, u103, u104, u105, u106, u107, u108, u109, u110, u111, u112, u113, u114, u115, u116, u117, u118, u119, u120, u121, u122, u123, u124, u125, u126, u127, u128, u129, u130, u131, u132, u133, u134, u135, u136, u137, u138, u139, u140, s141, s142, s143, s144, s145, s146, s147, s148, s149, s150, s151, s152, s153, s154, s155, s156, s157, s158, s159, s160, s161, s162, s163, s164, s165, s166, s167, s168, s169, s170, s171, s172, s173, s174, s175, s176, s177, s178, s179, s180, s181, s182, s183, s184, s185, s186, s187, s188, s189, s190, s191, s192, s193, s194, s195, s196, s197, s198, s199, s200, s201, s202, s203, s204, s205, s206, s207, s208, s209, s210, s211, s212, s213, s214, s215, s216, s217, s218, s219, s220, s221, s222, s223, s224, s225, s226, s227, s228, s229, s230, s231, s232, s233, s234, s235, s236, s237, s238], []⟩ W') (hK : ∀ a' w', Met J a' w' → K a' w') : Code.wp Tryd.prog quo_p_code (Exit.then K Q') ⟨#[s0, s1, .int .i64 x, .int .i64 y, s4, s5, s6, s7, s8, s9, s10, s11, .pointer (some ⟨ap, 0, none⟩), s13, .pointer (some ⟨aq, 0, none⟩), s15, s16, s17, s18, s19, s20, s21, s22, s23, s24, s25, s26, s27, s28, s29, s30, s31, s32, s33, s34, s35, s36, s37, s38, s39, s40, s41, s42, s43, s44, s45, s46, s47, s48, s49, s50, s51, s52, s53, s54, s55, s56, s57, s58, s59, s60, s61, s62, s63, s64, s65, s66, .bool true, s68, s69, s70, s71, s72, s73, s74, s75, s76, s77, s78, s79, s80, s81, s82, s83, s84, s85, s86, s87, s88, s89, s90, s91, s92, s93, s94, s95, s96, s97, s98, s99, s100, s101, s102, s103, s104, s105, s106, s107, s108, s109, s110, s111, s112, s113, s114, s115, s116, s117, s118, s119, s120, s121, s122, s123, s124, s125, s126, s127, s128, s129, s130, s131, s132, s133, s134, s135, s136, s137, s138, s139, s140, s141, s142, s143, s144, s145, s146, s147, s148, s149, s150, s151, s152, s153, s154, s155, s156, s157, s158, s159, s160, s161, s162, s163, s164, s165, s166, s167, s168, s169, s170, s171, s172, s173, s174, s175, s176, s177, s178, s179, s180, s181, s182, s183, s184, s185, s186, s187, s188, s189, s190, s191, s192, s193, s194, s195, s196, s197, s198, s199, s200, s201, s202, s203, s204, s205, s206, s207, s208, s209, s210, s211, s212, s213, s214, s215, s216, s217, s218, s219, s220, s221, s222, s223, s224, s225, s226, s227, s228, s229, s230, s231, s232, s233, s234, s235, s236, s237, s238], []⟩ W := by
  conv => arg 2; whnf
  subst hx
  subst hy
  obtain ⟨hr, hme, hmn, hmd, hu, hv⟩ := chXY_of hX1 hX hY1 hY
  have hpr : pV (raE3 X Y 0) (raE3 X Y 1) (raE3 X Y 2) (raE3 X Y 3) (raE3 X Y 4) (raE3 X Y 5) 48 = true := pV_mk (wi_mk (by have := hr 0 (by omega); omega) (by have := hr 0 (by omega); omega)) (wi_mk (by have := hr 1 (by omega); omega) (by have := hr 1 (by omega); omega)) (wi_mk (by have := hr 2 (by omega); omega) (by have := hr 2 (by omega); omega)) (wi_mk (by have := hr 3 (by omega); omega) (by have := hr 3 (by omega); omega)) (wi_mk (by have := hr 4 (by omega); omega) (by have := hr 4 (by omega); omega)) (wi_mk (by have := hr 5 (by omega); omega) (by have := hr 5 (by omega); omega))
  have hcg : gpG (sdF bs g n X S) (sdF bs g n Y S) = true := by unfold gpG; rw [hp, hq]; rfl
  have hdE : dvE (sdF bs g n X S) (sdF bs g n Y S) = 0 := by
    unfold dvE cbE
    rw [show cbG _ _ _ _ _ _ _ _ _ _ _ _ = true from hcg, if_pos rfl, if_pos]
    unfold cbS
    have e : ∀ i, sdF bs g n X S i + -1 * sdF bs g n Y S i = 12 * raE3 X Y i := fun i => by have := sd_sub bs g n X Y S i; omega
    rw [e, e, e, e, e, e]
    exact pV_mk (wi_mk (by have := hr 0 (by omega); omega) (by have := hr 0 (by omega); omega)) (wi_mk (by have := hr 1 (by omega); omega) (by have := hr 1 (by omega); omega)) (wi_mk (by have := hr 2 (by omega); omega) (by have := hr 2 (by omega); omega)) (wi_mk (by have := hr 3 (by omega); omega) (by have := hr 3 (by omega); omega)) (wi_mk (by have := hr 4 (by omega); omega) (by have := hr 4 (by omega); omega)) (wi_mk (by have := hr 5 (by omega); omega) (by have := hr 5 (by omega); omega))
  have hdF : ∀ i, dvF (sdF bs g n X S) (sdF bs g n Y S) i = 12 * raE3 X Y i := fun i => by rw [(dv_ok hdE).2.1, sd_sub]
  have hDv := fun w => PDiv6 (sdF bs g n X S) (sdF bs g n Y S) w
  rw [hdF, hdF, hdF, hdF, hdF, hdF, hdE] at hDv
  have hWh := fun w => PWhole_c (12 * raE3 X Y 0) (12 * raE3 X Y 1) (12 * raE3 X Y 2) (12 * raE3 X Y 3) (12 * raE3 X Y 4) (12 * raE3 X Y 5) w
  rw [wh_ok hpr] at hWh
  have hFr : ∀ w, PR w → Calls Tryd.prog 30 #[.agg #[.int .i64 (raE3 X Y 0), .int .i64 (raE3 X Y 1), .int .i64 (raE3 X Y 2), .int .i64 (raE3 X Y 3), .int .i64 (raE3 X Y 4), .int .i64 (raE3 X Y 5)]] w (FrQ (upN (raE3 X Y 0) (raE3 X Y 1) (raE3 X Y 2) (raE3 X Y 3) (raE3 X Y 4) (raE3 X Y 5)) (dnN (raE3 X Y 0) (raE3 X Y 1) (raE3 X Y 2) (raE3 X Y 3) (raE3 X Y 4) (raE3 X Y 5)) w) := fun w hw => (PFraction_c _ _ _ _ _ _ w hw).mono fun e w' h => by
    unfold FrE at h
    rw [hpr, if_pos rfl] at h
    obtain ⟨h1, q, n, q', n', _, _, h2, h3, h4, h5, h6⟩ := h
    exact ⟨h1, q, n, q', n', h2, h3, h4, h5, h6⟩
  have hMk := fun w => Make_c (X : Int) (Y : Int) w (by constructor <;> omega) (by constructor <;> omega)
  unfold mkV at hMk
  rw [hmn, hmd, hme] at hMk
  have hN1 := fun w => Nmake_c (upN (raE3 X Y 0) (raE3 X Y 1) (raE3 X Y 2) (raE3 X Y 3) (raE3 X Y 4) (raE3 X Y 5)) w (by omega)
  have hN2 := fun w => Nmake_c (dnN (raE3 X Y 0) (raE3 X Y 1) (raE3 X Y 2) (raE3 X Y 3) (raE3 X Y 4) (raE3 X Y 5)) w (by omega)
  have HDv := Lib.hid hDv
  have HWh := Lib.hid hWh
  have HFr := Lib.hid hFr
  have HMk := Lib.hid hMk
  have HN1 := Lib.hid hN1
  have HN2 := Lib.hid hN2
  have HP := Lib.hid hP
  unfold cell6 at hA hB
  clear hr hme hmn hmd hpr hcg hdE hdF hDv hWh hFr hMk hN1 hN2 hP hp hq
  generalize upN (raE3 X Y 0) (raE3 X Y 1) (raE3 X Y 2) (raE3 X Y 3) (raE3 X Y 4) (raE3 X Y 5) = U at *
  generalize dnN (raE3 X Y 0) (raE3 X Y 1) (raE3 X Y 2) (raE3 X Y 3) (raE3 X Y 4) (raE3 X Y 5) = V at *
  generalize raE3 X Y 0 = r0 at *
  generalize raE3 X Y 1 = r1 at *
  generalize raE3 X Y 2 = r2 at *
  generalize raE3 X Y 3 = r3 at *
  generalize raE3 X Y 4 = r4 at *
  generalize raE3 X Y 5 = r5 at *
  generalize sdF bs g n X S 0 = p0 at *
  generalize sdF bs g n X S 1 = p1 at *
  generalize sdF bs g n X S 2 = p2 at *
  generalize sdF bs g n X S 3 = p3 at *
  generalize sdF bs g n X S 4 = p4 at *
  generalize sdF bs g n X S 5 = p5 at *
  generalize sdF bs g n Y S 0 = q0 at *
  generalize sdF bs g n Y S 1 = q1 at *
  generalize sdF bs g n Y S 2 = q2 at *
  generalize sdF bs g n Y S 3 = q3 at *
  generalize sdF bs g n Y S 4 = q4 at *
  generalize sdF bs g n Y S 5 = q5 at *
  have a_0 := hA.cell 0
  have a_1 := hA.cell 1
  have a_2 := hA.cell 2
  have a_3 := hA.cell 3
  have a_4 := hA.cell 4
  have a_5 := hA.cell 5
  simp only [List.getElem?_toArray, List.getElem?_cons_zero, List.getElem?_cons_succ] at a_0 a_1 a_2 a_3 a_4 a_5
  have za := hA.lt
  have b_0 := hB.cell 0
  have b_1 := hB.cell 1
  have b_2 := hB.cell 2
  have b_3 := hB.cell 3
  have b_4 := hB.cell 4
  have b_5 := hB.cell 5
  simp only [List.getElem?_toArray, List.getElem?_cons_zero, List.getElem?_cons_succ] at b_0 b_1 b_2 b_3 b_4 b_5
  have zb := hB.lt
  have HJ := Lib.hid hJ
  clear hA hB hJ
  go_wp2_with fail
  (with_reducible refine (HDv.out _).mono ?_)
  rintro e V1 ⟨rfl, b1⟩
  clear a_0 a_1 a_2 a_3 a_4 a_5 za b_0 b_1 b_2 b_3 b_4 b_5 zb
  go_wp2_with fail
  refine calls_letter ?_
  intro W2 hW2
  have k2 : Below W.heap.size W W2 := by rw [hW2]; exact bl_alloc b1 _
  have hD : Blk W2 V1.heap.size 72 #[.int .i64 (12 * r0), .int .i64 (12 * r1), .int .i64 (12 * r2), .int .i64 (12 * r3), .int .i64 (12 * r4), .int .i64 (12 * r5)] := by rw [hW2]; exact Blk.new _ _ _
  clear hW2 b1
  generalize V1.heap.size = ad at *
  (with_reducible refine (HWh.out _).mono ?_)
  rintro e V2 ⟨rfl, b2⟩
  have k2' := bl_trans k2 b2
  clear b2 k2 hD HWh HDv
  go_wp2_with fail
  refine calls_letter ?_
  intro W3 hW3
  have k3 : Below W.heap.size W W3 := by rw [hW3]; exact bl_alloc k2' _
  clear hW3 k2'
  generalize V2.heap.size = av at *
  (with_reducible refine (HFr.out _ (HP.out.up k3)).mono ?_)
  rintro e V3 ⟨b3, qa, na, qb, nb, rfl, hNa, hna, hNb, hnb⟩
  have k3' := bl_trans k3 b3
  have HNa := Lib.hid hNa
  have HNb := Lib.hid hNb
  clear b3 k3 HFr HP hNa hNb
  go_wp2_with fail
  (with_reducible refine (HMk.out _).mono ?_)
  rintro e V4 ⟨rfl, b4⟩
  have k4 := bl_trans k3' b4
  have HNa4 := Lib.hid (HNa.out.up b4)
  have HNb4 := Lib.hid (HNb.out.up b4)
  clear b4 k3' HMk HNa HNb
  have mU : max (U : Int) 0 = (U : Int) := by omega
  have mV : max (V : Int) 0 = (V : Int) := by omega
  have mU2 : max (0 : Int) (U : Int) = (U : Int) := by omega
  have mV2 : max (0 : Int) (V : Int) = (V : Int) := by omega
  have cU : IntKind.u64.wrap (U : Int) = (U : Int) := by rw [IntKind.wrap_u64]; omega
  have cV : IntKind.u64.wrap (V : Int) = (V : Int) := by rw [IntKind.wrap_u64]; omega
  go_upto_region 9 with fail
  refine wp_letter ?_
  intro W5 hW5
  have k5 : Below W.heap.size W W5 := by rw [hW5]; exact bl_alloc k4 _
  have HR5 : Hid (Blk W5 V4.heap.size 25 #[.int .i64 (U : Int), .int .i64 (V : Int)]) := Lib.hid (by rw [hW5]; exact Blk.new _ _ _)
  have hb45 : Below V4.heap.size V4 W5 := by rw [hW5]; exact bl_alloc (bl_refl _) _
  have HNa5 := Lib.hid (HNa4.out.up hb45)
  have HNb5 := Lib.hid (HNb4.out.up hb45)
  clear hW5 k4 hb45 HNa4 HNb4
  generalize V4.heap.size = ar at *
  have r_0 := HR5.out.cell 0
  have r_1 := HR5.out.cell 1
  simp only [List.getElem?_toArray, List.getElem?_cons_zero, List.getElem?_cons_succ] at r_0 r_1
  have zr := HR5.out.lt
  go_wp2_with fail
  (with_reducible refine (HN1.out _).mono ?_)
  rintro e V6 ⟨b6, qc, nc, hqc, rfl, hNc, hnc⟩
  have k6 := bl_trans k5 b6
  have HR6 := Lib.hid (HR5.out.below b6 HR5.out.lt)
  have HC1 := Lib.hid (Ncmp_c qa qc na nc U U na nc V6 (HNa5.out.up b6) hNc hna hnc)
  have HNb6 := Lib.hid (HNb5.out.up b6)
  rw [ordZ_eq] at HC1
  clear k5 b6 hNc HNa5 HNb5 HR5 HN1 r_0 r_1 zr
  go_wp2_with fail
  (with_reducible refine HC1.out.mono ?_)
  rintro e V7 ⟨rfl, b7⟩
  have k7 := bl_trans k6 b7
  have HR7 := Lib.hid (HR6.out.below b7 HR6.out.lt)
  have HNb7 := Lib.hid (HNb6.out.up b7)
  clear k6 b7 HR6 HNb6 HC1
  have r_0 := HR7.out.cell 0
  have r_1 := HR7.out.cell 1
  simp only [List.getElem?_toArray, List.getElem?_cons_zero, List.getElem?_cons_succ] at r_0 r_1
  have zr := HR7.out.lt
  go_wp2_with fail
  (with_reducible refine (HN2.out _).mono ?_)
  rintro e V8 ⟨b8, qe, ne, hqe, rfl, hNe, hne⟩
  have k8 := bl_trans k7 b8
  have HC2 := Lib.hid (Ncmp_c qb qe nb ne V V nb ne V8 (HNb7.out.up b8) hNe hnb hne)
  rw [ordZ_eq] at HC2
  clear k7 b8 hNe HNb7 HR7 HN2 r_0 r_1 zr
  go_wp2_with fail
  (with_reducible refine HC2.out.mono ?_)
  rintro e V9 ⟨rfl, b9⟩
  have k9 := bl_trans k8 b9
  clear k8 b9 HC2
  go_wp2
  refine Met.intro ?_
  exact HJ.out _ _ _ _ _ _ _ _ _ _ _ _ _ _ _ _ _ _ _ _ _ _ _ _ _ _ _ _ _ _ _ _ _ _ _ _ _ _ _ _ _ _ _ _ _ _ _ _ _ _ _ _ _ _ _ _ _ _ _ _ _ _ _ _ _ _ _ _ _ _ _ _ _ _ _ _ _ _ _ _ _ _ _ _ _ _ _ k9
end Go.Proofs.YtehifkdfbiebfaaDoor
