/- The loops of the reference's Sum, each taken out of the function's body: the schedule. -/
import Derived.Test.YtdkadlifjmmcbaaDoorSh9
namespace Go.Proofs.YtdkadlifjmmcbaaDoor
open Go.RowKit
set_option linter.unusedSimpArgs false
set_option linter.unusedVariables false

/-- the loops of a body, in their order -/
def loopsOf : Code → List Code
  | .loop c => c :: loopsOf c
  | .seq a b => loopsOf a ++ loopsOf b
  | .block _ c => loopsOf c
  | .scope c => loopsOf c
  | .cond _ a b => loopsOf a ++ loopsOf b
  | _ => []
noncomputable def rsBody (k : Nat) : Code := (((Tryd.f25.body.map loopsOf).getD [])[k]?).getD .skip

set_option maxRecDepth 1000000 in
set_option maxHeartbeats 4000000 in
theorem sched_loop {s0 s1 s2 s4 s5 s6 s10 s11 s12 s13 s14 s15 s16 s17 s18 s19 s20 s21 s22 s23 s24 s25 s26 s27 s28 s29 s30 s31 s32 s33 s34 s35 s36 s37 s38 s39 s40 s41 s42 s43 s44 s45 s46 s47 s48 s49 s50 s51 s52 s53 s54 s55 s56 s57 s58 s59 s60 s61 s62 s63 s64 s65 s66 s67 s68 s69 s70 s71 s72 s73 s74 s75 s76 s77 s78 s79 s80 s81 s82 s83 s84 s85 s86 s87 s88 s89 s90 s91 s92 s93 s94 s95 s96 s97 s98 s99 s100 s101 s102 s103 s104 s105 s106 s107 s108 s109 s110 s111 s112 s113 s114 s115 s116 s117 s118 s119 s120 s121 s122 s123 s124 s125 s126 s127 s128 s129 s130 s131 s132 s133 s134 s135 s136 s137 s138 s139 s140 s141 s142 s143 s144 s145 s146 s147 s148 s149 s150 s151 s152 s153 s154 s155 s156 s157 s158 s159 s160 s161 s162 s163 s164 s165 s166 s167 s168 s169 s170 s171 s172 s173 s174 s175 s176 s177 s178 s179 s180 s181 s182 s183 s184 s185 s186 s187 s188 s189 s190 s191 s192 s193 s194 s195 s196 s197 s198 s199 s200 s201 s202 s203 s204 s205 s206 s207 s208 s209 s210 s211 s212 s213 s214 s215 s216 s217 s218 s219 s220 s221 s222 s223 s224 s225 s226 s227 s228 s229 s230 s231 s232 s233 s234 s235 s236 s237 s238 s239 s240 s241 s242 s243 s244 s245 s246 s247 s248 s249 s250 s251 s252 s253 s254 s255 s256 s257 s258 s259 s260 s261 s262 s263 s264 s265 s266 s267 s268 s269 s270 s271 s272 s273 s274 s275 s276 s277 s278 s279 s280 s281 s282 : Value} {cd : Code} (hcd : cd = rsBody 3) {gp op c10 pl q gw : Nat} {Q0 : Exit → Act → World → Prop} (pm blk : List UInt8) (w : World) (hpl : pm.length = pl) (hq : q + 64 ≤ pl) (hplb : pl ≤ 2000000) (hbk : blk = (pm.drop q).take 64) (hgp : gp ≠ gw)
    (hz : Blk w gw 82 (cellsW [] 64).toArray) (hr : RB w (some ⟨gp, op, none⟩) pm)
    (hexit : ∀ (v9 v10 v11 v12 v63 v64 v65 v66 v67 v68 v69 v70 v71 v72 v73 v74 v75 v76 v77 v78 v79 v80 v81 v82 v83 v84 v85 v86 v87 v88 v89 v90 v91 v92 v93 v94 v95 v96 v97 v98 v99 v100 v101 v102 v103 v104 v105 v106 v107 v108 v109 v110 v111 v112 v113 v114 v115 v116 v117 v118 v119 v120 v121 v122 v123 v124 v125 v126 v127 v128 v129 v130 v131 v132 v133 v134 v135 v136 v137 v138 v139 v140 v141 v142 v143 v144 v145 v146 v147 v148 v149 v150 v151 v152 : Value) (W1 : World) (kz : Blk W1 gw 82 (cellsW (sched blk 64) 64).toArray) (kk : Keep (· ≠ gw) w W1), Q0 (.exit 6) ⟨List.toArray (s0 :: s1 :: s2 :: .slice (some ⟨gp, op, none⟩) pl c10 :: s4 :: s5 :: s6 :: .int .i64 (q : Int) :: .pointer (some ⟨gw, 0, none⟩) :: v9 :: v10 :: v11 :: v12 :: s13 :: s14 :: s15 :: s16 :: s17 :: s18 :: s19 :: s20 :: s21 :: s22 :: s23 :: s24 :: s25 :: s26 :: s27 :: s28 :: s29 :: s30 :: s31 :: s32 :: s33 :: s34 :: s35 :: s36 :: s37 :: s38 :: s39 :: s40 :: s41 :: s42 :: s43 :: s44 :: s45 :: s46 :: s47 :: s48 :: s49 :: s50 :: s51 :: s52 :: s53 :: s54 :: s55 :: s56 :: s57 :: s58 :: s59 :: s60 :: s61 :: s62 :: v63 :: v64 :: v65 :: v66 :: v67 :: v68 :: v69 :: v70 :: v71 :: v72 :: v73 :: v74 :: v75 :: v76 :: v77 :: v78 :: v79 :: v80 :: v81 :: v82 :: v83 :: v84 :: v85 :: v86 :: v87 :: v88 :: v89 :: v90 :: v91 :: v92 :: v93 :: v94 :: v95 :: v96 :: v97 :: v98 :: v99 :: v100 :: v101 :: v102 :: v103 :: v104 :: v105 :: v106 :: v107 :: v108 :: v109 :: v110 :: v111 :: v112 :: v113 :: v114 :: v115 :: v116 :: v117 :: v118 :: v119 :: v120 :: v121 :: v122 :: v123 :: v124 :: v125 :: v126 :: v127 :: v128 :: v129 :: v130 :: v131 :: v132 :: v133 :: v134 :: v135 :: v136 :: v137 :: v138 :: v139 :: v140 :: v141 :: v142 :: v143 :: v144 :: v145 :: v146 :: v147 :: v148 :: v149 :: v150 :: v151 :: v152 :: s153 :: s154 :: s155 :: s156 :: s157 :: s158 :: s159 :: s160 :: s161 :: s162 :: s163 :: s164 :: s165 :: s166 :: s167 :: s168 :: s169 :: s170 :: s171 :: s172 :: s173 :: s174 :: s175 :: s176 :: s177 :: s178 :: s179 :: s180 :: s181 :: s182 :: s183 :: s184 :: s185 :: s186 :: s187 :: s188 :: s189 :: s190 :: s191 :: s192 :: s193 :: s194 :: s195 :: s196 :: s197 :: s198 :: s199 :: s200 :: s201 :: s202 :: s203 :: s204 :: s205 :: s206 :: s207 :: s208 :: s209 :: s210 :: s211 :: s212 :: s213 :: s214 :: s215 :: s216 :: s217 :: s218 :: s219 :: s220 :: s221 :: s222 :: s223 :: s224 :: s225 :: s226 :: s227 :: s228 :: s229 :: s230 :: s231 :: s232 :: s233 :: s234 :: s235 :: s236 :: s237 :: s238 :: s239 :: s240 :: s241 :: s242 :: s243 :: s244 :: s245 :: s246 :: s247 :: s248 :: s249 :: s250 :: s251 :: s252 :: s253 :: s254 :: s255 :: s256 :: s257 :: s258 :: s259 :: s260 :: s261 :: s262 :: s263 :: s264 :: s265 :: s266 :: s267 :: s268 :: s269 :: s270 :: s271 :: s272 :: s273 :: s274 :: s275 :: s276 :: s277 :: s278 :: s279 :: s280 :: s281 :: s282 :: []), []⟩ W1) :
    Code.wp Tryd.prog (Code.loop cd) Q0 ⟨List.toArray (s0 :: s1 :: s2 :: .slice (some ⟨gp, op, none⟩) pl c10 :: s4 :: s5 :: s6 :: .int .i64 (q : Int) :: .pointer (some ⟨gw, 0, none⟩) :: .int .i64 0 :: s10 :: s11 :: s12 :: s13 :: s14 :: s15 :: s16 :: s17 :: s18 :: s19 :: s20 :: s21 :: s22 :: s23 :: s24 :: s25 :: s26 :: s27 :: s28 :: s29 :: s30 :: s31 :: s32 :: s33 :: s34 :: s35 :: s36 :: s37 :: s38 :: s39 :: s40 :: s41 :: s42 :: s43 :: s44 :: s45 :: s46 :: s47 :: s48 :: s49 :: s50 :: s51 :: s52 :: s53 :: s54 :: s55 :: s56 :: s57 :: s58 :: s59 :: s60 :: s61 :: s62 :: s63 :: s64 :: s65 :: s66 :: s67 :: s68 :: s69 :: s70 :: s71 :: s72 :: s73 :: s74 :: s75 :: s76 :: s77 :: s78 :: s79 :: s80 :: s81 :: s82 :: s83 :: s84 :: s85 :: s86 :: s87 :: s88 :: s89 :: s90 :: s91 :: s92 :: s93 :: s94 :: s95 :: s96 :: s97 :: s98 :: s99 :: s100 :: s101 :: s102 :: s103 :: s104 :: s105 :: s106 :: s107 :: s108 :: s109 :: s110 :: s111 :: s112 :: s113 :: s114 :: s115 :: s116 :: s117 :: s118 :: s119 :: s120 :: s121 :: s122 :: s123 :: s124 :: s125 :: s126 :: s127 :: s128 :: s129 :: s130 :: s131 :: s132 :: s133 :: s134 :: s135 :: s136 :: s137 :: s138 :: s139 :: s140 :: s141 :: s142 :: s143 :: s144 :: s145 :: s146 :: s147 :: s148 :: s149 :: s150 :: s151 :: s152 :: s153 :: s154 :: s155 :: s156 :: s157 :: s158 :: s159 :: s160 :: s161 :: s162 :: s163 :: s164 :: s165 :: s166 :: s167 :: s168 :: s169 :: s170 :: s171 :: s172 :: s173 :: s174 :: s175 :: s176 :: s177 :: s178 :: s179 :: s180 :: s181 :: s182 :: s183 :: s184 :: s185 :: s186 :: s187 :: s188 :: s189 :: s190 :: s191 :: s192 :: s193 :: s194 :: s195 :: s196 :: s197 :: s198 :: s199 :: s200 :: s201 :: s202 :: s203 :: s204 :: s205 :: s206 :: s207 :: s208 :: s209 :: s210 :: s211 :: s212 :: s213 :: s214 :: s215 :: s216 :: s217 :: s218 :: s219 :: s220 :: s221 :: s222 :: s223 :: s224 :: s225 :: s226 :: s227 :: s228 :: s229 :: s230 :: s231 :: s232 :: s233 :: s234 :: s235 :: s236 :: s237 :: s238 :: s239 :: s240 :: s241 :: s242 :: s243 :: s244 :: s245 :: s246 :: s247 :: s248 :: s249 :: s250 :: s251 :: s252 :: s253 :: s254 :: s255 :: s256 :: s257 :: s258 :: s259 :: s260 :: s261 :: s262 :: s263 :: s264 :: s265 :: s266 :: s267 :: s268 :: s269 :: s270 :: s271 :: s272 :: s273 :: s274 :: s275 :: s276 :: s277 :: s278 :: s279 :: s280 :: s281 :: s282 :: []), []⟩ w := by
  subst hcd
  have HBK := Lib.hid hbk
  have HPL := Lib.hid hpl
  have HZ := Lib.hid hz
  have HR := Lib.hid hr
  clear hbk hpl hz hr
  conv => arg 2; arg 1; whnf
  go_loopw [9] (fun i wr => ∃ t : Nat, t ≤ 64 ∧ i = .int .i64 (t : Int) ∧ Blk wr gw 82 (cellsW (sched blk t) 64).toArray ∧ Keep (· ≠ gw) w wr) (fun i _ => 64 - (intOf i).toNat)
  case atStart => exact ⟨0, by omega, rfl, HZ.out, Keep.refl _ _⟩
  case round =>
    obtain ⟨t, ht, rfl, k3, kk⟩ := hrel
    have K3 := Lib.hid k3
    have KK := Lib.hid kk
    have KR := Lib.hid (kk.rb HR.out (fun r hr => by cases hr; exact hgp))
    clear k3 kk
    by_cases hlt4 : t < 16
    · obtain ⟨p, hp⟩ : ∃ p, p = q + 4 * t := ⟨_, rfl⟩
      have hp1 : (q : Int) + 4 * (t : Int) = (p : Int) := by omega
      have hq4 : p + 3 < pm.length := by have := HPL.out; omega
      obtain ⟨b0, o0, e0, r0⟩ := KR.out (p + 0) (by omega)
      cases e0
      obtain ⟨b1, o1, e1, r1⟩ := KR.out (p + 1) (by omega)
      cases e1
      obtain ⟨b2, o2, e2, r2⟩ := KR.out (p + 2) (by omega)
      cases e2
      obtain ⟨b3, o3, e3, r3⟩ := KR.out (p + 3) (by omega)
      cases e3
      have hq5 : p + 3 < pl := by omega
      have hpb : p < 4194304 := by omega
      have hq6 : p + 2 < pl := by omega
      have hq7 : p + 1 < pl := by omega
      have hq8 : p < pl := by omega
      have u0 := UInt8.toNat_lt (pm[p + 0]'(by omega))
      have u1 := UInt8.toNat_lt (pm[p + 1]'(by omega))
      have u2 := UInt8.toNat_lt (pm[p + 2]'(by omega))
      have u3 := UInt8.toNat_lt (pm[p + 3]'(by omega))
      obtain ⟨z0, hz0⟩ : ∃ x, x = (pm[p + 0]'(by omega)).toNat := ⟨_, rfl⟩
      obtain ⟨z1, hz1⟩ : ∃ x, x = (pm[p + 1]'(by omega)).toNat := ⟨_, rfl⟩
      obtain ⟨z2, hz2⟩ : ∃ x, x = (pm[p + 2]'(by omega)).toNat := ⟨_, rfl⟩
      obtain ⟨z3, hz3⟩ : ∃ x, x = (pm[p + 3]'(by omega)).toNat := ⟨_, rfl⟩
      rw [← hz0] at r0 u0
      rw [← hz1] at r1 u1
      rw [← hz2] at r2 u2
      rw [← hz3] at r3 u3
      rw [Nat.add_zero] at r0
      have hbe : be32 blk (4 * t) = UInt32.ofNat (((z0 * 256 + z1) * 256 + z2) * 256 + z3) := by
        unfold be32
        have e : ∀ i, i < 4 → blk.getD (4 * t + i) 0 = pm.getD (p + i) 0 := fun i hi => by
          rw [HBK.out, List.getD_eq_getElem?_getD, List.getD_eq_getElem?_getD, List.getElem?_take, if_pos (by omega), List.getElem?_drop, hp, Nat.add_assoc]
        have e0 := e 0 (by omega)
        rw [Nat.add_zero] at e0
        rw [e0, e 1 (by omega), e 2 (by omega), e 3 (by omega), hz0, hz1, hz2, hz3]
        have eg : ∀ i (h : p + i < pm.length), pm.getD (p + i) 0 = pm[p + i] := fun i h => by simp [h]
        rw [eg 0 (by omega), eg 1 (by omega), eg 2 (by omega), eg 3 (by omega)]
      have hnx := sched_lo blk t hlt4
      rw [hbe] at hnx
      have HNX := Lib.hid hnx
      have hfw := K3.out.free t
      have hcw := K3.out.cell t
      rw [List.getElem?_toArray, cellsW_zero _ _ _ (by rw [sched_len]; omega) (by omega)] at hcw
      have hkl := cellsW_len (sched blk t) 64 (by rw [sched_len]; omega)
      have hsl := sched_len blk t
      have HSL := Lib.hid hsl
      have HKL := Lib.hid hkl
      obtain ⟨p1, hp1e⟩ : ∃ x, x = p + 1 := ⟨_, rfl⟩
      obtain ⟨p2, hp2e⟩ : ∃ x, x = p + 2 := ⟨_, rfl⟩
      obtain ⟨p3, hp3e⟩ : ∃ x, x = p + 3 := ⟨_, rfl⟩
      have hw1 : IntKind.i64.wrap ((p : Int) + 1) = (p1 : Int) := wrap_nat p 1 (by omega) p1 hp1e
      have hw2 : IntKind.i64.wrap ((p : Int) + 2) = (p2 : Int) := wrap_nat p 2 (by omega) p2 hp2e
      have hw3 : IntKind.i64.wrap ((p : Int) + 3) = (p3 : Int) := wrap_nat p 3 (by omega) p3 hp3e
      rw [← hp1e] at r1 hq7
      rw [← hp2e] at r2 hq6
      rw [← hp3e] at r3 hq5
      have hpb1 : p1 < 4194308 := by omega
      have hpb2 : p2 < 4194308 := by omega
      have hpb3 : p3 < 4194308 := by omega
      clear hp1e hp2e hp3e hp hz0 hz1 hz2 hz3 hbe hnx hsl hkl
      go_wp2_with fail
      go_still_tail 31, (by kernel_rfl)
      have hsv : wN (UInt32.ofNat (((z0 * 256 + z1) * 256 + z2) * 256 + z3)) = ((z0 * 256 + z1) * 256 + z2) * 256 + z3 := ofNat_wN _ (by omega)
      have HSV := Lib.hid hsv
      clear hsv
      change wpList _ _ _ _ _ (wr).drew
      go_wp2_with fail
      refine ⟨⟨t + 1, by omega, by go_num, ?_, ?_⟩, by simp [intOf]; omega⟩
      · rw [HNX.out]
        have hs := blk_set (x := UInt32.ofNat (((z0 * 256 + z1) * 256 + z2) * 256 + z3)) K3.out HSL.out (by omega)
        rw [HSV.out] at hs
        have e : (((((z0 * 256 + z1) * 256 + z2) * 256 + z3 : Nat)) : Int) = (z0 : Int) * 16777216 + (z1 : Int) * 65536 + (z2 : Int) * 256 + (z3 : Int) := by omega
        rw [e] at hs
        exact hs.drew
      · exact (KK.out.setCell (p := ⟨gw, t, none⟩) (fun h => h rfl) _).drew
    · by_cases hlt5 : t < 64
      · obtain ⟨t0, ht0⟩ : ∃ x, t = x + 16 := ⟨t - 16, by omega⟩
        obtain ⟨t1, ht1⟩ : ∃ x, t = x + 15 := ⟨t - 15, by omega⟩
        obtain ⟨t9, ht9⟩ : ∃ x, t = x + 7 := ⟨t - 7, by omega⟩
        obtain ⟨t14, ht14⟩ : ∃ x, t = x + 2 := ⟨t - 2, by omega⟩
        have w0 : IntKind.i64.wrap ((t : Int) - 16) = (t0 : Int) := wrap_sub t 16 t0 ht0 (by omega)
        have w1 : IntKind.i64.wrap ((t : Int) - 15) = (t1 : Int) := wrap_sub t 15 t1 ht1 (by omega)
        have w9 : IntKind.i64.wrap ((t : Int) - 7) = (t9 : Int) := wrap_sub t 7 t9 ht9 (by omega)
        have w14 : IntKind.i64.wrap ((t : Int) - 2) = (t14 : Int) := wrap_sub t 2 t14 ht14 (by omega)
        have b0 : t0 < 64 := by omega
        have b1 : t1 < 64 := by omega
        have b9 : t9 < 64 := by omega
        have b14 : t14 < 64 := by omega
        have d0 : (t0 : Int) < 64 := by omega
        have d9 : (t9 : Int) < 64 := by omega
        have hnx := sched_hi blk t0
        rw [← ht0, show t0 + 1 = t1 from by omega, show t0 + 9 = t9 from by omega, show t0 + 14 = t14 from by omega] at hnx
        unfold sg0 sg1 at hnx
        have hsl := sched_len blk t
        have hcell : ∀ j, j < t → wr.cell? ⟨gw, j, none⟩ = some (.int .u32 (wN ((sched blk t).getD j 0) : Int)) := by
          intro j hj
          rw [K3.out.cell, List.getElem?_toArray, cellsW_get _ _ _ (by rw [sched_len]; exact hj)]
        have c0 := hcell t0 (by omega)
        have c1 := hcell t1 (by omega)
        have c9 := hcell t9 (by omega)
        have c14 := hcell t14 (by omega)
        have cz := K3.out.cell t
        rw [List.getElem?_toArray, cellsW_zero _ _ _ (by rw [sched_len]; omega) (by omega)] at cz
        have hfr := K3.out.free t
        generalize (sched blk t).getD t0 0 = x0 at *
        generalize (sched blk t).getD t1 0 = x1 at *
        generalize (sched blk t).getD t9 0 = x9 at *
        generalize (sched blk t).getD t14 0 = x14 at *
        have HNX := Lib.hid hnx
        have HSL := Lib.hid hsl
        have hxor := r_xor
        have hs8 := r_sh8
        have hs10 := r_sh1024
        have hadd := r_addw
        have hmod := r_mod
        have hadd2 := r_add
        have hl0 := wN_lt x0
        have hl1 := wN_lt x1
        have hl9 := wN_lt x9
        have hl14 := wN_lt x14
        have R7 := Lib.hid fun W => turn_c x1 7 7 rfl (by omega) W
        have R18 := Lib.hid fun W => turn_c x1 18 18 rfl (by omega) W
        have R17 := Lib.hid fun W => turn_c x14 17 17 rfl (by omega) W
        have R19 := Lib.hid fun W => turn_c x14 19 19 rfl (by omega) W
        clear hnx hsl hcell ht0 ht1 ht9 ht14
        go_wp2_with fail
        go_quiet (first | (go_at_call 49; with_reducible exact quiet_same (R7.out _)) | (go_at_call 49; with_reducible exact quiet_same (R18.out _)))
        revert nq
        intro nqa
        go_wp2_with fail
        go_quiet (first | (go_at_call 49; with_reducible exact quiet_add_l (R17.out _)) | (go_at_call 49; with_reducible exact quiet_add_l (R19.out _)))
        go_wp2_with fail
        have e0 : ((wr.drewN nqa).drewN nq).cell? ⟨gw, t0, none⟩ = some (.int .u32 (wN x0 : Int)) := c0
        have e9 : ((wr.drewN nqa).drewN nq).cell? ⟨gw, t9, none⟩ = some (.int .u32 (wN x9 : Int)) := c9
        have ez : ((wr.drewN nqa).drewN nq).cell? ⟨gw, t, none⟩ = some (.int .u32 0) := cz
        have er : ((wr.drewN nqa).drewN nq).frozen? ⟨gw, t, none⟩ = false := hfr
        have L3 := Lib.hid (show Blk ((wr.drewN nqa).drewN nq) gw 82 (cellsW (sched blk t) 64).toArray from K3.out)
        have LK := Lib.hid ((KK.out.drewN nqa).drewN nq)
        clear c0 c1 c9 c14 cz hfr
        generalize (wr.drewN nqa).drewN nq = W at *
        go_still_tail 15, (by kernel_rfl)
        change wpList _ _ _ _ _ W.drew
        go_wp2_with fail
        refine ⟨⟨t + 1, by omega, by go_num, ?_, ?_⟩, by simp [intOf]; omega⟩
        · rw [HNX.out]
          exact (blk_set L3.out HSL.out hlt5).drew
        · exact (LK.out.setCell (p := ⟨gw, t, none⟩) (fun h => h rfl) _).drew
      · have h64 : t = 64 := by omega
        have k3 := K3.out
        rw [h64] at k3
        have hf : decide ((t : Int) < 64) = false := by simp; omega
        have hff : decide (t < 64) = false := by simp; omega
        have kk := KK.out
        clear h64 hlt4 hlt5 ht K3
        go_wp2_with fail
        exact hexit _ _ _ _ _ _ _ _ _ _ _ _ _ _ _ _ _ _ _ _ _ _ _ _ _ _ _ _ _ _ _ _ _ _ _ _ _ _ _ _ _ _ _ _ _ _ _ _ _ _ _ _ _ _ _ _ _ _ _ _ _ _ _ _ _ _ _ _ _ _ _ _ _ _ _ _ _ _ _ _ _ _ _ _ _ _ _ _ _ _ _ _ _ _ _ k3 kk

end Go.Proofs.YtdkadlifjmmcbaaDoor
