/- The rounds' loop of the reference's Sum. -/
import Derived.Test.YtdkadlifjmmcbaaDoorLpf
namespace Go.Proofs.YtdkadlifjmmcbaaDoor
open Go.RowKit
set_option linter.unusedSimpArgs false
set_option linter.unusedVariables false

set_option maxRecDepth 1000000 in
set_option maxHeartbeats 4000000 in
theorem rounds_loop {s0 s1 s2 s3 s4 s5 s6 s7 s9 s10 s11 s12 s22 s23 s24 s25 s26 s27 s28 s29 s30 s31 s32 s33 s34 s35 s36 s37 s38 s39 s40 s41 s42 s43 s44 s45 s46 s47 s48 s49 s50 s51 s52 s53 s54 s55 s56 s57 s58 s59 s60 s61 s62 s63 s64 s65 s66 s67 s68 s69 s70 s71 s72 s73 s74 s75 s76 s77 s78 s79 s80 s81 s82 s83 s84 s85 s86 s87 s88 s89 s90 s91 s92 s93 s94 s95 s96 s97 s98 s99 s100 s101 s102 s103 s104 s105 s106 s107 s108 s109 s110 s111 s112 s113 s114 s115 s116 s117 s118 s119 s120 s121 s122 s123 s124 s125 s126 s127 s128 s129 s130 s131 s132 s133 s134 s135 s136 s137 s138 s139 s140 s141 s142 s143 s144 s145 s146 s147 s148 s149 s150 s151 s152 s153 s154 s155 s156 s157 s158 s159 s160 s161 s162 s163 s164 s165 s166 s167 s168 s169 s170 s171 s172 s173 s174 s175 s176 s177 s178 s179 s180 s181 s182 s183 s184 s185 s186 s187 s188 s189 s190 s191 s192 s193 s194 s195 s196 s197 s198 s199 s200 s201 s202 s203 s204 s205 s206 s207 s208 s209 s210 s211 s212 s213 s214 s215 s216 s217 s218 s219 s220 s221 s222 s223 s224 s225 s226 s227 s228 s229 s230 s231 s232 s233 s234 s235 s236 s237 s238 s239 s240 s241 s242 s243 s244 s245 s246 s247 s248 s249 s250 s251 s252 s253 s254 s255 s256 s257 s258 s259 s260 s261 s262 s263 s264 s265 s266 s267 s268 s269 s270 s271 s272 s273 s274 s275 s276 s277 s278 s279 s280 s281 s282 : Value} {cd : Code} (hcd : cd = rsBody 4) {gw : Nat} {Q0 : Exit → Act → World → Prop} (s : St) (ws : List UInt32) (w : World) (hwl : ws.length = 64) (hw : Blk w gw 82 (cellsW ws 64).toArray) (hT : RTabOK w)
    (hexit : ∀ (v21 v22 v23 v169 v170 v171 v172 v173 v174 v175 v176 v177 v178 v179 v180 v181 v182 v183 v184 v185 v186 v187 v188 v189 v190 v191 v192 v193 v194 v195 v196 v197 v198 v199 v200 v201 v202 v203 v204 v205 v206 v207 v208 v209 v210 v211 v212 v213 v214 v215 v216 v217 v218 v219 v220 v221 v222 v223 v224 v225 v226 v227 v228 v229 v230 v231 : Value) (r : St) (WX : World) (hr : r = s.rounds ws 64) (kk3 : Keep (fun _ => True) w WX), Q0 (.exit 8) ⟨List.toArray (s0 :: s1 :: s2 :: s3 :: s4 :: s5 :: s6 :: s7 :: .pointer (some ⟨gw, 0, none⟩) :: s9 :: s10 :: s11 :: s12 :: .int .u32 (wN r.a : Int) :: .int .u32 (wN r.b : Int) :: .int .u32 (wN r.c : Int) :: .int .u32 (wN r.d : Int) :: .int .u32 (wN r.e : Int) :: .int .u32 (wN r.f : Int) :: .int .u32 (wN r.g : Int) :: .int .u32 (wN r.h : Int) :: v21 :: v22 :: v23 :: s24 :: s25 :: s26 :: s27 :: s28 :: s29 :: s30 :: s31 :: s32 :: s33 :: s34 :: s35 :: s36 :: s37 :: s38 :: s39 :: s40 :: s41 :: s42 :: s43 :: s44 :: s45 :: s46 :: s47 :: s48 :: s49 :: s50 :: s51 :: s52 :: s53 :: s54 :: s55 :: s56 :: s57 :: s58 :: s59 :: s60 :: s61 :: s62 :: s63 :: s64 :: s65 :: s66 :: s67 :: s68 :: s69 :: s70 :: s71 :: s72 :: s73 :: s74 :: s75 :: s76 :: s77 :: s78 :: s79 :: s80 :: s81 :: s82 :: s83 :: s84 :: s85 :: s86 :: s87 :: s88 :: s89 :: s90 :: s91 :: s92 :: s93 :: s94 :: s95 :: s96 :: s97 :: s98 :: s99 :: s100 :: s101 :: s102 :: s103 :: s104 :: s105 :: s106 :: s107 :: s108 :: s109 :: s110 :: s111 :: s112 :: s113 :: s114 :: s115 :: s116 :: s117 :: s118 :: s119 :: s120 :: s121 :: s122 :: s123 :: s124 :: s125 :: s126 :: s127 :: s128 :: s129 :: s130 :: s131 :: s132 :: s133 :: s134 :: s135 :: s136 :: s137 :: s138 :: s139 :: s140 :: s141 :: s142 :: s143 :: s144 :: s145 :: s146 :: s147 :: s148 :: s149 :: s150 :: s151 :: s152 :: s153 :: s154 :: s155 :: s156 :: s157 :: s158 :: s159 :: s160 :: s161 :: s162 :: s163 :: s164 :: s165 :: s166 :: s167 :: s168 :: v169 :: v170 :: v171 :: v172 :: v173 :: v174 :: v175 :: v176 :: v177 :: v178 :: v179 :: v180 :: v181 :: v182 :: v183 :: v184 :: v185 :: v186 :: v187 :: v188 :: v189 :: v190 :: v191 :: v192 :: v193 :: v194 :: v195 :: v196 :: v197 :: v198 :: v199 :: v200 :: v201 :: v202 :: v203 :: v204 :: v205 :: v206 :: v207 :: v208 :: v209 :: v210 :: v211 :: v212 :: v213 :: v214 :: v215 :: v216 :: v217 :: v218 :: v219 :: v220 :: v221 :: v222 :: v223 :: v224 :: v225 :: v226 :: v227 :: v228 :: v229 :: v230 :: v231 :: s232 :: s233 :: s234 :: s235 :: s236 :: s237 :: s238 :: s239 :: s240 :: s241 :: s242 :: s243 :: s244 :: s245 :: s246 :: s247 :: s248 :: s249 :: s250 :: s251 :: s252 :: s253 :: s254 :: s255 :: s256 :: s257 :: s258 :: s259 :: s260 :: s261 :: s262 :: s263 :: s264 :: s265 :: s266 :: s267 :: s268 :: s269 :: s270 :: s271 :: s272 :: s273 :: s274 :: s275 :: s276 :: s277 :: s278 :: s279 :: s280 :: s281 :: s282 :: []), []⟩ WX) :
    Code.wp Tryd.prog (Code.loop cd) Q0 ⟨List.toArray (s0 :: s1 :: s2 :: s3 :: s4 :: s5 :: s6 :: s7 :: .pointer (some ⟨gw, 0, none⟩) :: s9 :: s10 :: s11 :: s12 :: .int .u32 (wN s.a : Int) :: .int .u32 (wN s.b : Int) :: .int .u32 (wN s.c : Int) :: .int .u32 (wN s.d : Int) :: .int .u32 (wN s.e : Int) :: .int .u32 (wN s.f : Int) :: .int .u32 (wN s.g : Int) :: .int .u32 (wN s.h : Int) :: .int .i64 0 :: s22 :: s23 :: s24 :: s25 :: s26 :: s27 :: s28 :: s29 :: s30 :: s31 :: s32 :: s33 :: s34 :: s35 :: s36 :: s37 :: s38 :: s39 :: s40 :: s41 :: s42 :: s43 :: s44 :: s45 :: s46 :: s47 :: s48 :: s49 :: s50 :: s51 :: s52 :: s53 :: s54 :: s55 :: s56 :: s57 :: s58 :: s59 :: s60 :: s61 :: s62 :: s63 :: s64 :: s65 :: s66 :: s67 :: s68 :: s69 :: s70 :: s71 :: s72 :: s73 :: s74 :: s75 :: s76 :: s77 :: s78 :: s79 :: s80 :: s81 :: s82 :: s83 :: s84 :: s85 :: s86 :: s87 :: s88 :: s89 :: s90 :: s91 :: s92 :: s93 :: s94 :: s95 :: s96 :: s97 :: s98 :: s99 :: s100 :: s101 :: s102 :: s103 :: s104 :: s105 :: s106 :: s107 :: s108 :: s109 :: s110 :: s111 :: s112 :: s113 :: s114 :: s115 :: s116 :: s117 :: s118 :: s119 :: s120 :: s121 :: s122 :: s123 :: s124 :: s125 :: s126 :: s127 :: s128 :: s129 :: s130 :: s131 :: s132 :: s133 :: s134 :: s135 :: s136 :: s137 :: s138 :: s139 :: s140 :: s141 :: s142 :: s143 :: s144 :: s145 :: s146 :: s147 :: s148 :: s149 :: s150 :: s151 :: s152 :: s153 :: s154 :: s155 :: s156 :: s157 :: s158 :: s159 :: s160 :: s161 :: s162 :: s163 :: s164 :: s165 :: s166 :: s167 :: s168 :: s169 :: s170 :: s171 :: s172 :: s173 :: s174 :: s175 :: s176 :: s177 :: s178 :: s179 :: s180 :: s181 :: s182 :: s183 :: s184 :: s185 :: s186 :: s187 :: s188 :: s189 :: s190 :: s191 :: s192 :: s193 :: s194 :: s195 :: s196 :: s197 :: s198 :: s199 :: s200 :: s201 :: s202 :: s203 :: s204 :: s205 :: s206 :: s207 :: s208 :: s209 :: s210 :: s211 :: s212 :: s213 :: s214 :: s215 :: s216 :: s217 :: s218 :: s219 :: s220 :: s221 :: s222 :: s223 :: s224 :: s225 :: s226 :: s227 :: s228 :: s229 :: s230 :: s231 :: s232 :: s233 :: s234 :: s235 :: s236 :: s237 :: s238 :: s239 :: s240 :: s241 :: s242 :: s243 :: s244 :: s245 :: s246 :: s247 :: s248 :: s249 :: s250 :: s251 :: s252 :: s253 :: s254 :: s255 :: s256 :: s257 :: s258 :: s259 :: s260 :: s261 :: s262 :: s263 :: s264 :: s265 :: s266 :: s267 :: s268 :: s269 :: s270 :: s271 :: s272 :: s273 :: s274 :: s275 :: s276 :: s277 :: s278 :: s279 :: s280 :: s281 :: s282 :: []), []⟩ w := by
  subst hcd
  have HWL := Lib.hid hwl
  have HW := Lib.hid hw
  have HTT := Lib.hid hT
  have HR0 := Lib.hid (show s = s.rounds ws 0 from rfl)
  clear hwl hw hT
  conv => arg 2; arg 1; whnf
  go_loopw [13, 14, 15, 16, 17, 18, 19, 20, 21] (fun va vb vc vd ve vf vg vh i W3 => ∃ (k2 : Nat) (v : St), k2 ≤ 64 ∧ va = .int .u32 (wN v.a : Int) ∧ vb = .int .u32 (wN v.b : Int) ∧ vc = .int .u32 (wN v.c : Int) ∧ vd = .int .u32 (wN v.d : Int) ∧ ve = .int .u32 (wN v.e : Int) ∧ vf = .int .u32 (wN v.f : Int) ∧ vg = .int .u32 (wN v.g : Int) ∧ vh = .int .u32 (wN v.h : Int) ∧ i = .int .i64 (k2 : Int) ∧ v = s.rounds ws k2 ∧ Keep (fun _ => True) w W3) (fun _ _ _ _ _ _ _ _ i _ => 64 - (intOf i).toNat)
  case atStart => exact ⟨0, s, by omega, rfl, rfl, rfl, rfl, rfl, rfl, rfl, rfl, rfl, HR0.out, Keep.refl _ _⟩
  case round =>
    obtain ⟨k2, v, hk2, rfl, rfl, rfl, rfl, rfl, rfl, rfl, rfl, rfl, hv, mk⟩ := hrel
    by_cases hlt6 : k2 < 64
    · have hnv : v.step (shaK.getD k2 0) (ws.getD k2 0) = s.rounds ws (k2 + 1) := by rw [hv]; rfl
      have ht0 := HTT.out k2 hlt6
      have ht := (mk.cell trivial (cell_lt ht0)).trans ht0
      have hww := (mk.blk HW.out trivial).cell k2
      rw [List.getElem?_toArray, cellsW_get _ _ _ (by rw [HWL.out]; exact hlt6)] at hww
      obtain ⟨vn, hvn0⟩ : ∃ x, x = s.rounds ws (k2 + 1) := ⟨_, rfl⟩
      rw [← hvn0] at hnv
      have HVN0 := Lib.hid hvn0
      generalize shaK.getD k2 0 = kk at *
      generalize ws.getD k2 0 = ww at *
      obtain ⟨v0, v1, v2, v3, v4, v5, v6, v7⟩ := v
      have HNV := Lib.hid hnv
      have MK := Lib.hid mk
      clear hvn0 hnv hv mk ht0
      have hxor := r_xor
      have hand := r_and
      have hadd := r_addw
      have hadd2 := r_add
      have hnot := r_nsub
      have hmod := r_mod
      have l0 := wN_lt v0
      have l1 := wN_lt v1
      have l2 := wN_lt v2
      have l3 := wN_lt v3
      have l4 := wN_lt v4
      have l5 := wN_lt v5
      have l6 := wN_lt v6
      have l7 := wN_lt v7
      have R6 := Lib.hid fun W => turn_c v4 6 6 rfl (by omega) W
      have R11 := Lib.hid fun W => turn_c v4 11 11 rfl (by omega) W
      have R25 := Lib.hid fun W => turn_c v4 25 25 rfl (by omega) W
      have R2 := Lib.hid fun W => turn_c v0 2 2 rfl (by omega) W
      have R13 := Lib.hid fun W => turn_c v0 13 13 rfl (by omega) W
      have R22 := Lib.hid fun W => turn_c v0 22 22 rfl (by omega) W
      go_wp2_with fail
      go_quiet (first | (go_at_call 49; with_reducible exact quiet_same (R6.out _)) | (go_at_call 49; with_reducible exact quiet_same (R11.out _)) | (go_at_call 49; with_reducible exact quiet_same (R25.out _)))
      go_wp2_with fail
      refine (R2.out _).mono ?_
      rintro e w' ⟨rfl, rfl⟩
      go_wp2_with fail
      refine (R13.out _).mono ?_
      rintro e w' ⟨rfl, rfl⟩
      go_wp2_with fail
      refine (R22.out _).mono ?_
      rintro e w' ⟨rfl, rfl⟩
      go_wp2_with fail
      have hvn := HNV.out
      refine ⟨⟨k2 + 1, vn, by omega, ?_, ?_, ?_, ?_, ?_, ?_, ?_, ?_, by go_num, HVN0.out, MK.out.drewN _⟩, by simp [intOf]; omega⟩
      all_goals (rw [← hvn]; rfl)
    · have h64 : k2 = 64 := by omega
      rw [h64] at hv
      have hf : decide ((k2 : Int) < 64) = false := by simp; omega
      have hff : decide (k2 < 64) = false := by simp; omega
      have HV := Lib.hid hv
      have MK := Lib.hid mk
      clear h64 hk2 hlt6 hv mk
      go_wp2_with fail
      exact hexit _ _ _ _ _ _ _ _ _ _ _ _ _ _ _ _ _ _ _ _ _ _ _ _ _ _ _ _ _ _ _ _ _ _ _ _ _ _ _ _ _ _ _ _ _ _ _ _ _ _ _ _ _ _ _ _ _ _ _ _ _ _ _ _ _ _ v _ HV.out MK.out
end Go.Proofs.YtdkadlifjmmcbaaDoor
