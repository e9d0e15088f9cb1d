/- The blocks' loop of the reference's Sum. -/
import Derived.Test.YtdkadlifjmmcbaaDoorLr
namespace Go.Proofs.YtdkadlifjmmcbaaDoor
open Go.RowKit
set_option linter.unusedSimpArgs false
set_option linter.unusedVariables false
theorem RTabOK.keep0 {w w' : World} {g : Nat} (h : RTabOK w) (hk : Keep (fun i => i ≠ g ∧ i < w.heap.size) w w') (hg : g ≠ 0) : RTabOK w' := fun j hj => by
  have hc := h j hj
  exact (hk.cell (p := ⟨0, j, none⟩) ⟨Ne.symm hg, cell_lt hc⟩ (cell_lt hc)).trans hc

set_option maxRecDepth 1000000 in
set_option maxHeartbeats 4000000 in
theorem blocks_loop {s0 s1 s2 s4 s5 s8 s9 s10 s11 s12 s13 s14 s15 s16 s17 s18 s19 s20 s21 s22 s23 s24 s25 s26 s27 s28 s29 s30 s31 s32 s33 s34 s35 s36 s37 s38 s39 s40 s41 s42 s43 s44 s45 s46 s47 s48 s49 s50 s51 s52 s53 s54 s55 s56 s57 s58 s59 s60 s61 s62 s63 s64 s65 s66 s67 s68 s69 s70 s71 s72 s73 s74 s75 s76 s77 s78 s79 s80 s81 s82 s83 s84 s85 s86 s87 s88 s89 s90 s91 s92 s93 s94 s95 s96 s97 s98 s99 s100 s101 s102 s103 s104 s105 s106 s107 s108 s109 s110 s111 s112 s113 s114 s115 s116 s117 s118 s119 s120 s121 s122 s123 s124 s125 s126 s127 s128 s129 s130 s131 s132 s133 s134 s135 s136 s137 s138 s139 s140 s141 s142 s143 s144 s145 s146 s147 s148 s149 s150 s151 s152 s153 s154 s155 s156 s157 s158 s159 s160 s161 s162 s163 s164 s165 s166 s167 s168 s169 s170 s171 s172 s173 s174 s175 s176 s177 s178 s179 s180 s181 s182 s183 s184 s185 s186 s187 s188 s189 s190 s191 s192 s193 s194 s195 s196 s197 s198 s199 s200 s201 s202 s203 s204 s205 s206 s207 s208 s209 s210 s211 s212 s213 s214 s215 s216 s217 s218 s219 s220 s221 s222 s223 s224 s225 s226 s227 s228 s229 s230 s231 s232 s233 s234 s235 s236 s237 s238 s239 s240 s241 s242 s243 s244 s245 s246 s247 s248 s249 s250 s251 s252 s253 s254 s255 s256 s257 s258 s259 s260 s261 s262 s263 s264 s265 s266 s267 s268 s269 s270 s271 s272 s273 s274 s275 s276 s277 s278 s279 s280 s281 s282 : Value} {cd : Code} (hcd : cd = rsBody 2) {gp op c10 pl gh : Nat} {Q0 : Exit → Act → World → Prop} (pm : List UInt8) (w : World) (hpl : pm.length = pl) (hp64 : pl % 64 = 0) (hplb : pl ≤ 2000000) (hgp : gp ≠ gh) (hh : Blk w gh 81 (stA St.start)) (hr : RB w (some ⟨gp, op, none⟩) pm) (hgl : gp < w.heap.size) (hT : RTabOK w) (hT0 : gh ≠ 0)
    (hexit : ∀ (v7 v8 v9 v10 v11 v12 v13 v14 v15 v16 v17 v18 v19 v20 v21 v22 v23 v57 v58 v59 v60 v61 v62 v63 v64 v65 v66 v67 v68 v69 v70 v71 v72 v73 v74 v75 v76 v77 v78 v79 v80 v81 v82 v83 v84 v85 v86 v87 v88 v89 v90 v91 v92 v93 v94 v95 v96 v97 v98 v99 v100 v101 v102 v103 v104 v105 v106 v107 v108 v109 v110 v111 v112 v113 v114 v115 v116 v117 v118 v119 v120 v121 v122 v123 v124 v125 v126 v127 v128 v129 v130 v131 v132 v133 v134 v135 v136 v137 v138 v139 v140 v141 v142 v143 v144 v145 v146 v147 v148 v149 v150 v151 v152 v153 v154 v155 v156 v157 v158 v159 v160 v161 v162 v163 v164 v165 v166 v167 v168 v169 v170 v171 v172 v173 v174 v175 v176 v177 v178 v179 v180 v181 v182 v183 v184 v185 v186 v187 v188 v189 v190 v191 v192 v193 v194 v195 v196 v197 v198 v199 v200 v201 v202 v203 v204 v205 v206 v207 v208 v209 v210 v211 v212 v213 v214 v215 v216 v217 v218 v219 v220 v221 v222 v223 v224 v225 v226 v227 v228 v229 v230 v231 v232 v233 v234 v235 v236 v237 v238 v239 v240 v241 v242 v243 v244 v245 v246 v247 v248 v249 v250 v251 v252 v253 v254 v255 v256 v257 v258 v259 v260 v261 v262 v263 v264 : Value)  (WX : World) (hb5 : Blk WX gh 81 (stA (St.start.blocks pm (pl / 64)))) (hk5 : Keep (fun i => i ≠ gh ∧ i < w.heap.size) w WX), Q0 (.exit 4) ⟨List.toArray (s0 :: s1 :: s2 :: .slice (some ⟨gp, op, none⟩) pl c10 :: s4 :: s5 :: .pointer (some ⟨gh, 0, none⟩) :: v7 :: v8 :: v9 :: v10 :: v11 :: v12 :: v13 :: v14 :: v15 :: v16 :: v17 :: v18 :: v19 :: v20 :: v21 :: v22 :: v23 :: s24 :: s25 :: s26 :: s27 :: s28 :: s29 :: s30 :: s31 :: s32 :: s33 :: s34 :: s35 :: s36 :: s37 :: s38 :: s39 :: s40 :: s41 :: s42 :: s43 :: s44 :: s45 :: s46 :: s47 :: s48 :: s49 :: s50 :: s51 :: s52 :: s53 :: s54 :: s55 :: s56 :: v57 :: v58 :: v59 :: v60 :: v61 :: v62 :: v63 :: v64 :: v65 :: v66 :: v67 :: v68 :: v69 :: v70 :: v71 :: v72 :: v73 :: v74 :: v75 :: v76 :: v77 :: v78 :: v79 :: v80 :: v81 :: v82 :: v83 :: v84 :: v85 :: v86 :: v87 :: v88 :: v89 :: v90 :: v91 :: v92 :: v93 :: v94 :: v95 :: v96 :: v97 :: v98 :: v99 :: v100 :: v101 :: v102 :: v103 :: v104 :: v105 :: v106 :: v107 :: v108 :: v109 :: v110 :: v111 :: v112 :: v113 :: v114 :: v115 :: v116 :: v117 :: v118 :: v119 :: v120 :: v121 :: v122 :: v123 :: v124 :: v125 :: v126 :: v127 :: v128 :: v129 :: v130 :: v131 :: v132 :: v133 :: v134 :: v135 :: v136 :: v137 :: v138 :: v139 :: v140 :: v141 :: v142 :: v143 :: v144 :: v145 :: v146 :: v147 :: v148 :: v149 :: v150 :: v151 :: v152 :: v153 :: v154 :: v155 :: v156 :: v157 :: v158 :: v159 :: v160 :: v161 :: v162 :: v163 :: v164 :: v165 :: v166 :: v167 :: v168 :: v169 :: v170 :: v171 :: v172 :: v173 :: v174 :: v175 :: v176 :: v177 :: v178 :: v179 :: v180 :: v181 :: v182 :: v183 :: v184 :: v185 :: v186 :: v187 :: v188 :: v189 :: v190 :: v191 :: v192 :: v193 :: v194 :: v195 :: v196 :: v197 :: v198 :: v199 :: v200 :: v201 :: v202 :: v203 :: v204 :: v205 :: v206 :: v207 :: v208 :: v209 :: v210 :: v211 :: v212 :: v213 :: v214 :: v215 :: v216 :: v217 :: v218 :: v219 :: v220 :: v221 :: v222 :: v223 :: v224 :: v225 :: v226 :: v227 :: v228 :: v229 :: v230 :: v231 :: v232 :: v233 :: v234 :: v235 :: v236 :: v237 :: v238 :: v239 :: v240 :: v241 :: v242 :: v243 :: v244 :: v245 :: v246 :: v247 :: v248 :: v249 :: v250 :: v251 :: v252 :: v253 :: v254 :: v255 :: v256 :: v257 :: v258 :: v259 :: v260 :: v261 :: v262 :: v263 :: v264 :: s265 :: s266 :: s267 :: s268 :: s269 :: s270 :: s271 :: s272 :: s273 :: s274 :: s275 :: s276 :: s277 :: s278 :: s279 :: s280 :: s281 :: s282 :: []), []⟩ WX) :
    Code.wp Tryd.prog (Code.loop cd) Q0 ⟨List.toArray (s0 :: s1 :: s2 :: .slice (some ⟨gp, op, none⟩) pl c10 :: s4 :: s5 :: .pointer (some ⟨gh, 0, none⟩) :: .int .i64 0 :: s8 :: s9 :: s10 :: s11 :: s12 :: s13 :: s14 :: s15 :: s16 :: s17 :: s18 :: s19 :: s20 :: s21 :: s22 :: s23 :: s24 :: s25 :: s26 :: s27 :: s28 :: s29 :: s30 :: s31 :: s32 :: s33 :: s34 :: s35 :: s36 :: s37 :: s38 :: s39 :: s40 :: s41 :: s42 :: s43 :: s44 :: s45 :: s46 :: s47 :: s48 :: s49 :: s50 :: s51 :: s52 :: s53 :: s54 :: s55 :: s56 :: s57 :: s58 :: s59 :: s60 :: s61 :: s62 :: s63 :: s64 :: s65 :: s66 :: s67 :: s68 :: s69 :: s70 :: s71 :: s72 :: s73 :: s74 :: s75 :: s76 :: s77 :: s78 :: s79 :: s80 :: s81 :: s82 :: s83 :: s84 :: s85 :: s86 :: s87 :: s88 :: s89 :: s90 :: s91 :: s92 :: s93 :: s94 :: s95 :: s96 :: s97 :: s98 :: s99 :: s100 :: s101 :: s102 :: s103 :: s104 :: s105 :: s106 :: s107 :: s108 :: s109 :: s110 :: s111 :: s112 :: s113 :: s114 :: s115 :: s116 :: s117 :: s118 :: s119 :: s120 :: s121 :: s122 :: s123 :: s124 :: s125 :: s126 :: s127 :: s128 :: s129 :: s130 :: s131 :: s132 :: s133 :: s134 :: s135 :: s136 :: s137 :: s138 :: s139 :: s140 :: s141 :: s142 :: s143 :: s144 :: s145 :: s146 :: s147 :: s148 :: s149 :: s150 :: s151 :: s152 :: s153 :: s154 :: s155 :: s156 :: s157 :: s158 :: s159 :: s160 :: s161 :: s162 :: s163 :: s164 :: s165 :: s166 :: s167 :: s168 :: s169 :: s170 :: s171 :: s172 :: s173 :: s174 :: s175 :: s176 :: s177 :: s178 :: s179 :: s180 :: s181 :: s182 :: s183 :: s184 :: s185 :: s186 :: s187 :: s188 :: s189 :: s190 :: s191 :: s192 :: s193 :: s194 :: s195 :: s196 :: s197 :: s198 :: s199 :: s200 :: s201 :: s202 :: s203 :: s204 :: s205 :: s206 :: s207 :: s208 :: s209 :: s210 :: s211 :: s212 :: s213 :: s214 :: s215 :: s216 :: s217 :: s218 :: s219 :: s220 :: s221 :: s222 :: s223 :: s224 :: s225 :: s226 :: s227 :: s228 :: s229 :: s230 :: s231 :: s232 :: s233 :: s234 :: s235 :: s236 :: s237 :: s238 :: s239 :: s240 :: s241 :: s242 :: s243 :: s244 :: s245 :: s246 :: s247 :: s248 :: s249 :: s250 :: s251 :: s252 :: s253 :: s254 :: s255 :: s256 :: s257 :: s258 :: s259 :: s260 :: s261 :: s262 :: s263 :: s264 :: s265 :: s266 :: s267 :: s268 :: s269 :: s270 :: s271 :: s272 :: s273 :: s274 :: s275 :: s276 :: s277 :: s278 :: s279 :: s280 :: s281 :: s282 :: []), []⟩ w := by
  subst hcd
  have HPL := Lib.hid hpl
  have HP64 := Lib.hid hp64
  have HH := Lib.hid hh
  have HR := Lib.hid hr
  have HTT := Lib.hid hT
  have HGL := Lib.hid hgl
  have HST0 := Lib.hid (show St.start.blocks pm 0 = St.start from rfl)
  have HSTEP := Lib.hid (fun k => blocks_succ St.start pm k)
  have hhl := hh.lt
  generalize hS0 : St.start = S0 at *
  have hzw := words_zero
  clear hpl hp64 hh hr hT hgl hS0
  conv => arg 2; arg 1; whnf
  go_loopw [7] (fun i wr => ∃ (j q : Nat) (s : St), q = 64 * j ∧ q ≤ pl ∧ i = .int .i64 (q : Int) ∧ s = S0.blocks pm j ∧ Blk wr gh 81 (stA s) ∧ Keep (fun i => i ≠ gh ∧ i < w.heap.size) w wr) (fun i _ => pl - (intOf i).toNat)
  case atStart => exact ⟨0, 0, S0, rfl, by omega, rfl, HST0.out.symm, HH.out, Keep.refl _ _⟩
  case round =>
    obtain ⟨j, q, s, hq, hqp, rfl, hs, h1, hk⟩ := hrel
    have HS := Lib.hid hs
    have H1 := Lib.hid h1
    have HKK := Lib.hid hk
    have HQ := Lib.hid hq
    clear hq
    by_cases hlt : q < pl
    · have hq64 : q + 64 ≤ pl := by have := HQ.out; have := HP64.out; omega
      have hw0 := hk.size
      have hwr : gh < wr.heap.size := h1.lt
      have hrb := hk.rb HR.out (fun r hr => by cases hr; exact ⟨hgp, HGL.out⟩)
      clear hs h1 hk
      go_wp2_with fail
      have hgw : gh ≠ wr.heap.size := by omega
      have hgpw : gp ≠ wr.heap.size := by have := HGL.out; omega
      have a1 := H1.out.alloc (.cells (cellsW [] 64).toArray 82)
      have az := Blk.new wr 82 (cellsW [] 64).toArray
      have ar : RB (wr.alloc (.cells (cellsW [] 64).toArray 82)) (some ⟨gp, op, none⟩) pm := hrb.keep fun p hp => World.cell?_alloc_lt wr _ p hp
      have ak := HKK.out.alloc (.cells (cellsW [] 64).toArray 82)
      have A1 := Lib.hid a1
      have AZ := Lib.hid az
      have AR := Lib.hid ar
      have AK := Lib.hid ak
      have HB := Lib.hid hw0
      clear a1 az ar ak hrb hw0
      generalize wr.alloc (.cells (cellsW [] 64).toArray 82) = W0 at *
      generalize hgwe : wr.heap.size = gw at *
      obtain ⟨blk, hblk⟩ : ∃ blk, blk = (pm.drop q).take 64 := ⟨_, rfl⟩
      have HBK := Lib.hid hblk
      refine sched_loop (by kernel_rfl) pm blk W0 HPL.out hq64 hplb hblk hgpw AZ.out AR.out ?_
      clear hblk hgwe
      intro v9 v10 v11 v12 v63 v64 v65 v66 v67 v68 v69 v70 v71 v72 v73 v74 v75 v76 v77 v78 v79 v80 v81 v82 v83 v84 v85 v86 v87 v88 v89 v90 v91 v92 v93 v94 v95 v96 v97 v98 v99 v100 v101 v102 v103 v104 v105 v106 v107 v108 v109 v110 v111 v112 v113 v114 v115 v116 v117 v118 v119 v120 v121 v122 v123 v124 v125 v126 v127 v128 v129 v130 v131 v132 v133 v134 v135 v136 v137 v138 v139 v140 v141 v142 v143 v144 v145 v146 v147 v148 v149 v150 v151 v152 W1 kz kk
      have x1 := kk.blk A1.out hgw
      have xr := kk.rb AR.out (fun r hr => by cases hr; exact hgpw)
      have xk := AK.out.trans (kk.mono fun i _ hi => by have := HB.out; have := hi.2; omega)
      have hst := HSTEP.out j
      rw [← HS.out, ← HQ.out, ← HBK.out] at hst
      have hmx : ∀ r, r = s.rounds (sched blk 64) 64 → s.mix blk = s.add r := by rintro r rfl; rfl
      have hwl := sched_len blk 64
      have q0 : W1.cell? ⟨gh, 0, none⟩ = some (.int .u32 (wN s.a : Int)) := by rw [(x1).cell]; rfl
      have q1 : W1.cell? ⟨gh, 1, none⟩ = some (.int .u32 (wN s.b : Int)) := by rw [(x1).cell]; rfl
      have q2 : W1.cell? ⟨gh, 2, none⟩ = some (.int .u32 (wN s.c : Int)) := by rw [(x1).cell]; rfl
      have q3 : W1.cell? ⟨gh, 3, none⟩ = some (.int .u32 (wN s.d : Int)) := by rw [(x1).cell]; rfl
      have q4 : W1.cell? ⟨gh, 4, none⟩ = some (.int .u32 (wN s.e : Int)) := by rw [(x1).cell]; rfl
      have q5 : W1.cell? ⟨gh, 5, none⟩ = some (.int .u32 (wN s.f : Int)) := by rw [(x1).cell]; rfl
      have q6 : W1.cell? ⟨gh, 6, none⟩ = some (.int .u32 (wN s.g : Int)) := by rw [(x1).cell]; rfl
      have q7 : W1.cell? ⟨gh, 7, none⟩ = some (.int .u32 (wN s.h : Int)) := by rw [(x1).cell]; rfl
      generalize sched blk 64 = ws at *
      generalize s.mix blk = sm at *
      have HST := Lib.hid hst
      have HMX := Lib.hid hmx
      have HWL := Lib.hid hwl
      have X1 := Lib.hid x1
      have XR := Lib.hid xr
      have XK := Lib.hid xk
      have XZ := Lib.hid kz
      clear hst hmx hwl x1 xr xk kz kk A1 AZ AR AK
      go_wp2_with fail
      go_quiet (fail)
      clear q0 q1 q2 q3 q4 q5 q6 q7
      have Y1 := Lib.hid (show Blk (W1.drewN nq) gh 81 (stA s) from X1.out)
      have YZ := Lib.hid (show Blk (W1.drewN nq) gw 82 (cellsW ws 64).toArray from XZ.out)
      have YK := Lib.hid (XK.out.drewN nq)
      clear X1 XR XK XZ
      generalize W1.drewN nq = W2 at *
      go_wp2_with fail
      refine rounds_loop (by kernel_rfl) s ws W2 HWL.out YZ.out (HTT.out.keep0 YK.out hT0) ?_
      intro y21 y22 y23 y169 y170 y171 y172 y173 y174 y175 y176 y177 y178 y179 y180 y181 y182 y183 y184 y185 y186 y187 y188 y189 y190 y191 y192 y193 y194 y195 y196 y197 y198 y199 y200 y201 y202 y203 y204 y205 y206 y207 y208 y209 y210 y211 y212 y213 y214 y215 y216 y217 y218 y219 y220 y221 y222 y223 y224 y225 y226 y227 y228 y229 y230 y231 r W3 hr kk3
      have z1 := kk3.blk Y1.out trivial
      have zk := YK.out.trans (kk3.mono fun _ _ _ => trivial)
      have hsm : sm = s.add r := HMX.out r hr
      have p0 : W3.cell? ⟨gh, 0, none⟩ = some (.int .u32 (wN s.a : Int)) := by rw [(z1).cell]; rfl
      have p1 : W3.cell? ⟨gh, 1, none⟩ = some (.int .u32 (wN s.b : Int)) := by rw [(z1).cell]; rfl
      have p2 : W3.cell? ⟨gh, 2, none⟩ = some (.int .u32 (wN s.c : Int)) := by rw [(z1).cell]; rfl
      have p3 : W3.cell? ⟨gh, 3, none⟩ = some (.int .u32 (wN s.d : Int)) := by rw [(z1).cell]; rfl
      have p4 : W3.cell? ⟨gh, 4, none⟩ = some (.int .u32 (wN s.e : Int)) := by rw [(z1).cell]; rfl
      have p5 : W3.cell? ⟨gh, 5, none⟩ = some (.int .u32 (wN s.f : Int)) := by rw [(z1).cell]; rfl
      have p6 : W3.cell? ⟨gh, 6, none⟩ = some (.int .u32 (wN s.g : Int)) := by rw [(z1).cell]; rfl
      have p7 : W3.cell? ⟨gh, 7, none⟩ = some (.int .u32 (wN s.h : Int)) := by rw [(z1).cell]; rfl
      have hadd := r_addw
      have hadd2 := r_add
      have hmod := r_mod
      have HSZN := Lib.hid (stA_info sm)
      have HSO8 := Lib.hid (stA_size s sm)
      have HSN := Lib.hid (show stA sm = stA (s.add r) by rw [hsm])
      have HGB := Lib.hid (show W3.heap[gh]? = some (.cells (stA s) 81 (0, 0)) from z1)
      have ZK := Lib.hid zk
      have hqi : (q : Int) + 64 ≤ 4194304 := by omega
      clear hsm hr kk3 z1 zk YK YZ Y1
      go_wp2_with (first | ((with_reducible refine wpList_store_rowS gh (stA sm) 81 (stA s) HGB.out HSZN.out HSO8.out (stA_one sm) ?_ ?_ ?_); rfl; exact (congrArg Value.agg HSN.out).symm) | fail)
      refine ⟨⟨j + 1, q + 64, sm, by have := HQ.out; omega, hq64, by go_num, HST.out.symm, setRow_heap _ _ _ _ _ _ HGB.out, ?_⟩, by simp [intOf]; omega⟩
      exact ZK.out.trans ⟨rfl, rfl, rfl, by simp [World.setRow], fun i _ hi => setRow_other _ _ _ _ hi.1⟩
    · have hqe : q = pl := by omega
      have hje : j = pl / 64 := by have := HQ.out; omega
      rw [hje] at hs
      rw [hs] at h1
      have hf : decide ((q : Int) < (pl : Int)) = false := by simp; omega
      have hff : decide (q < pl) = false := by simp; omega
      have H1' := Lib.hid h1
      have HK' := Lib.hid hk
      clear hqe hje hs h1 hk hlt hqp HS H1
      go_wp2_with fail
      exact hexit _ _ _ _ _ _ _ _ _ _ _ _ _ _ _ _ _ _ _ _ _ _ _ _ _ _ _ _ _ _ _ _ _ _ _ _ _ _ _ _ _ _ _ _ _ _ _ _ _ _ _ _ _ _ _ _ _ _ _ _ _ _ _ _ _ _ _ _ _ _ _ _ _ _ _ _ _ _ _ _ _ _ _ _ _ _ _ _ _ _ _ _ _ _ _ _ _ _ _ _ _ _ _ _ _ _ _ _ _ _ _ _ _ _ _ _ _ _ _ _ _ _ _ _ _ _ _ _ _ _ _ _ _ _ _ _ _ _ _ _ _ _ _ _ _ _ _ _ _ _ _ _ _ _ _ _ _ _ _ _ _ _ _ _ _ _ _ _ _ _ _ _ _ _ _ _ _ _ _ _ _ _ _ _ _ _ _ _ _ _ _ _ _ _ _ _ _ _ _ _ _ _ _ _ _ _ _ _ _ _ _ _ _ _ _ _ _ _ _ _ _ _ _ _ _ _ H1'.out HK'.out
end Go.Proofs.YtdkadlifjmmcbaaDoor
