/- The walk of the reference's Sum . -/
import Derived.Test.YtdkadlifjmmcbaaDoorLo
namespace Go.Proofs.YtdkadlifjmmcbaaDoor
open Go.RowKit
set_option linter.unusedSimpArgs false
set_option linter.unusedVariables false

set_option maxRecDepth 100000 in
set_option maxHeartbeats 8000000 in
theorem rsum_any (A : Option Addr) (n c : Nat) (b : List UInt8) (w : World) (hl : b.length = n) (hr : RB w A b) (hn : n ≤ 1048576) (hT : RTabOK w) :
    Calls Tryd.prog 25 #[.slice A n c] w fun e w' => e = .returned (.agg (bytesL (shaB b)).toArray) ∧ Below w.heap.size w w' := by
  subst hl
  have HTT := Lib.hid hT
  clear hT
  have hz1 := padZ_mod b.length
  have hp64 := padM_64 b
  have hz2 := padZ_least b.length
  have hpe : padM b = b ++ [128] ++ List.replicate (padZ b.length) 0 ++ be64 (8 * b.length) := rfl
  have hpl := padM_len b
  have hzb : padZ b.length < 64 := by unfold padZ; omega
  have hfin : ∀ s, s = St.start.blocks (padM b) ((padM b).length / 64) → shaB b = (s.list.map bytes4).flatten := by rintro s rfl; rfl
  have hHl := shaB_len b
  have hst0 : St.start.blocks (padM b) 0 = St.start := rfl
  have hstep := fun k => blocks_succ St.start (padM b) k
  generalize shaB b = H at *
  generalize padM b = pm at *
  generalize padZ b.length = z at *
  have HZ2 := Lib.hid hz2
  have HPE := Lib.hid hpe
  have HPL := Lib.hid hpl
  have HFIN := Lib.hid hfin
  have HST0 := Lib.hid hst0
  have HSTEP := Lib.hid hstep
  have HR := Lib.hid hr
  clear hr hz2 hpe hpl hfin hst0 hstep
  have hzv : ∀ W, (zeroValue 22).run Tryd.prog W = .ok (.agg (bytesL (zeros 32)).toArray) W := fun W => by
    rw [zeros32]
    exact run_zero_at (by kernel_rfl) W
  have C0 : OInv (w.heap.size + 1) (w.alloc (.cells (bytesL (zeros 32)).toArray 22)) none 0 0 [] (w.alloc (.cells (bytesL (zeros 32)).toArray 22)) := ⟨OwnB.nil _, Fresh.none _, Below.refl _ _, by simp⟩
  have HC0 := Lib.hid C0
  have hr0 := HR.out.below ((Below.refl _ w).alloc (Nat.le_refl _) (.cells (bytesL (zeros 32)).toArray 22))
  have HR0 := Lib.hid hr0
  clear C0 hr0
  go_enter Tryd.func25, Tryd.ntmps25
  go_wp2_with (first | (at_builtin; refine wpList_app rfl (.tmp 26) (.tmp 27) rfl _ none _ 0 _ rfl HC0.out.own A b.length c b rfl rfl HR0.out (by omega) ?_; intro A1 c1 w1 ho hg hb; have hq := HC0.out.app ho hg hb; rw [Nat.zero_add, List.nil_append] at hq; have HC1 := Lib.hid hq; clear ho hg hb hq) | (at_builtin; refine wpList_app rfl (.tmp 29) (.tmp 30) rfl _ A1 _ c1 _ rfl (HC1.out.alloc _).own (some ⟨w1.heap.size, 0, none⟩) 1 1 [128] rfl rfl (rb_byte w1 128 _ (by rfl)) (by omega) ?_; intro A2 c2 w2 ho hg hb; have HC2 := Lib.hid ((HC1.out.alloc _).app ho hg hb); clear ho hg hb) | fail)
  clear HC0 HR0
  go_loopw [3] (fun v wr => ∃ (k m : Nat) (A' : Option Addr) (c' : Nat), k ≤ z ∧ m = b.length + 1 + k ∧ v = .slice A' m c' ∧ OInv (w.heap.size + 1) (w.alloc (.cells (bytesL (zeros 32)).toArray 22)) A' m c' (b ++ [128] ++ List.replicate k 0) wr) (fun v _ => b.length + 1 + z - lenV v)
  case atStart => exact ⟨0, _, A2, c2, by omega, rfl, rfl, by simpa using HC2.out⟩
  case round =>
    obtain ⟨k, m, A', c', hk, hm, rfl, hC⟩ := hrel
    have HC := Lib.hid hC
    have HM := Lib.hid hm
    clear hC HC1 HC2
    by_cases hlt : k < z
    · have hne := HZ2.out k hlt
      rw [← hm] at hne
      have t1 : (((m : Int) % 64) != 56) = true := by simp; omega
      have hmb : m ≤ 2199023255552 := by omega
      clear hm
      go_wp2_with (at_builtin; refine wpList_app rfl (.tmp 36) (.tmp 37) rfl _ A' _ c' _ rfl (HC.out.alloc _).own (some ⟨wr.heap.size, 0, none⟩) 1 1 [0] rfl rfl (rb_byte wr 0 _ (by rfl)) (by omega) ?_; intro A3 c3 w3 ho hg hb; have HC3 := Lib.hid ((HC.out.alloc _).app ho hg hb); clear ho hg hb)
      refine ⟨⟨k + 1, m + 1, A3, c3, by omega, by have := HM.out; omega, rfl, ?_⟩, ?_⟩
      · rw [List.replicate_succ', ← List.append_assoc]
        exact HC3.out
      · show b.length + 1 + z - (m + 1) < b.length + 1 + z - m
        have := HM.out
        omega
    · have hkz : k = z := by omega
      have t1 : (((m : Int) % 64) != 56) = false := by simp; omega
      have hmb : m ≤ 2097152 := by omega
      have h8 : 8 * b.length < 18446744073709551616 := by omega
      clear hm
      go_wp2_with fail
      refine wp_loop_rounds 9 ?_

      rw [rounds_succ]
      go_wp2_with (at_builtin; refine wpList_app rfl (.tmp 47) (.tmp 54) rfl _ A' _ c' _ rfl (HC.out.alloc _).own (some ⟨wr.heap.size, 0, none⟩) 1 1 [(UInt8.ofNat (8 * b.length / 72057594037927936))] rfl rfl (rb_byte wr (UInt8.ofNat (8 * b.length / 72057594037927936)) _ (by simp; try omega)) (by omega) ?_; intro A3 c3 w3 ho hg hb; have C3 := Lib.hid ((HC.out.alloc _).app ho hg hb); clear ho hg hb)
      rw [rounds_succ]
      go_wp2_with (at_builtin; refine wpList_app rfl (.tmp 47) (.tmp 54) rfl _ A3 _ c3 _ rfl (C3.out.alloc _).own (some ⟨w3.heap.size, 0, none⟩) 1 1 [(UInt8.ofNat (8 * b.length / 281474976710656))] rfl rfl (rb_byte w3 (UInt8.ofNat (8 * b.length / 281474976710656)) _ (by simp; try omega)) (by omega) ?_; intro A4 c4 w4 ho hg hb; have C4 := Lib.hid ((C3.out.alloc _).app ho hg hb); clear ho hg hb)
      rw [rounds_succ]
      go_wp2_with (at_builtin; refine wpList_app rfl (.tmp 47) (.tmp 54) rfl _ A4 _ c4 _ rfl (C4.out.alloc _).own (some ⟨w4.heap.size, 0, none⟩) 1 1 [(UInt8.ofNat (8 * b.length / 1099511627776))] rfl rfl (rb_byte w4 (UInt8.ofNat (8 * b.length / 1099511627776)) _ (by simp; try omega)) (by omega) ?_; intro A5 c5 w5 ho hg hb; have C5 := Lib.hid ((C4.out.alloc _).app ho hg hb); clear ho hg hb)
      rw [rounds_succ]
      go_wp2_with (at_builtin; refine wpList_app rfl (.tmp 47) (.tmp 54) rfl _ A5 _ c5 _ rfl (C5.out.alloc _).own (some ⟨w5.heap.size, 0, none⟩) 1 1 [(UInt8.ofNat (8 * b.length / 4294967296))] rfl rfl (rb_byte w5 (UInt8.ofNat (8 * b.length / 4294967296)) _ (by simp; try omega)) (by omega) ?_; intro A6 c6 w6 ho hg hb; have C6 := Lib.hid ((C5.out.alloc _).app ho hg hb); clear ho hg hb)
      rw [rounds_succ]
      go_wp2_with (at_builtin; refine wpList_app rfl (.tmp 47) (.tmp 54) rfl _ A6 _ c6 _ rfl (C6.out.alloc _).own (some ⟨w6.heap.size, 0, none⟩) 1 1 [(UInt8.ofNat (8 * b.length / 16777216))] rfl rfl (rb_byte w6 (UInt8.ofNat (8 * b.length / 16777216)) _ (by simp; try omega)) (by omega) ?_; intro A7 c7 w7 ho hg hb; have C7 := Lib.hid ((C6.out.alloc _).app ho hg hb); clear ho hg hb)
      rw [rounds_succ]
      go_wp2_with (at_builtin; refine wpList_app rfl (.tmp 47) (.tmp 54) rfl _ A7 _ c7 _ rfl (C7.out.alloc _).own (some ⟨w7.heap.size, 0, none⟩) 1 1 [(UInt8.ofNat (8 * b.length / 65536))] rfl rfl (rb_byte w7 (UInt8.ofNat (8 * b.length / 65536)) _ (by simp; try omega)) (by omega) ?_; intro A8 c8 w8 ho hg hb; have C8 := Lib.hid ((C7.out.alloc _).app ho hg hb); clear ho hg hb)
      rw [rounds_succ]
      go_wp2_with (at_builtin; refine wpList_app rfl (.tmp 47) (.tmp 54) rfl _ A8 _ c8 _ rfl (C8.out.alloc _).own (some ⟨w8.heap.size, 0, none⟩) 1 1 [(UInt8.ofNat (8 * b.length / 256))] rfl rfl (rb_byte w8 (UInt8.ofNat (8 * b.length / 256)) _ (by simp; try omega)) (by omega) ?_; intro A9 c9 w9 ho hg hb; have C9 := Lib.hid ((C8.out.alloc _).app ho hg hb); clear ho hg hb)
      rw [rounds_succ]
      go_wp2_with (at_builtin; refine wpList_app rfl (.tmp 47) (.tmp 54) rfl _ A9 _ c9 _ rfl (C9.out.alloc _).own (some ⟨w9.heap.size, 0, none⟩) 1 1 [(UInt8.ofNat (8 * b.length))] rfl rfl (rb_byte w9 (UInt8.ofNat (8 * b.length)) _ (by simp; try omega)) (by omega) ?_; intro A10 c10 w10 ho hg hb; have C10 := Lib.hid ((C9.out.alloc _).app ho hg hb); clear ho hg hb)
      rw [rounds_succ]
      have hz8 : ∀ W, (zeroValue 81).run Tryd.prog W = .ok (.agg #[.int .u32 0, .int .u32 0, .int .u32 0, .int .u32 0, .int .u32 0, .int .u32 0, .int .u32 0, .int .u32 0]) W := fun W => run_zero_at (by kernel_rfl) W
      have hnew8 := heap_alloc_new w10 (.cells #[.int .u32 0, .int .u32 0, .int .u32 0, .int .u32 0, .int .u32 0, .int .u32 0, .int .u32 0, .int .u32 0] 81)
      have hwr8 := World.setRow_alloc_new w10 #[.int .u32 0, .int .u32 0, .int .u32 0, .int .u32 0, .int .u32 0, .int .u32 0, .int .u32 0, .int .u32 0] #[.int .u32 1779033703, .int .u32 3144134277, .int .u32 1013904242, .int .u32 2773480762, .int .u32 1359893119, .int .u32 2600822924, .int .u32 528734635, .int .u32 1541459225] 81
      have hsz8 : (Tryd.prog.info? 81).map (·.size) = some ((#[.int .u32 1779033703, .int .u32 3144134277, .int .u32 1013904242, .int .u32 2773480762, .int .u32 1359893119, .int .u32 2600822924, .int .u32 528734635, .int .u32 1541459225] : Array Value)).size := by kernel_rfl
      have hone8 : (#[.int .u32 1779033703, .int .u32 3144134277, .int .u32 1013904242, .int .u32 2773480762, .int .u32 1359893119, .int .u32 2600822924, .int .u32 528734635, .int .u32 1541459225] : Array Value).all (·.oneCell') = true := stA_one St.start
      have hb8 : Below (w.heap.size + 1) (w.alloc (.cells (bytesL (zeros 32)).toArray 22)) (w10.alloc (.cells #[.int .u32 1779033703, .int .u32 3144134277, .int .u32 1013904242, .int .u32 2773480762, .int .u32 1359893119, .int .u32 2600822924, .int .u32 528734635, .int .u32 1541459225] 81)) := C10.out.bel.alloc C10.out.hB _
      have hst8 : Blk (w10.alloc (.cells #[.int .u32 1779033703, .int .u32 3144134277, .int .u32 1013904242, .int .u32 2773480762, .int .u32 1359893119, .int .u32 2600822924, .int .u32 528734635, .int .u32 1541459225] 81)) w10.heap.size 81 (stA St.start) := Blk.new w10 81 _
      have hown8 := (C10.out.alloc (.cells #[.int .u32 1779033703, .int .u32 3144134277, .int .u32 1013904242, .int .u32 2773480762, .int .u32 1359893119, .int .u32 2600822924, .int .u32 528734635, .int .u32 1541459225] 81)).own
      have hpe8 : b ++ [128] ++ List.replicate k 0 ++ [UInt8.ofNat (8 * b.length / 72057594037927936)] ++ [UInt8.ofNat (8 * b.length / 281474976710656)] ++ [UInt8.ofNat (8 * b.length / 1099511627776)] ++ [UInt8.ofNat (8 * b.length / 4294967296)] ++ [UInt8.ofNat (8 * b.length / 16777216)] ++ [UInt8.ofNat (8 * b.length / 65536)] ++ [UInt8.ofNat (8 * b.length / 256)] ++ [UInt8.ofNat (8 * b.length)] = pm := by rw [HPE.out, hkz]; simp [be64]
      rw [hpe8] at hown8
      have HB8 := Lib.hid hb8
      have HS8 := Lib.hid hst8
      have HO8 := Lib.hid hown8
      have HR8 := Lib.hid ((Blk.new w 22 (bytesL (zeros 32)).toArray).below HB8.out (Nat.lt_succ_self _))
      clear hb8 hst8 hown8 hpe8 t1
      go_wp2_with (first | ((with_reducible refine wpList_store_rowS w10.heap.size #[.int .u32 1779033703, .int .u32 3144134277, .int .u32 1013904242, .int .u32 2773480762, .int .u32 1359893119, .int .u32 2600822924, .int .u32 528734635, .int .u32 1541459225] 81 _ hnew8 hsz8 ?_ hone8 ?_ ?_ ?_); rfl; rfl; rfl; rw [hwr8]) | fail)
      obtain ⟨gp, op, rfl, hgl, _⟩ := HO8.out.rb.head (by have := HPL.out; omega)
      have hml : m + 1 + 1 + 1 + 1 + 1 + 1 + 1 + 1 = pm.length := by have := HM.out; have := HPL.out; omega
      have HML := Lib.hid hml
      have HRP := Lib.hid HO8.out.rb
      have hgp : gp ≠ w10.heap.size := by have := C10.out.own.lt (r := gp) rfl; omega
      have HGL := Lib.hid hgl
      clear hgl hml
      generalize m + 1 + 1 + 1 + 1 + 1 + 1 + 1 + 1 = pl at *
      have hbW : Below w.heap.size w (w10.alloc (.cells #[.int .u32 1779033703, .int .u32 3144134277, .int .u32 1013904242, .int .u32 2773480762, .int .u32 1359893119, .int .u32 2600822924, .int .u32 528734635, .int .u32 1541459225] 81)) := ((Below.refl _ w).alloc (Nat.le_refl _) _).trans (HB8.out.mono (by omega))
      have HBW := Lib.hid hbW
      have hw10 : w.heap.size + 1 ≤ w10.heap.size := C10.out.hB
      have HW10 := Lib.hid hw10
      clear hbW hw10
      refine blocks_loop (by kernel_rfl) pm _ HML.out.symm (by rw [HML.out]; exact hp64) (by have := HML.out; have := HPL.out; omega) hgp HS8.out HRP.out HGL.out (HTT.out.below HBW.out) (by have := HW10.out; omega) ?_
      intro v7 v8 v9 v10 v11 v12 v13 v14 v15 v16 v17 v18 v19 v20 v21 v22 v23 v57 v58 v59 v60 v61 v62 v63 v64 v65 v66 v67 v68 v69 v70 v71 v72 v73 v74 v75 v76 v77 v78 v79 v80 v81 v82 v83 v84 v85 v86 v87 v88 v89 v90 v91 v92 v93 v94 v95 v96 v97 v98 v99 v100 v101 v102 v103 v104 v105 v106 v107 v108 v109 v110 v111 v112 v113 v114 v115 v116 v117 v118 v119 v120 v121 v122 v123 v124 v125 v126 v127 v128 v129 v130 v131 v132 v133 v134 v135 v136 v137 v138 v139 v140 v141 v142 v143 v144 v145 v146 v147 v148 v149 v150 v151 v152 v153 v154 v155 v156 v157 v158 v159 v160 v161 v162 v163 v164 v165 v166 v167 v168 v169 v170 v171 v172 v173 v174 v175 v176 v177 v178 v179 v180 v181 v182 v183 v184 v185 v186 v187 v188 v189 v190 v191 v192 v193 v194 v195 v196 v197 v198 v199 v200 v201 v202 v203 v204 v205 v206 v207 v208 v209 v210 v211 v212 v213 v214 v215 v216 v217 v218 v219 v220 v221 v222 v223 v224 v225 v226 v227 v228 v229 v230 v231 v232 v233 v234 v235 v236 v237 v238 v239 v240 v241 v242 v243 v244 v245 v246 v247 v248 v249 v250 v251 v252 v253 v254 v255 v256 v257 v258 v259 v260 v261 v262 v263 v264 WX hb5 hk5
      have hlt8 := HR8.out.lt
      have r0 := hk5.blk HR8.out ⟨by have := HW10.out; omega, hlt8⟩
      have hbx := HBW.out.trans (hk5.below (B := w.heap.size) (fun i hi => ⟨by have := HW10.out; omega, by omega⟩) HBW.out.size)
      rw [HML.out] at hb5
      obtain ⟨s, hs⟩ : ∃ s, s = St.start.blocks pm (pm.length / 64) := ⟨_, rfl⟩
      rw [← hs] at hb5
      have hHH : H = (s.list.map bytes4).flatten := HFIN.out s hs
      have hHB : ∀ x y, x < 8 → y < 4 → H.getD (4 * x + y) 0 = UInt8.ofNat ((s.list.getD x 0).toNat / 256 ^ (3 - y)) := fun x y hx hy => by rw [hHH]; exact sha_byte s x y hx hy
      have hghx := hb5.lt
      have N1 := Lib.hid (hb5.alloc (.cells (bytesL (zeros 32)).toArray 22))
      have N2 := Lib.hid (r0.alloc (.cells (bytesL (zeros 32)).toArray 22))
      have N0 := Lib.hid (Blk.new WX 22 (bytesL (zeros 32)).toArray)
      have NB := Lib.hid (hbx.alloc hbx.size (.cells (bytesL (zeros 32)).toArray 22))
      have hwx : w.heap.size < WX.heap.size := r0.lt
      have HHB := Lib.hid hHB
      clear hs hHH hHB hb5 hk5 r0 hbx hlt8 HR8 HS8 HO8 HRP HB8 HBW
      go_wp2_with fail
      refine out_loop (by kernel_rfl) H s _ hHl HHB.out N1.out N0.out (Nat.ne_of_lt hghx) ?_
      intro y25 y265 y266 y267 y268 y269 y270 y271 y272 y273 y274 y275 y276 y277 y278 y279 y280 y281 WY hb6 hk6
      have h2 := hk6.blk N2.out (Nat.ne_of_lt hwx)
      have hby := NB.out.trans (hk6.below (B := w.heap.size) (fun i hi => by show i ≠ WX.heap.size; omega) NB.out.size)
      have HSZ := Lib.hid (show (Tryd.prog.info? 22).map (·.size) = some (bytesL H).toArray.size by rw [List.size_toArray, bytesL_len, hHl]; kernel_rfl)
      have HSO := Lib.hid (show (bytesL (zeros 32)).toArray.size = (bytesL H).toArray.size by rw [List.size_toArray, List.size_toArray, bytesL_len, bytesL_len, hHl, zeros_len])
      have HBY := Lib.hid hby
      unfold Blk at h2 hb6
      clear hk6 hby N0 N1 N2 NB
      generalize WX.heap.size = gz at *
      go_wp2_with (first | ((with_reducible refine wpList_load_rowS gz 22 _ (0, 0) _ hb6 Tryd.underlying22 ?_ HSZ.out ?_ ?_); rfl; rfl) | ((with_reducible refine wpList_store_rowS w.heap.size (bytesL H).toArray 22 (bytesL (zeros 32)).toArray h2 HSZ.out HSO.out (bytesL_one H) ?_ ?_ ?_); rfl; rfl) | fail)
      refine bodyPost_ret (results_cell_row Tryd.results25 _ _ w.heap.size 22 (bytesL H).toArray (0, 0) _ rfl (setRow_heap _ _ (bytesL (zeros 32)).toArray _ _ (0, 0) h2) Tryd.underlying22 rfl HSZ.out) rfl ?_
      exact ⟨rfl, below_setRow HBY.out (Nat.le_refl _) _⟩

end Go.Proofs.YtdkadlifjmmcbaaDoor
