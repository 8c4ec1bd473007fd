/- Contract of Parse of the reference of package date, part 3 of 5: the rest of its body, statement by statement, from the end on. -/
import Derived.Test.YtpdncgfkoibacaaDoorRefChain
import Derived.Test.YtpdncgfkoibacaaDoorRead
import Derived.Test.YtpdncgfkoibacaaDoorRefFrom
import Derived.Test.YtpdncgfkoibacaaDoorTail
import Derived.Test.YtpdncgfkoibacaaDoorRest
import Derived.Deep.DeepCutAuto
import Derived.Test.YtpdncgfkoibacaaDoorRefP2
namespace Go.Proofs.YtpdncgfkoibacaaDoor
open Go.RowKit
open Cal


set_option maxRecDepth 100000 in
set_option maxHeartbeats 8000000 in
theorem refTail25a {v1 v2 v3 v4 v9 v15 v16 v17 v18 v19 v20 v21 v22 v23 v24 v25 v26 v27 v28 v29 v30 v31 v32 v33 v34 v35 v36 v37 v38 v39 v40 v41 v42 v43 v44 v45 v46 v47 v48 v49 v50 v51 v52 v53 v54 v55 v56 v57 v58 v59 v60 v61 v62 v63 v64 v65 v66 v67 v68 v69 v70 v71 v72 v73 v74 v75 v76 v77 v78 v79 v80 v81 v82 v83 v84 v85 v86 v87 v88 v89 v90 v91 v92 v93 v94 v95 v96 v97 v98 v99 v100 v101 v102 v103 v104 v105 v106 v107 v108 v109 v110 v111 v112 v113 v114 v115 v116 v117 v118 v119 v120 v121 v122 v123 v124 v125 v126 v127 v128 v129 v130 v131 v132 v133 v134 v135 v136 v137 v138 v139 v140 v141 v142 v143 v144 v145 v146 v147 v148 v149 v150 v151 v152 v153 v154 v155 v156 v157 v158 v159 v160 v161 v162 v163 v164 v165 v166 v167 v168 v169 v170 v171 v172 v173 v174 v175 v176 v177 v178 v179 v180 v181 v182 v183 v184 v185 v186 v187 v188 v189 v190 v191 v192 v193 v194 v195 v196 v197 v198 v199 v200 v201 v202 v203 v204 v205 v206 v207 v208 v209 v210 v211 v212 v213 v214 v215 v216 v217 v218 v219 v220 v221 v222 v223 v224 v225 v226 v227 v228 v229 v230 v231 v232 v233 v234 v235 v236 v237 v238 v239 v240 v241 v242 v243 v244 v245 v246 v247 v248 v249 v250 v251 v252 v253 v254 v255 v256 v257 v258 v259 v260 v261 v262 v263 v264 v265 v266 v267 v268 v269 v270 v271 v272 v273 v274 v275 v276 v277 v278 v279 v280 v281 v282 v283 v284 v285 v286 v287 v288 : Value} (t : List UInt8) (w wx : World) (F : Int × Int × Int) (cb : Nat) (y m d h n : Int) (sv : Int) (sa : Nat) (DP : Nat) (hl : t.length ≤ 64) (HF : Hid (parseF t = F)) (hx : PC w t wx ⟨DP, 0⟩ cb y m d h n) (hd : 0 = 0 → (y = pYear t ∧ m = pMon t ∧ d = pDay t ∧ h = pHour t ∧ n = pMin t) ∧ sv = pSec t) (y0 : 0 ≤ y) (y1 : y ≤ 9999) (m0 : 1 ≤ m) (m1 : m ≤ 12) (d0 : 0 ≤ d) (d1 : d ≤ 99999) (h0 : 0 ≤ h) (h1 : h ≤ 9999) (n0 : 0 ≤ n) (n1 : n ≤ 9999) (s0 : 0 ≤ sv) (s1 : sv ≤ 9999) (hsa : 60 < sv → (sa : Int) = pSecAt t) (hz : Hid (r13 t = zoneSt t ⟨DP, 0⟩ ∧ pOff t = zoneOf t ⟨DP, 0⟩)) (pd : DP ≤ t.length) (hlt : DP < t.length) :
    Code.wp Tryd.prog (Flow.rest 25 Tryd.f22) (bodyPost Tryd.prog Tryd.f22 fun e w' => e = .returned (.tuple #[.int .i64 F.1, .int .i64 F.2.1, .int .i64 F.2.2]) ∧ Below w.heap.size w w') ⟨#[.string ⟨t.toArray⟩, v1, v2, v3, v4, .pointer (some ⟨w.heap.size, 0, none⟩), .int .i64 (pWd t), .pointer (some ⟨cb, 0, none⟩), .int .i64 sv, v9, .int .i64 (r1 t).p, .int .i64 (r5 t).p, .int .i64 (r7 t).p, .int .i64 (r9 t).p, .int .i64 sa, v15, v16, v17, v18, v19, v20, v21, v22, v23, v24, v25, v26, v27, v28, v29, v30, v31, v32, v33, v34, v35, v36, v37, v38, v39, v40, v41, v42, v43, v44, v45, v46, v47, v48, v49, v50, v51, v52, v53, v54, v55, v56, v57, v58, v59, v60, v61, v62, v63, v64, v65, v66, v67, v68, v69, v70, v71, v72, v73, v74, v75, v76, v77, v78, v79, v80, v81, v82, v83, v84, v85, v86, v87, v88, v89, v90, v91, v92, v93, v94, v95, v96, v97, v98, v99, v100, v101, v102, v103, v104, v105, v106, v107, v108, v109, v110, v111, v112, v113, v114, v115, v116, v117, v118, v119, v120, v121, v122, v123, v124, v125, v126, v127, v128, v129, v130, v131, v132, v133, v134, v135, v136, v137, v138, v139, v140, v141, v142, v143, v144, v145, v146, v147, v148, v149, v150, v151, v152, v153, v154, v155, v156, v157, v158, v159, v160, v161, v162, v163, v164, v165, v166, v167, v168, v169, v170, v171, v172, v173, v174, v175, v176, v177, v178, v179, v180, v181, v182, v183, v184, v185, v186, v187, v188, v189, v190, v191, v192, v193, v194, v195, v196, v197, v198, v199, v200, v201, v202, v203, v204, v205, v206, v207, v208, v209, v210, v211, v212, v213, v214, v215, v216, v217, v218, v219, v220, v221, v222, v223, v224, v225, v226, v227, v228, v229, v230, v231, v232, v233, v234, v235, v236, v237, v238, v239, v240, v241, v242, v243, v244, v245, v246, v247, v248, v249, v250, v251, v252, v253, v254, v255, v256, v257, v258, v259, v260, v261, v262, v263, v264, v265, v266, v267, v268, v269, v270, v271, v272, v273, v274, v275, v276, v277, v278, v279, v280, v281, v282, v283, v284, v285, v286, v287, v288], []⟩ wx := by
  refine Flow.wp_rest rfl ?_
  have hl2 : t.length ≤ 1000 := by omega
  have hl3 : (t.length : Int) ≤ 64 := by omega
  dsimp only
  have H3 := Lib.hid hx; clear hx
  have HD := Lib.hid hd; clear hd
  have pd2 : DP ≤ 1000 := by omega
  have c0 := H3.out.P.c0
  have c1 := H3.out.P.c1
  have c2 := H3.out.P.c2
  have f0 := H3.out.P.f 0
  have f1 := H3.out.P.f 1
  have f2 := H3.out.P.f 2
  have hdl : (t.drop DP).length ≤ 1000 := by simp; omega
  have hne : ¬ DP = t.length := by omega
  have hz1 : r13 t = (if zoneE (t.drop DP) = 0 then ⟨DP, 0⟩ else ⟨DP, zoneE (t.drop DP)⟩) := by rw [hz.out.1]; unfold zoneSt; rw [if_pos rfl, if_neg hne]
  have hz2 : pOff t = zoneV (t.drop DP) := by rw [hz.out.2]; unfold zoneOf; rw [if_pos rfl, if_neg hne]
  have Z := Lib.hid (And.intro hz1 hz2)
  have hge : decide (t.length ≤ DP) = false := by simp; omega
  have hex := extract_take t DP t.length
  have hexl : (t.drop DP).take (t.length - DP) = t.drop DP := List.take_of_length_le (by simp)
  rw [hexl] at hex
  have HX := Lib.hid hex
  clear hz1 hz2 hz hne hex hexl
  go_upto_if 190 with fail
  go_cut [15] (fun s15 wz => s15 = .int .i64 (pOff t) ∧ PC w t wz (r13 t) cb y m d h n)
  case first =>
    go_wp2_with fail
    rw [HX.out]
    refine (refZone_any (t.drop DP) _ hdl).mono ?_; rintro e wa ⟨rfl, ba⟩
    have HA := Lib.hid (H3.out.below ba)
    clear ba H3 c0 c1 c2 f0 f1 f2 HX
    generalize zoneV (t.drop DP) = ZV at *
    generalize zoneE (t.drop DP) = ZE at *
    have c0 := HA.out.P.c0
    have c1 := HA.out.P.c1
    have c2 := HA.out.P.c2
    go_wp2_with fail
    refine (refCheck_any _ ⟨DP, 0⟩ _ DP ZE _).mono ?_; rintro e wb ⟨rfl, bb⟩
    have HB := Lib.hid (HA.out.below bb)
    clear bb HA c0 c1 c2
    have hst : (if ((ZE : Int) == 0) = true then (⟨DP, 0⟩ : St) else failAt ⟨DP, 0⟩ DP ZE) = r13 t := by
      rw [Z.out.1]
      by_cases q : ZE = 0
      · rw [if_pos q, if_pos (by simp [q])]
      · rw [if_neg q, if_neg (by simpa using q)]; rfl
    rw [hst]
    clear hst
    have c0 := HB.out.P.c0
    have c1 := HB.out.P.c1
    have c2 := HB.out.P.c2
    have f0 := HB.out.P.f 0
    have f1 := HB.out.P.f 1
    have f2 := HB.out.P.f 2
    go_wp2_with fail
    go_meet
    exact ⟨by rw [Z.out.2], HB.out.text _⟩
  clear H3 c0 c1 c2 f0 f1 f2 HX
  obtain ⟨rfl, hx⟩ := hcut
  apply_assumption
  exact Flow.wp_of_rest (n := 28) (f := Tryd.f22) rfl (refTail28 t w _ F cb y m d h n sv sa hl HF hx (fun _ => HD.out rfl) y0 y1 m0 m1 d0 d1 h0 h1 n0 n1 s0 s1 hsa)


set_option maxRecDepth 100000 in
set_option maxHeartbeats 8000000 in
theorem refTail25b {v1 v2 v3 v4 v9 v15 v16 v17 v18 v19 v20 v21 v22 v23 v24 v25 v26 v27 v28 v29 v30 v31 v32 v33 v34 v35 v36 v37 v38 v39 v40 v41 v42 v43 v44 v45 v46 v47 v48 v49 v50 v51 v52 v53 v54 v55 v56 v57 v58 v59 v60 v61 v62 v63 v64 v65 v66 v67 v68 v69 v70 v71 v72 v73 v74 v75 v76 v77 v78 v79 v80 v81 v82 v83 v84 v85 v86 v87 v88 v89 v90 v91 v92 v93 v94 v95 v96 v97 v98 v99 v100 v101 v102 v103 v104 v105 v106 v107 v108 v109 v110 v111 v112 v113 v114 v115 v116 v117 v118 v119 v120 v121 v122 v123 v124 v125 v126 v127 v128 v129 v130 v131 v132 v133 v134 v135 v136 v137 v138 v139 v140 v141 v142 v143 v144 v145 v146 v147 v148 v149 v150 v151 v152 v153 v154 v155 v156 v157 v158 v159 v160 v161 v162 v163 v164 v165 v166 v167 v168 v169 v170 v171 v172 v173 v174 v175 v176 v177 v178 v179 v180 v181 v182 v183 v184 v185 v186 v187 v188 v189 v190 v191 v192 v193 v194 v195 v196 v197 v198 v199 v200 v201 v202 v203 v204 v205 v206 v207 v208 v209 v210 v211 v212 v213 v214 v215 v216 v217 v218 v219 v220 v221 v222 v223 v224 v225 v226 v227 v228 v229 v230 v231 v232 v233 v234 v235 v236 v237 v238 v239 v240 v241 v242 v243 v244 v245 v246 v247 v248 v249 v250 v251 v252 v253 v254 v255 v256 v257 v258 v259 v260 v261 v262 v263 v264 v265 v266 v267 v268 v269 v270 v271 v272 v273 v274 v275 v276 v277 v278 v279 v280 v281 v282 v283 v284 v285 v286 v287 v288 : Value} (t : List UInt8) (w wx : World) (F : Int × Int × Int) (cb : Nat) (y m d h n : Int) (sv : Int) (sa : Nat) (DP : Nat) (hl : t.length ≤ 64) (HF : Hid (parseF t = F)) (hx : PC w t wx ⟨DP, 0⟩ cb y m d h n) (hd : 0 = 0 → (y = pYear t ∧ m = pMon t ∧ d = pDay t ∧ h = pHour t ∧ n = pMin t) ∧ sv = pSec t) (y0 : 0 ≤ y) (y1 : y ≤ 9999) (m0 : 1 ≤ m) (m1 : m ≤ 12) (d0 : 0 ≤ d) (d1 : d ≤ 99999) (h0 : 0 ≤ h) (h1 : h ≤ 9999) (n0 : 0 ≤ n) (n1 : n ≤ 9999) (s0 : 0 ≤ sv) (s1 : sv ≤ 9999) (hsa : 60 < sv → (sa : Int) = pSecAt t) (hz : Hid (r13 t = zoneSt t ⟨DP, 0⟩ ∧ pOff t = zoneOf t ⟨DP, 0⟩)) (pd : DP ≤ t.length) (hlt : ¬ DP < t.length) :
    Code.wp Tryd.prog (Flow.rest 25 Tryd.f22) (bodyPost Tryd.prog Tryd.f22 fun e w' => e = .returned (.tuple #[.int .i64 F.1, .int .i64 F.2.1, .int .i64 F.2.2]) ∧ Below w.heap.size w w') ⟨#[.string ⟨t.toArray⟩, v1, v2, v3, v4, .pointer (some ⟨w.heap.size, 0, none⟩), .int .i64 (pWd t), .pointer (some ⟨cb, 0, none⟩), .int .i64 sv, v9, .int .i64 (r1 t).p, .int .i64 (r5 t).p, .int .i64 (r7 t).p, .int .i64 (r9 t).p, .int .i64 sa, v15, v16, v17, v18, v19, v20, v21, v22, v23, v24, v25, v26, v27, v28, v29, v30, v31, v32, v33, v34, v35, v36, v37, v38, v39, v40, v41, v42, v43, v44, v45, v46, v47, v48, v49, v50, v51, v52, v53, v54, v55, v56, v57, v58, v59, v60, v61, v62, v63, v64, v65, v66, v67, v68, v69, v70, v71, v72, v73, v74, v75, v76, v77, v78, v79, v80, v81, v82, v83, v84, v85, v86, v87, v88, v89, v90, v91, v92, v93, v94, v95, v96, v97, v98, v99, v100, v101, v102, v103, v104, v105, v106, v107, v108, v109, v110, v111, v112, v113, v114, v115, v116, v117, v118, v119, v120, v121, v122, v123, v124, v125, v126, v127, v128, v129, v130, v131, v132, v133, v134, v135, v136, v137, v138, v139, v140, v141, v142, v143, v144, v145, v146, v147, v148, v149, v150, v151, v152, v153, v154, v155, v156, v157, v158, v159, v160, v161, v162, v163, v164, v165, v166, v167, v168, v169, v170, v171, v172, v173, v174, v175, v176, v177, v178, v179, v180, v181, v182, v183, v184, v185, v186, v187, v188, v189, v190, v191, v192, v193, v194, v195, v196, v197, v198, v199, v200, v201, v202, v203, v204, v205, v206, v207, v208, v209, v210, v211, v212, v213, v214, v215, v216, v217, v218, v219, v220, v221, v222, v223, v224, v225, v226, v227, v228, v229, v230, v231, v232, v233, v234, v235, v236, v237, v238, v239, v240, v241, v242, v243, v244, v245, v246, v247, v248, v249, v250, v251, v252, v253, v254, v255, v256, v257, v258, v259, v260, v261, v262, v263, v264, v265, v266, v267, v268, v269, v270, v271, v272, v273, v274, v275, v276, v277, v278, v279, v280, v281, v282, v283, v284, v285, v286, v287, v288], []⟩ wx := by
  refine Flow.wp_rest rfl ?_
  have hl2 : t.length ≤ 1000 := by omega
  have hl3 : (t.length : Int) ≤ 64 := by omega
  dsimp only
  have H3 := Lib.hid hx; clear hx
  have HD := Lib.hid hd; clear hd
  have pd2 : DP ≤ 1000 := by omega
  have c0 := H3.out.P.c0
  have c1 := H3.out.P.c1
  have c2 := H3.out.P.c2
  have f0 := H3.out.P.f 0
  have f1 := H3.out.P.f 1
  have f2 := H3.out.P.f 2
  have heq : DP = t.length := by omega
  have hz1 : r13 t = ⟨t.length, 4⟩ := by rw [hz.out.1]; unfold zoneSt; rw [if_pos rfl, if_pos heq]; simp [heq]
  have hz2 : pOff t = 0 := by rw [hz.out.2]; unfold zoneOf; rw [if_pos rfl, if_pos heq]
  have Z := Lib.hid (And.intro hz1 hz2)
  have hge : decide (t.length ≤ DP) = true := by simp; omega
  clear hz1 hz2 hz heq hlt
  go_upto_if 183 with fail
  go_cut [] (fun wz => PC w t wz (r13 t) cb y m d h n)
  case first =>
    go_wp2_with fail
    refine (refFail_any _ ⟨DP, 0⟩ t.length 4 _).mono ?_; rintro e wa ⟨rfl, ba⟩
    have HA := Lib.hid (H3.out.below ba)
    clear ba H3 c0 c1 c2 f0 f1 f2
    have c0 := HA.out.P.c0
    have c1 := HA.out.P.c1
    have c2 := HA.out.P.c2
    have f0 := HA.out.P.f 0
    have f1 := HA.out.P.f 1
    have f2 := HA.out.P.f 2
    go_wp2_with fail
    go_meet
    rw [Z.out.1]
    exact HA.out.text _
  clear H3 c0 c1 c2 f0 f1 f2
  have H4 : Hid (PC w t wc ⟨t.length, 4⟩ cb y m d h n) := by rw [← Z.out.1]; exact hcut
  clear hcut
  have c2 := H4.out.P.c2
  go_upto_if 190 with fail
  go_cut [15] (fun s15 wz => s15 = .int .i64 (pOff t) ∧ wz = wc)
  case first =>
    go_wp2_with fail
    go_meet
    exact ⟨by rw [Z.out.2], rfl⟩
  obtain ⟨rfl, hwz⟩ := hcut
  rw [hwz]
  clear hwz c2
  apply_assumption
  exact Flow.wp_of_rest (n := 28) (f := Tryd.f22) rfl (refTail28 t w _ F cb y m d h n sv sa hl HF (by rw [Z.out.1]; exact H4.out) (fun _ => HD.out rfl) y0 y1 m0 m1 d0 d1 h0 h1 n0 n1 s0 s1 hsa)


set_option maxRecDepth 100000 in
set_option maxHeartbeats 8000000 in
theorem refTail25c {v1 v2 v3 v4 v9 v15 v16 v17 v18 v19 v20 v21 v22 v23 v24 v25 v26 v27 v28 v29 v30 v31 v32 v33 v34 v35 v36 v37 v38 v39 v40 v41 v42 v43 v44 v45 v46 v47 v48 v49 v50 v51 v52 v53 v54 v55 v56 v57 v58 v59 v60 v61 v62 v63 v64 v65 v66 v67 v68 v69 v70 v71 v72 v73 v74 v75 v76 v77 v78 v79 v80 v81 v82 v83 v84 v85 v86 v87 v88 v89 v90 v91 v92 v93 v94 v95 v96 v97 v98 v99 v100 v101 v102 v103 v104 v105 v106 v107 v108 v109 v110 v111 v112 v113 v114 v115 v116 v117 v118 v119 v120 v121 v122 v123 v124 v125 v126 v127 v128 v129 v130 v131 v132 v133 v134 v135 v136 v137 v138 v139 v140 v141 v142 v143 v144 v145 v146 v147 v148 v149 v150 v151 v152 v153 v154 v155 v156 v157 v158 v159 v160 v161 v162 v163 v164 v165 v166 v167 v168 v169 v170 v171 v172 v173 v174 v175 v176 v177 v178 v179 v180 v181 v182 v183 v184 v185 v186 v187 v188 v189 v190 v191 v192 v193 v194 v195 v196 v197 v198 v199 v200 v201 v202 v203 v204 v205 v206 v207 v208 v209 v210 v211 v212 v213 v214 v215 v216 v217 v218 v219 v220 v221 v222 v223 v224 v225 v226 v227 v228 v229 v230 v231 v232 v233 v234 v235 v236 v237 v238 v239 v240 v241 v242 v243 v244 v245 v246 v247 v248 v249 v250 v251 v252 v253 v254 v255 v256 v257 v258 v259 v260 v261 v262 v263 v264 v265 v266 v267 v268 v269 v270 v271 v272 v273 v274 v275 v276 v277 v278 v279 v280 v281 v282 v283 v284 v285 v286 v287 v288 : Value} (t : List UInt8) (w wx : World) (F : Int × Int × Int) (cb : Nat) (y m d h n : Int) (sv : Int) (sa : Nat) (DP DE : Nat) (hl : t.length ≤ 64) (HF : Hid (parseF t = F)) (hx : PC w t wx ⟨DP, DE⟩ cb y m d h n) (hd : DE = 0 → (y = pYear t ∧ m = pMon t ∧ d = pDay t ∧ h = pHour t ∧ n = pMin t) ∧ sv = pSec t) (y0 : 0 ≤ y) (y1 : y ≤ 9999) (m0 : 1 ≤ m) (m1 : m ≤ 12) (d0 : 0 ≤ d) (d1 : d ≤ 99999) (h0 : 0 ≤ h) (h1 : h ≤ 9999) (n0 : 0 ≤ n) (n1 : n ≤ 9999) (s0 : 0 ≤ sv) (s1 : sv ≤ 9999) (hsa : 60 < sv → (sa : Int) = pSecAt t) (hz : Hid (r13 t = zoneSt t ⟨DP, DE⟩ ∧ pOff t = zoneOf t ⟨DP, DE⟩)) (pd : DP ≤ t.length) (z : ¬ DE = 0) :
    Code.wp Tryd.prog (Flow.rest 25 Tryd.f22) (bodyPost Tryd.prog Tryd.f22 fun e w' => e = .returned (.tuple #[.int .i64 F.1, .int .i64 F.2.1, .int .i64 F.2.2]) ∧ Below w.heap.size w w') ⟨#[.string ⟨t.toArray⟩, v1, v2, v3, v4, .pointer (some ⟨w.heap.size, 0, none⟩), .int .i64 (pWd t), .pointer (some ⟨cb, 0, none⟩), .int .i64 sv, v9, .int .i64 (r1 t).p, .int .i64 (r5 t).p, .int .i64 (r7 t).p, .int .i64 (r9 t).p, .int .i64 sa, v15, v16, v17, v18, v19, v20, v21, v22, v23, v24, v25, v26, v27, v28, v29, v30, v31, v32, v33, v34, v35, v36, v37, v38, v39, v40, v41, v42, v43, v44, v45, v46, v47, v48, v49, v50, v51, v52, v53, v54, v55, v56, v57, v58, v59, v60, v61, v62, v63, v64, v65, v66, v67, v68, v69, v70, v71, v72, v73, v74, v75, v76, v77, v78, v79, v80, v81, v82, v83, v84, v85, v86, v87, v88, v89, v90, v91, v92, v93, v94, v95, v96, v97, v98, v99, v100, v101, v102, v103, v104, v105, v106, v107, v108, v109, v110, v111, v112, v113, v114, v115, v116, v117, v118, v119, v120, v121, v122, v123, v124, v125, v126, v127, v128, v129, v130, v131, v132, v133, v134, v135, v136, v137, v138, v139, v140, v141, v142, v143, v144, v145, v146, v147, v148, v149, v150, v151, v152, v153, v154, v155, v156, v157, v158, v159, v160, v161, v162, v163, v164, v165, v166, v167, v168, v169, v170, v171, v172, v173, v174, v175, v176, v177, v178, v179, v180, v181, v182, v183, v184, v185, v186, v187, v188, v189, v190, v191, v192, v193, v194, v195, v196, v197, v198, v199, v200, v201, v202, v203, v204, v205, v206, v207, v208, v209, v210, v211, v212, v213, v214, v215, v216, v217, v218, v219, v220, v221, v222, v223, v224, v225, v226, v227, v228, v229, v230, v231, v232, v233, v234, v235, v236, v237, v238, v239, v240, v241, v242, v243, v244, v245, v246, v247, v248, v249, v250, v251, v252, v253, v254, v255, v256, v257, v258, v259, v260, v261, v262, v263, v264, v265, v266, v267, v268, v269, v270, v271, v272, v273, v274, v275, v276, v277, v278, v279, v280, v281, v282, v283, v284, v285, v286, v287, v288], []⟩ wx := by
  refine Flow.wp_rest rfl ?_
  have hl2 : t.length ≤ 1000 := by omega
  have hl3 : (t.length : Int) ≤ 64 := by omega
  dsimp only
  have H3 := Lib.hid hx; clear hx
  have HD := Lib.hid hd; clear hd
  have pd2 : DP ≤ 1000 := by omega
  have c0 := H3.out.P.c0
  have c1 := H3.out.P.c1
  have c2 := H3.out.P.c2
  have f0 := H3.out.P.f 0
  have f1 := H3.out.P.f 1
  have f2 := H3.out.P.f 2
  have hz1 : r13 t = ⟨DP, DE⟩ := by rw [hz.out.1]; unfold zoneSt; rw [if_neg z]
  have hz2 : pOff t = 0 := by rw [hz.out.2]; unfold zoneOf; rw [if_neg z]
  have Z := Lib.hid (And.intro hz1 hz2)
  have hze : Hid (DE ≠ 0) := z
  have hlf : ((DE : Int) == 0) = false := by simp; omega
  clear hz1 hz2 hz z
  go_upto_if 190 with fail
  go_cut [15] (fun s15 wz => s15 = .int .i64 (pOff t) ∧ PC w t wz (r13 t) cb y m d h n)
  case first =>
    go_wp2_with fail
    go_meet
    exact ⟨by rw [Z.out.2], by rw [Z.out.1]; exact H3.out⟩
  clear H3 c0 c1 c2 f0 f1 f2
  obtain ⟨rfl, hx⟩ := hcut
  apply_assumption
  exact Flow.wp_of_rest (n := 28) (f := Tryd.f22) rfl (refTail28 t w _ F cb y m d h n sv sa hl HF hx (fun he => absurd (by rw [Z.out.1] at he; exact he) hze.out) y0 y1 m0 m1 d0 d1 h0 h1 n0 n1 s0 s1 hsa)


theorem refTail25 {v1 v2 v3 v4 v9 v15 v16 v17 v18 v19 v20 v21 v22 v23 v24 v25 v26 v27 v28 v29 v30 v31 v32 v33 v34 v35 v36 v37 v38 v39 v40 v41 v42 v43 v44 v45 v46 v47 v48 v49 v50 v51 v52 v53 v54 v55 v56 v57 v58 v59 v60 v61 v62 v63 v64 v65 v66 v67 v68 v69 v70 v71 v72 v73 v74 v75 v76 v77 v78 v79 v80 v81 v82 v83 v84 v85 v86 v87 v88 v89 v90 v91 v92 v93 v94 v95 v96 v97 v98 v99 v100 v101 v102 v103 v104 v105 v106 v107 v108 v109 v110 v111 v112 v113 v114 v115 v116 v117 v118 v119 v120 v121 v122 v123 v124 v125 v126 v127 v128 v129 v130 v131 v132 v133 v134 v135 v136 v137 v138 v139 v140 v141 v142 v143 v144 v145 v146 v147 v148 v149 v150 v151 v152 v153 v154 v155 v156 v157 v158 v159 v160 v161 v162 v163 v164 v165 v166 v167 v168 v169 v170 v171 v172 v173 v174 v175 v176 v177 v178 v179 v180 v181 v182 v183 v184 v185 v186 v187 v188 v189 v190 v191 v192 v193 v194 v195 v196 v197 v198 v199 v200 v201 v202 v203 v204 v205 v206 v207 v208 v209 v210 v211 v212 v213 v214 v215 v216 v217 v218 v219 v220 v221 v222 v223 v224 v225 v226 v227 v228 v229 v230 v231 v232 v233 v234 v235 v236 v237 v238 v239 v240 v241 v242 v243 v244 v245 v246 v247 v248 v249 v250 v251 v252 v253 v254 v255 v256 v257 v258 v259 v260 v261 v262 v263 v264 v265 v266 v267 v268 v269 v270 v271 v272 v273 v274 v275 v276 v277 v278 v279 v280 v281 v282 v283 v284 v285 v286 v287 v288 : Value} (t : List UInt8) (w wx : World) (F : Int × Int × Int) (cb : Nat) (y m d h n : Int) (sv : Int) (sa : Nat) (hl : t.length ≤ 64) (HF : Hid (parseF t = F)) (hx : PC w t wx (r12 t) cb y m d h n) (hd : (r12 t).e = 0 → (y = pYear t ∧ m = pMon t ∧ d = pDay t ∧ h = pHour t ∧ n = pMin t) ∧ sv = pSec t) (y0 : 0 ≤ y) (y1 : y ≤ 9999) (m0 : 1 ≤ m) (m1 : m ≤ 12) (d0 : 0 ≤ d) (d1 : d ≤ 99999) (h0 : 0 ≤ h) (h1 : h ≤ 9999) (n0 : 0 ≤ n) (n1 : n ≤ 9999) (s0 : 0 ≤ sv) (s1 : sv ≤ 9999) (hsa : 60 < sv → (sa : Int) = pSecAt t) :
    Code.wp Tryd.prog (Flow.rest 25 Tryd.f22) (bodyPost Tryd.prog Tryd.f22 fun e w' => e = .returned (.tuple #[.int .i64 F.1, .int .i64 F.2.1, .int .i64 F.2.2]) ∧ Below w.heap.size w w') ⟨#[.string ⟨t.toArray⟩, v1, v2, v3, v4, .pointer (some ⟨w.heap.size, 0, none⟩), .int .i64 (pWd t), .pointer (some ⟨cb, 0, none⟩), .int .i64 sv, v9, .int .i64 (r1 t).p, .int .i64 (r5 t).p, .int .i64 (r7 t).p, .int .i64 (r9 t).p, .int .i64 sa, v15, v16, v17, v18, v19, v20, v21, v22, v23, v24, v25, v26, v27, v28, v29, v30, v31, v32, v33, v34, v35, v36, v37, v38, v39, v40, v41, v42, v43, v44, v45, v46, v47, v48, v49, v50, v51, v52, v53, v54, v55, v56, v57, v58, v59, v60, v61, v62, v63, v64, v65, v66, v67, v68, v69, v70, v71, v72, v73, v74, v75, v76, v77, v78, v79, v80, v81, v82, v83, v84, v85, v86, v87, v88, v89, v90, v91, v92, v93, v94, v95, v96, v97, v98, v99, v100, v101, v102, v103, v104, v105, v106, v107, v108, v109, v110, v111, v112, v113, v114, v115, v116, v117, v118, v119, v120, v121, v122, v123, v124, v125, v126, v127, v128, v129, v130, v131, v132, v133, v134, v135, v136, v137, v138, v139, v140, v141, v142, v143, v144, v145, v146, v147, v148, v149, v150, v151, v152, v153, v154, v155, v156, v157, v158, v159, v160, v161, v162, v163, v164, v165, v166, v167, v168, v169, v170, v171, v172, v173, v174, v175, v176, v177, v178, v179, v180, v181, v182, v183, v184, v185, v186, v187, v188, v189, v190, v191, v192, v193, v194, v195, v196, v197, v198, v199, v200, v201, v202, v203, v204, v205, v206, v207, v208, v209, v210, v211, v212, v213, v214, v215, v216, v217, v218, v219, v220, v221, v222, v223, v224, v225, v226, v227, v228, v229, v230, v231, v232, v233, v234, v235, v236, v237, v238, v239, v240, v241, v242, v243, v244, v245, v246, v247, v248, v249, v250, v251, v252, v253, v254, v255, v256, v257, v258, v259, v260, v261, v262, v263, v264, v265, v266, v267, v268, v269, v270, v271, v272, v273, v274, v275, v276, v277, v278, v279, v280, v281, v282, v283, v284, v285, v286, v287, v288], []⟩ wx := by
  have p12 : (r12 t).p ≤ t.length := r12_p
  have hz : Hid (r13 t = zoneSt t (r12 t) ∧ pOff t = zoneOf t (r12 t)) := ⟨rfl, rfl⟩
  generalize r12 t = D at *
  obtain ⟨DP, DE⟩ := D
  dsimp only at p12 hd
  by_cases z : DE = 0
  · subst z
    by_cases hlt : DP < t.length
    · exact refTail25a t w wx F cb y m d h n sv sa DP hl HF hx hd y0 y1 m0 m1 d0 d1 h0 h1 n0 n1 s0 s1 hsa hz p12 hlt
    · exact refTail25b t w wx F cb y m d h n sv sa DP hl HF hx hd y0 y1 m0 m1 d0 d1 h0 h1 n0 n1 s0 s1 hsa hz p12 hlt
  · exact refTail25c t w wx F cb y m d h n sv sa DP DE hl HF hx hd y0 y1 m0 m1 d0 d1 h0 h1 n0 n1 s0 s1 hsa hz p12 z


set_option maxRecDepth 100000 in
set_option maxHeartbeats 8000000 in
theorem refTail24 {v1 v2 v3 v4 v9 v15 v16 v17 v18 v19 v20 v21 v22 v23 v24 v25 v26 v27 v28 v29 v30 v31 v32 v33 v34 v35 v36 v37 v38 v39 v40 v41 v42 v43 v44 v45 v46 v47 v48 v49 v50 v51 v52 v53 v54 v55 v56 v57 v58 v59 v60 v61 v62 v63 v64 v65 v66 v67 v68 v69 v70 v71 v72 v73 v74 v75 v76 v77 v78 v79 v80 v81 v82 v83 v84 v85 v86 v87 v88 v89 v90 v91 v92 v93 v94 v95 v96 v97 v98 v99 v100 v101 v102 v103 v104 v105 v106 v107 v108 v109 v110 v111 v112 v113 v114 v115 v116 v117 v118 v119 v120 v121 v122 v123 v124 v125 v126 v127 v128 v129 v130 v131 v132 v133 v134 v135 v136 v137 v138 v139 v140 v141 v142 v143 v144 v145 v146 v147 v148 v149 v150 v151 v152 v153 v154 v155 v156 v157 v158 v159 v160 v161 v162 v163 v164 v165 v166 v167 v168 v169 v170 v171 v172 v173 v174 v175 v176 v177 v178 v179 v180 v181 v182 v183 v184 v185 v186 v187 v188 v189 v190 v191 v192 v193 v194 v195 v196 v197 v198 v199 v200 v201 v202 v203 v204 v205 v206 v207 v208 v209 v210 v211 v212 v213 v214 v215 v216 v217 v218 v219 v220 v221 v222 v223 v224 v225 v226 v227 v228 v229 v230 v231 v232 v233 v234 v235 v236 v237 v238 v239 v240 v241 v242 v243 v244 v245 v246 v247 v248 v249 v250 v251 v252 v253 v254 v255 v256 v257 v258 v259 v260 v261 v262 v263 v264 v265 v266 v267 v268 v269 v270 v271 v272 v273 v274 v275 v276 v277 v278 v279 v280 v281 v282 v283 v284 v285 v286 v287 v288 : Value} (t : List UInt8) (w wx : World) (F : Int × Int × Int) (cb : Nat) (y m d h n : Int) (sv : Int) (sa : Nat) (hl : t.length ≤ 64) (HF : Hid (parseF t = F)) (hx : PC w t wx (r11 t) cb y m d h n) (hd : (r11 t).e = 0 → (y = pYear t ∧ m = pMon t ∧ d = pDay t ∧ h = pHour t ∧ n = pMin t) ∧ sv = pSec t) (y0 : 0 ≤ y) (y1 : y ≤ 9999) (m0 : 1 ≤ m) (m1 : m ≤ 12) (d0 : 0 ≤ d) (d1 : d ≤ 99999) (h0 : 0 ≤ h) (h1 : h ≤ 9999) (n0 : 0 ≤ n) (n1 : n ≤ 9999) (s0 : 0 ≤ sv) (s1 : sv ≤ 9999) (hsa : 60 < sv → (sa : Int) = pSecAt t) :
    Code.wp Tryd.prog (Flow.rest 24 Tryd.f22) (bodyPost Tryd.prog Tryd.f22 fun e w' => e = .returned (.tuple #[.int .i64 F.1, .int .i64 F.2.1, .int .i64 F.2.2]) ∧ Below w.heap.size w w') ⟨#[.string ⟨t.toArray⟩, v1, v2, v3, v4, .pointer (some ⟨w.heap.size, 0, none⟩), .int .i64 (pWd t), .pointer (some ⟨cb, 0, none⟩), .int .i64 sv, v9, .int .i64 (r1 t).p, .int .i64 (r5 t).p, .int .i64 (r7 t).p, .int .i64 (r9 t).p, .int .i64 sa, v15, v16, v17, v18, v19, v20, v21, v22, v23, v24, v25, v26, v27, v28, v29, v30, v31, v32, v33, v34, v35, v36, v37, v38, v39, v40, v41, v42, v43, v44, v45, v46, v47, v48, v49, v50, v51, v52, v53, v54, v55, v56, v57, v58, v59, v60, v61, v62, v63, v64, v65, v66, v67, v68, v69, v70, v71, v72, v73, v74, v75, v76, v77, v78, v79, v80, v81, v82, v83, v84, v85, v86, v87, v88, v89, v90, v91, v92, v93, v94, v95, v96, v97, v98, v99, v100, v101, v102, v103, v104, v105, v106, v107, v108, v109, v110, v111, v112, v113, v114, v115, v116, v117, v118, v119, v120, v121, v122, v123, v124, v125, v126, v127, v128, v129, v130, v131, v132, v133, v134, v135, v136, v137, v138, v139, v140, v141, v142, v143, v144, v145, v146, v147, v148, v149, v150, v151, v152, v153, v154, v155, v156, v157, v158, v159, v160, v161, v162, v163, v164, v165, v166, v167, v168, v169, v170, v171, v172, v173, v174, v175, v176, v177, v178, v179, v180, v181, v182, v183, v184, v185, v186, v187, v188, v189, v190, v191, v192, v193, v194, v195, v196, v197, v198, v199, v200, v201, v202, v203, v204, v205, v206, v207, v208, v209, v210, v211, v212, v213, v214, v215, v216, v217, v218, v219, v220, v221, v222, v223, v224, v225, v226, v227, v228, v229, v230, v231, v232, v233, v234, v235, v236, v237, v238, v239, v240, v241, v242, v243, v244, v245, v246, v247, v248, v249, v250, v251, v252, v253, v254, v255, v256, v257, v258, v259, v260, v261, v262, v263, v264, v265, v266, v267, v268, v269, v270, v271, v272, v273, v274, v275, v276, v277, v278, v279, v280, v281, v282, v283, v284, v285, v286, v287, v288], []⟩ wx := by
  refine Flow.wp_rest rfl ?_
  have hl2 : t.length ≤ 1000 := by omega
  have hl3 : (t.length : Int) ≤ 64 := by omega
  dsimp only
  go_upto_region 32 with fail
  have H11 := Lib.hid hx; clear hx
  have HD := Lib.hid hd; clear hd
  have p11 : Hid ((r11 t).p ≤ t.length) := r11_p
  have pn : Hid ((need t isBl (r11 t)).p ≤ t.length) := need_p r11_p
  have he12 : Hid ((r12 t).e = 0 → (r11 t).e = 0) := blanks_e
  go_cut [] (fun wz => PC w t wz (r12 t) cb y m d h n)
  case first =>
    have c0 := H11.out.P.c0
    have c1 := H11.out.P.c1
    have c2 := H11.out.P.c2
    go_wp2_with fail
    refine (refNeed_bl t (r11 t) _ hl2 p11.out).mono ?_; rintro e wa ⟨rfl, ba⟩
    have HA := Lib.hid (H11.out.below ba)
    clear ba H11 c0 c1 c2
    go_wp2_with fail
    refine (refSkip_any t (need t isBl (r11 t)) _ hl2 pn.out).mono ?_; rintro e wb ⟨he, bb⟩
    obtain rfl : e = .returned (.agg #[.string ⟨t.toArray⟩, .int .i64 (r12 t).p, .int .i64 (r12 t).e]) := he
    have HB := Lib.hid (HA.out.below bb)
    clear bb HA
    have c0 := HB.out.P.c0
    have c1 := HB.out.P.c1
    have c2 := HB.out.P.c2
    have f0 := HB.out.P.f 0
    have f1 := HB.out.P.f 1
    have f2 := HB.out.P.f 2
    have H3 := Lib.hid (HB.out.text (r12 t))
    go_wp2_with fail
    clear HB c0 c1 c2 f0 f1 f2
    go_meet
    exact H3.out
  clear H11
  have H3 := Lib.hid hcut; clear hcut
  apply_assumption
  exact Flow.wp_of_rest (n := 25) (f := Tryd.f22) rfl (refTail25 t w _ F cb y m d h n sv sa hl HF H3.out (fun he => HD.out (he12.out he)) y0 y1 m0 m1 d0 d1 h0 h1 n0 n1 s0 s1 hsa)


set_option maxRecDepth 100000 in
set_option maxHeartbeats 8000000 in
theorem refTail23 {v1 v2 v3 v4 v9 v15 v16 v17 v18 v19 v20 v21 v22 v23 v24 v25 v26 v27 v28 v29 v30 v31 v32 v33 v34 v35 v36 v37 v38 v39 v40 v41 v42 v43 v44 v45 v46 v47 v48 v49 v50 v51 v52 v53 v54 v55 v56 v57 v58 v59 v60 v61 v62 v63 v64 v65 v66 v67 v68 v69 v70 v71 v72 v73 v74 v75 v76 v77 v78 v79 v80 v81 v82 v83 v84 v85 v86 v87 v88 v89 v90 v91 v92 v93 v94 v95 v96 v97 v98 v99 v100 v101 v102 v103 v104 v105 v106 v107 v108 v109 v110 v111 v112 v113 v114 v115 v116 v117 v118 v119 v120 v121 v122 v123 v124 v125 v126 v127 v128 v129 v130 v131 v132 v133 v134 v135 v136 v137 v138 v139 v140 v141 v142 v143 v144 v145 v146 v147 v148 v149 v150 v151 v152 v153 v154 v155 v156 v157 v158 v159 v160 v161 v162 v163 v164 v165 v166 v167 v168 v169 v170 v171 v172 v173 v174 v175 v176 v177 v178 v179 v180 v181 v182 v183 v184 v185 v186 v187 v188 v189 v190 v191 v192 v193 v194 v195 v196 v197 v198 v199 v200 v201 v202 v203 v204 v205 v206 v207 v208 v209 v210 v211 v212 v213 v214 v215 v216 v217 v218 v219 v220 v221 v222 v223 v224 v225 v226 v227 v228 v229 v230 v231 v232 v233 v234 v235 v236 v237 v238 v239 v240 v241 v242 v243 v244 v245 v246 v247 v248 v249 v250 v251 v252 v253 v254 v255 v256 v257 v258 v259 v260 v261 v262 v263 v264 v265 v266 v267 v268 v269 v270 v271 v272 v273 v274 v275 v276 v277 v278 v279 v280 v281 v282 v283 v284 v285 v286 v287 v288 : Value} (t : List UInt8) (w wx : World) (F : Int × Int × Int) (cb : Nat) (y m d h n : Int) (hl : t.length ≤ 64) (HF : Hid (parseF t = F)) (hx : PC w t wx (r10 t) cb y m d h n) (hd : (r10 t).e = 0 → y = pYear t ∧ m = pMon t ∧ d = pDay t ∧ h = pHour t ∧ n = pMin t) (y0 : 0 ≤ y) (y1 : y ≤ 9999) (m0 : 1 ≤ m) (m1 : m ≤ 12) (d0 : 0 ≤ d) (d1 : d ≤ 99999) (h0 : 0 ≤ h) (h1 : h ≤ 9999) (n0 : 0 ≤ n) (n1 : n ≤ 9999) :
    Code.wp Tryd.prog (Flow.rest 23 Tryd.f22) (bodyPost Tryd.prog Tryd.f22 fun e w' => e = .returned (.tuple #[.int .i64 F.1, .int .i64 F.2.1, .int .i64 F.2.2]) ∧ Below w.heap.size w w') ⟨#[.string ⟨t.toArray⟩, v1, v2, v3, v4, .pointer (some ⟨w.heap.size, 0, none⟩), .int .i64 (pWd t), .pointer (some ⟨cb, 0, none⟩), .int .i64 0, v9, .int .i64 (r1 t).p, .int .i64 (r5 t).p, .int .i64 (r7 t).p, .int .i64 (r9 t).p, .int .i64 (r10 t).p, v15, v16, v17, v18, v19, v20, v21, v22, v23, v24, v25, v26, v27, v28, v29, v30, v31, v32, v33, v34, v35, v36, v37, v38, v39, v40, v41, v42, v43, v44, v45, v46, v47, v48, v49, v50, v51, v52, v53, v54, v55, v56, v57, v58, v59, v60, v61, v62, v63, v64, v65, v66, v67, v68, v69, v70, v71, v72, v73, v74, v75, v76, v77, v78, v79, v80, v81, v82, v83, v84, v85, v86, v87, v88, v89, v90, v91, v92, v93, v94, v95, v96, v97, v98, v99, v100, v101, v102, v103, v104, v105, v106, v107, v108, v109, v110, v111, v112, v113, v114, v115, v116, v117, v118, v119, v120, v121, v122, v123, v124, v125, v126, v127, v128, v129, v130, v131, v132, v133, v134, v135, v136, v137, v138, v139, v140, v141, v142, v143, v144, v145, v146, v147, v148, v149, v150, v151, v152, v153, v154, v155, v156, v157, v158, v159, v160, v161, v162, v163, v164, v165, v166, v167, v168, v169, v170, v171, v172, v173, v174, v175, v176, v177, v178, v179, v180, v181, v182, v183, v184, v185, v186, v187, v188, v189, v190, v191, v192, v193, v194, v195, v196, v197, v198, v199, v200, v201, v202, v203, v204, v205, v206, v207, v208, v209, v210, v211, v212, v213, v214, v215, v216, v217, v218, v219, v220, v221, v222, v223, v224, v225, v226, v227, v228, v229, v230, v231, v232, v233, v234, v235, v236, v237, v238, v239, v240, v241, v242, v243, v244, v245, v246, v247, v248, v249, v250, v251, v252, v253, v254, v255, v256, v257, v258, v259, v260, v261, v262, v263, v264, v265, v266, v267, v268, v269, v270, v271, v272, v273, v274, v275, v276, v277, v278, v279, v280, v281, v282, v283, v284, v285, v286, v287, v288], []⟩ wx := by
  refine Flow.wp_rest rfl ?_
  have hl2 : t.length ≤ 1000 := by omega
  have hl3 : (t.length : Int) ≤ 64 := by omega
  dsimp only
  have Hx := Lib.hid hx; clear hx
  have HD := Lib.hid hd; clear hd
  have px : Hid ((r10 t).p ≤ t.length) := r10_p
  have pa : Hid ((r10a t).p ≤ t.length) := r10a_p
  have Ks : Hid (∀ W : World, Calls Tryd.prog 49 #[.agg #[.string ⟨t.toArray⟩, .int .i64 (r10a t).p, .int .i64 (r10a t).e], .int .i64 2] W fun r w' => r = .returned (.tuple #[.agg #[.string ⟨t.toArray⟩, .int .i64 (digS t 2 (r10a t)).p, .int .i64 (digS t 2 (r10a t)).e], .int .i64 (digE t 2 (r10a t))]) ∧ Below W.heap.size W w') := fun W => refNumber_any t (r10a t) 2 W hl2 pa.out (by decide) (by decide)
  have s1 := digE_bd t 2 (r10a t) (by decide)
  have yes : Hid (hasS t = true → r11 t = digS t 2 (r10a t) ∧ r10a t = ⟨(r10 t).p + 1, 0⟩ ∧ (r10 t).e = 0 ∧ ((digS t 2 (r10a t)).e = 0 → digE t 2 (r10a t) = pSec t)) := fun h => ⟨by unfold r11 numS; rw [h]; simp, (sec_two h).1, (sec_two h).2, fun he => by rw [digE_ok he]; unfold pSec; rw [h, if_pos rfl]⟩
  have no : Hid (hasS t = false → r11 t = r10 t ∧ pSec t = 0) := fun h => ⟨by unfold r11; rw [h, if_neg Bool.false_ne_true], by unfold pSec; rw [h, if_neg Bool.false_ne_true]⟩
  generalize digE t 2 (r10a t) = Sv at *
  obtain ⟨s1, s2⟩ := s1
  have hsee : Hid (hasS t = sees t (isCh 58) (r10 t)) := rfl
  have c0 := Hx.out.P.c0
  have c1 := Hx.out.P.c1
  have c2 := Hx.out.P.c2
  have f0 := Hx.out.P.f 0
  have f1 := Hx.out.P.f 1
  have f2 := Hx.out.P.f 2
  go_upto_region 28 with fail
  go_cut [159] (fun s159 wz => s159 = .bool (hasS t) ∧ wz = wx)
  case first =>
    clear yes no Ks pa
    generalize hr10 : r10 t = D at *
    obtain ⟨DP, DE⟩ := D
    by_cases z : DE = 0
    · subst z
      by_cases hlt : DP < t.length
      · have bg := bget (t := t) (p := DP) (show DP < t.toArray.size by simpa using hlt) hlt
        obtain ⟨c, hc⟩ : ∃ c, at0 t DP = c := ⟨_, rfl⟩
        rw [hc] at bg
        have hs : sees t (isCh 58) ⟨DP, 0⟩ = ((c.toNat : Int) == 58) := by
          have : isCh 58 c = ((c.toNat : Int) == 58) := isCh_int 58 c
          rw [← this]; simp [sees, hlt, hc]
        have HS := Lib.hid (hsee.out.trans hs)
        have HR := Lib.hid hr10
        clear hr10 hc hs hsee Hx HD px
        go_wp2_with fail
        go_meet
        exact ⟨by rw [HS.out], rfl⟩
      · have hs : sees t (isCh 58) ⟨DP, 0⟩ = false := by simp [sees, hlt]
        have HS := Lib.hid (hsee.out.trans hs)
        have HR := Lib.hid hr10
        have hlf : decide (DP < t.length) = false := by simpa using hlt
        clear hr10 hs hsee Hx HD px hlt
        go_wp2_with fail
        go_meet
        exact ⟨by rw [HS.out], rfl⟩
    · have hs : sees t (isCh 58) ⟨DP, DE⟩ = false := by simp [sees, z]
      have HS := Lib.hid (hsee.out.trans hs)
      have HR := Lib.hid hr10
      have hlf : ((DE : Int) == 0) = false := by simp; omega
      clear hr10 hs hsee Hx HD px z
      go_wp2_with fail
      go_meet
      exact ⟨by rw [HS.out], rfl⟩
  obtain ⟨rfl, hwz⟩ := hcut
  rw [hwz]
  clear hwz
  clear hsee
  go_upto_if 159 with fail
  go_cut [8, 14] (fun s8 s14 wz => ∃ (sv : Int) (sa : Nat), s8 = .int .i64 sv ∧ s14 = .int .i64 sa ∧ PC w t wz (r11 t) cb y m d h n ∧ ((r11 t).e = 0 → sv = pSec t) ∧ 0 ≤ sv ∧ sv ≤ 9999 ∧ (60 < sv → (sa : Int) = pSecAt t))
  case first =>
    cases hs : hasS t with
    | false =>
      have N := Lib.hid (no.out hs)
      clear hs yes no Ks
      go_wp2_with fail
      go_meet
      exact ⟨0, (r10 t).p, rfl, rfl, by rw [N.out.1]; exact Hx.out, fun _ => N.out.2.symm, by omega, by omega, fun h => by omega⟩
    | true =>
      have N := yes.out hs
      have hA2 : pSecAt t = ((r10a t).p : Int) := by unfold pSecAt; rw [hs, if_pos rfl]
      clear hs yes no c0 c1 c2 f0 f1 f2
      generalize digS t 2 (r10a t) = S2 at *
      generalize r10a t = A at *
      generalize r10 t = D at *
      obtain ⟨DP, DE⟩ := D
      obtain ⟨N1, N2, N3, N4⟩ := N
      dsimp only at N2 N3
      subst N3
      subst N2
      have HA2 := Lib.hid hA2; clear hA2
      have HN1 := Lib.hid N1; clear N1
      have HN4 := Lib.hid N4; clear N4
      have pb : DP ≤ 1000 := by have : DP ≤ t.length := px.out; omega
      have c1 : wx.cell? ⟨w.heap.size, 1, none⟩ = some (.int .i64 DP) := Hx.out.P.c1
      have f1 := Hx.out.P.f 1
      have Hp0 := Hx.out.place (DP + 1)
      have ecast : ((DP + 1 : Nat) : Int) = (DP : Int) + 1 := by omega
      rw [ecast] at Hp0
      have Hp := Lib.hid Hp0
      have Ks2 : Hid (∀ W : World, Calls Tryd.prog 49 #[.agg #[.string ⟨t.toArray⟩, .int .i64 ((DP : Int) + 1), .int .i64 0], .int .i64 2] W fun r w' => r = .returned (.tuple #[.agg #[.string ⟨t.toArray⟩, .int .i64 S2.p, .int .i64 S2.e], .int .i64 Sv]) ∧ Below W.heap.size W w') := fun W => by
        have := Ks.out W
        dsimp only at this
        rw [ecast] at this
        exact this
      clear Hx px HD Hp0 Ks
      go_upto_region 30 with fail
      clear c1 f1
      generalize hW : World.setCell _ _ _ = w3 at *
      clear hW
      have c0 := Hp.out.P.c0
      have c1 : w3.cell? ⟨w.heap.size, 1, none⟩ = some (.int .i64 ((DP : Int) + 1)) := by rw [← ecast]; exact Hp.out.P.c1
      have c2 : w3.cell? ⟨w.heap.size, 2, none⟩ = some (.int .i64 0) := Hp.out.P.c2
      go_wp2_with fail
      refine (Ks2.out _).mono ?_; rintro e wa ⟨rfl, ba⟩
      have HA := Lib.hid (Hp.out.below ba)
      clear ba Hp c0 c1 c2 Ks2
      have c0 := HA.out.P.c0
      have c1 : wa.cell? ⟨w.heap.size, 1, none⟩ = some (.int .i64 ((DP : Int) + 1)) := by rw [← ecast]; exact HA.out.P.c1
      have HEC := Lib.hid ecast; clear ecast
      have c2 : wa.cell? ⟨w.heap.size, 2, none⟩ = some (.int .i64 0) := HA.out.P.c2
      have f0 := HA.out.P.f 0
      have f1 := HA.out.P.f 1
      have f2 := HA.out.P.f 2
      go_wp2_with fail
      go_meet
      exact ⟨Sv, DP + 1, rfl, by rw [HEC.out], by rw [HN1.out]; exact HA.out.text _, fun he => HN4.out (by rw [← HN1.out]; exact he), s1, s2, fun _ => HA2.out.symm⟩
  clear Hx yes no Ks s1 s2 c0 c1 c2 f0 f1 f2 px pa
  obtain ⟨sv, sa, rfl, rfl, h11, hs, s1, s2, hsa⟩ := hcut
  apply_assumption
  exact Flow.wp_of_rest (n := 24) (f := Tryd.f22) rfl (refTail24 t w _ F cb y m d h n sv sa hl HF h11 (fun he => ⟨HD.out (r11_e he), hs he⟩) y0 y1 m0 m1 d0 d1 h0 h1 n0 n1 s1 s2 hsa)

end Go.Proofs.YtpdncgfkoibacaaDoor

