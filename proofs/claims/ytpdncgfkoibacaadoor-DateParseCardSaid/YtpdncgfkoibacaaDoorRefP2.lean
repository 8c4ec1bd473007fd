/- Contract of Parse of the reference of package date, part 2 of 5: the rest of its body, statement by statement, from the end on. -/
import Derived.Test.YtpdncgfkoibacaaDoorRefChain
import Derived.Test.YtpdncgfkoibacaaDoorRead
import Derived.Test.YtpdncgfkoibacaaDoorRefFrom
import Derived.Test.YtpdncgfkoibacaaDoorTail
import Derived.Test.YtpdncgfkoibacaaDoorRest
import Derived.Deep.DeepCutAuto
import Derived.Test.YtpdncgfkoibacaaDoorRefP1
namespace Go.Proofs.YtpdncgfkoibacaaDoor
open Go.RowKit
open Cal


set_option maxRecDepth 100000 in
set_option maxHeartbeats 8000000 in
theorem refTail31 {v1 v2 v3 v4 v9 v16 v17 v18 v19 v20 v21 v22 v23 v24 v25 v26 v27 v28 v29 v30 v31 v32 v33 v34 v35 v36 v37 v38 v39 v40 v41 v42 v43 v44 v45 v46 v47 v48 v49 v50 v51 v52 v53 v54 v55 v56 v57 v58 v59 v60 v61 v62 v63 v64 v65 v66 v67 v68 v69 v70 v71 v72 v73 v74 v75 v76 v77 v78 v79 v80 v81 v82 v83 v84 v85 v86 v87 v88 v89 v90 v91 v92 v93 v94 v95 v96 v97 v98 v99 v100 v101 v102 v103 v104 v105 v106 v107 v108 v109 v110 v111 v112 v113 v114 v115 v116 v117 v118 v119 v120 v121 v122 v123 v124 v125 v126 v127 v128 v129 v130 v131 v132 v133 v134 v135 v136 v137 v138 v139 v140 v141 v142 v143 v144 v145 v146 v147 v148 v149 v150 v151 v152 v153 v154 v155 v156 v157 v158 v159 v160 v161 v162 v163 v164 v165 v166 v167 v168 v169 v170 v171 v172 v173 v174 v175 v176 v177 v178 v179 v180 v181 v182 v183 v184 v185 v186 v187 v188 v189 v190 v191 v192 v193 v194 v195 v196 v197 v198 v199 v200 v201 v202 v203 v204 v205 v206 v207 v208 v209 v210 v211 v212 v213 v214 v215 v216 v217 v218 v219 v220 v221 v222 v223 v224 v225 v226 v227 v228 v229 v230 v231 v232 v233 v234 v235 v236 v237 v238 v239 v240 v241 v242 v243 v244 v245 v246 v247 v248 v249 v250 v251 v252 v253 v254 v255 v256 v257 v258 v259 v260 v261 v262 v263 v264 v265 v266 v267 v268 v269 v270 v271 v272 v273 v274 v275 v276 v277 v278 v279 v280 v281 v282 v283 v284 v285 v286 v287 v288 : Value} (t : List UInt8) (w wx : World) (F : Int × Int × Int) (cb : Nat) (y m d h n : Int) (sv : Int) (sa : Nat) (DP : Nat) (hl : t.length ≤ 64) (HF : Hid (parseF t = F)) (hx : PC w t wx (chainD ⟨DP, 0⟩ y m d (r5 t).p (r1 t).p) cb y m d h n) (hr : r13 t = ⟨DP, 0⟩) (hd : (y = pYear t ∧ m = pMon t ∧ d = pDay t ∧ h = pHour t ∧ n = pMin t) ∧ sv = pSec t) (y0 : 0 ≤ y) (y1 : y ≤ 9999) (m0 : 1 ≤ m) (m1 : m ≤ 12) (d0 : 0 ≤ d) (d1 : d ≤ 99999) (h0 : 0 ≤ h) (h1 : h ≤ 9999) (n0 : 0 ≤ n) (n1 : n ≤ 9999) (s0 : 0 ≤ sv) (s1 : sv ≤ 9999) (hsa : 60 < sv → (sa : Int) = pSecAt t) :
    Code.wp Tryd.prog (Flow.rest 31 Tryd.f22) (bodyPost Tryd.prog Tryd.f22 fun e w' => e = .returned (.tuple #[.int .i64 F.1, .int .i64 F.2.1, .int .i64 F.2.2]) ∧ Below w.heap.size w w') ⟨#[.string ⟨t.toArray⟩, v1, v2, v3, v4, .pointer (some ⟨w.heap.size, 0, none⟩), .int .i64 (pWd t), .pointer (some ⟨cb, 0, none⟩), .int .i64 sv, v9, .int .i64 (r1 t).p, .int .i64 (r5 t).p, .int .i64 (r7 t).p, .int .i64 (r9 t).p, .int .i64 sa, .int .i64 (pOff t), v16, v17, v18, v19, v20, v21, v22, v23, v24, v25, v26, v27, v28, v29, v30, v31, v32, v33, v34, v35, v36, v37, v38, v39, v40, v41, v42, v43, v44, v45, v46, v47, v48, v49, v50, v51, v52, v53, v54, v55, v56, v57, v58, v59, v60, v61, v62, v63, v64, v65, v66, v67, v68, v69, v70, v71, v72, v73, v74, v75, v76, v77, v78, v79, v80, v81, v82, v83, v84, v85, v86, v87, v88, v89, v90, v91, v92, v93, v94, v95, v96, v97, v98, v99, v100, v101, v102, v103, v104, v105, v106, v107, v108, v109, v110, v111, v112, v113, v114, v115, v116, v117, v118, v119, v120, v121, v122, v123, v124, v125, v126, v127, v128, v129, v130, v131, v132, v133, v134, v135, v136, v137, v138, v139, v140, v141, v142, v143, v144, v145, v146, v147, v148, v149, v150, v151, v152, v153, v154, v155, v156, v157, v158, v159, v160, v161, v162, v163, v164, v165, v166, v167, v168, v169, v170, v171, v172, v173, v174, v175, v176, v177, v178, v179, v180, v181, v182, v183, v184, v185, v186, v187, v188, v189, v190, v191, v192, v193, v194, v195, v196, v197, v198, v199, v200, v201, v202, v203, v204, v205, v206, v207, v208, v209, v210, v211, v212, v213, v214, v215, v216, v217, v218, v219, v220, v221, v222, v223, v224, v225, v226, v227, v228, v229, v230, v231, v232, v233, v234, v235, v236, v237, v238, v239, v240, v241, v242, v243, v244, v245, v246, v247, v248, v249, v250, v251, v252, v253, v254, v255, v256, v257, v258, v259, v260, v261, v262, v263, v264, v265, v266, v267, v268, v269, v270, v271, v272, v273, v274, v275, v276, v277, v278, v279, v280, v281, v282, v283, v284, v285, v286, v287, v288], []⟩ wx := by
  refine Flow.wp_rest rfl ?_
  have hl2 : t.length ≤ 1000 := by omega
  have hl3 : (t.length : Int) ≤ 64 := by omega
  have H3 := Lib.hid hx; clear hx
  have HR := Lib.hid hr; clear hr
  have HD := Lib.hid hd; clear hd
  have hC : Hid (chain ⟨DP, 0⟩ y m d h n sv (r5 t).p (r1 t).p (r7 t).p (r9 t).p sa = chk (decide (sv ≤ 60)) (chk (decide (n ≤ 59)) (chk (decide (h ≤ 23)) (chainD ⟨DP, 0⟩ y m d (r5 t).p (r1 t).p) (r7 t).p 13) (r9 t).p 13) sa 13) := rfl
  generalize chainD ⟨DP, 0⟩ y m d (r5 t).p (r1 t).p = S2 at *
  dsimp only
  have c0 := H3.out.P.c0
  have c1 := H3.out.P.c1
  have c2 := H3.out.P.c2
  have k3 := H3.out.k 3
  go_wp2_with fail
  refine (refCheck_any _ S2 _ (r7 t).p 13 _).mono ?_; rintro e wa ⟨he, ba⟩
  obtain rfl : e = .returned (.agg #[.string ⟨t.toArray⟩, .int .i64 (chk (decide (h ≤ 23)) S2 (r7 t).p 13).p, .int .i64 (chk (decide (h ≤ 23)) S2 (r7 t).p 13).e]) := he
  have HA := Lib.hid (H3.out.below ba)
  clear ba c0 c1 c2 k3 H3
  obtain ⟨S3, hS3⟩ : ∃ S, chk (decide (h ≤ 23)) S2 (r7 t).p 13 = S := ⟨_, rfl⟩
  rw [hS3]
  have HS3 := Lib.hid hS3; clear hS3
  have c0 := HA.out.P.c0
  have c1 := HA.out.P.c1
  have c2 := HA.out.P.c2
  have f0 := HA.out.P.f 0
  have f1 := HA.out.P.f 1
  have f2 := HA.out.P.f 2
  have H4 := Lib.hid (HA.out.text S3)
  go_upto_region 46 with fail
  clear c0 c1 c2 f0 f1 f2 HA
  generalize hW : World.setCell _ _ _ = w3 at *
  clear hW
  have c0 := H4.out.P.c0
  have c1 := H4.out.P.c1
  have c2 := H4.out.P.c2
  have k4 := H4.out.k 4
  go_wp2_with fail
  refine (refCheck_any _ S3 _ (r9 t).p 13 _).mono ?_; rintro e wa ⟨he, ba⟩
  obtain rfl : e = .returned (.agg #[.string ⟨t.toArray⟩, .int .i64 (chk (decide (n ≤ 59)) S3 (r9 t).p 13).p, .int .i64 (chk (decide (n ≤ 59)) S3 (r9 t).p 13).e]) := he
  have HA := Lib.hid (H4.out.below ba)
  clear ba c0 c1 c2 k4 H4
  obtain ⟨S4, hS4⟩ : ∃ S, chk (decide (n ≤ 59)) S3 (r9 t).p 13 = S := ⟨_, rfl⟩
  rw [hS4]
  have HS4 := Lib.hid hS4; clear hS4
  have c0 := HA.out.P.c0
  have c1 := HA.out.P.c1
  have c2 := HA.out.P.c2
  have f0 := HA.out.P.f 0
  have f1 := HA.out.P.f 1
  have f2 := HA.out.P.f 2
  have H4 := Lib.hid (HA.out.text S4)
  go_upto_region 47 with fail
  clear c0 c1 c2 f0 f1 f2 HA
  generalize hW : World.setCell _ _ _ = w3 at *
  clear hW
  go_cut [] (fun wz => PC w t wz (chk (decide (sv ≤ 60)) S4 sa 13) cb y m d h n)
  case first =>
    have c0 := H4.out.P.c0
    have c1 := H4.out.P.c1
    have c2 := H4.out.P.c2
    go_wp2_with fail
    refine (refCheck_any _ S4 _ sa 13 _).mono ?_; rintro e wa ⟨he, ba⟩
    obtain rfl : e = .returned (.agg #[.string ⟨t.toArray⟩, .int .i64 (chk (decide (sv ≤ 60)) S4 sa 13).p, .int .i64 (chk (decide (sv ≤ 60)) S4 sa 13).e]) := he
    have HA := Lib.hid (H4.out.below ba)
    clear ba c0 c1 c2
    have c0 := HA.out.P.c0
    have c1 := HA.out.P.c1
    have c2 := HA.out.P.c2
    have f0 := HA.out.P.f 0
    have f1 := HA.out.P.f 1
    have f2 := HA.out.P.f 2
    go_wp2_with fail
    go_meet
    exact HA.out.text _
  clear H4
  apply_assumption
  exact Flow.wp_of_rest (n := 34) (f := Tryd.f22) rfl (refTail34 t w _ F cb y m d h n sv sa DP hl HF (by rw [hC.out, ← HS3.out, ← HS4.out] at *; exact hcut) HR.out HD.out y0 y1 m0 m1 d0 d1 h0 h1 n0 n1 s0 s1 hsa)


set_option maxRecDepth 100000 in
set_option maxHeartbeats 8000000 in
theorem refTail30a {v1 v2 v3 v4 v9 v16 v17 v18 v19 v20 v21 v22 v23 v24 v25 v26 v27 v28 v29 v30 v31 v32 v33 v34 v35 v36 v37 v38 v39 v40 v41 v42 v43 v44 v45 v46 v47 v48 v49 v50 v51 v52 v53 v54 v55 v56 v57 v58 v59 v60 v61 v62 v63 v64 v65 v66 v67 v68 v69 v70 v71 v72 v73 v74 v75 v76 v77 v78 v79 v80 v81 v82 v83 v84 v85 v86 v87 v88 v89 v90 v91 v92 v93 v94 v95 v96 v97 v98 v99 v100 v101 v102 v103 v104 v105 v106 v107 v108 v109 v110 v111 v112 v113 v114 v115 v116 v117 v118 v119 v120 v121 v122 v123 v124 v125 v126 v127 v128 v129 v130 v131 v132 v133 v134 v135 v136 v137 v138 v139 v140 v141 v142 v143 v144 v145 v146 v147 v148 v149 v150 v151 v152 v153 v154 v155 v156 v157 v158 v159 v160 v161 v162 v163 v164 v165 v166 v167 v168 v169 v170 v171 v172 v173 v174 v175 v176 v177 v178 v179 v180 v181 v182 v183 v184 v185 v186 v187 v188 v189 v190 v191 v192 v193 v194 v195 v196 v197 v198 v199 v200 v201 v202 v203 v204 v205 v206 v207 v208 v209 v210 v211 v212 v213 v214 v215 v216 v217 v218 v219 v220 v221 v222 v223 v224 v225 v226 v227 v228 v229 v230 v231 v232 v233 v234 v235 v236 v237 v238 v239 v240 v241 v242 v243 v244 v245 v246 v247 v248 v249 v250 v251 v252 v253 v254 v255 v256 v257 v258 v259 v260 v261 v262 v263 v264 v265 v266 v267 v268 v269 v270 v271 v272 v273 v274 v275 v276 v277 v278 v279 v280 v281 v282 v283 v284 v285 v286 v287 v288 : Value} (t : List UInt8) (w wx : World) (F : Int × Int × Int) (cb : Nat) (y m d h n : Int) (sv : Int) (sa : Nat) (DP : Nat) (hl : t.length ≤ 64) (HF : Hid (parseF t = F)) (hx : PC w t wx ⟨(r5 t).p, 2⟩ cb y m d h n) (hr : r13 t = ⟨DP, 0⟩) (hd : (y = pYear t ∧ m = pMon t ∧ d = pDay t ∧ h = pHour t ∧ n = pMin t) ∧ sv = pSec t) (y0 : 0 ≤ y) (y1 : y ≤ 9999) (m0 : 1 ≤ m) (m1 : m ≤ 12) (d0 : 0 ≤ d) (d1 : d ≤ 99999) (h0 : 0 ≤ h) (h1 : h ≤ 9999) (n0 : 0 ≤ n) (n1 : n ≤ 9999) (s0 : 0 ≤ sv) (s1 : sv ≤ 9999) (hsa : 60 < sv → (sa : Int) = pSecAt t) (hS : chainD ⟨DP, 0⟩ y m d (r5 t).p (r1 t).p = ⟨(r5 t).p, 2⟩) :
    Code.wp Tryd.prog (Flow.rest 30 Tryd.f22) (bodyPost Tryd.prog Tryd.f22 fun e w' => e = .returned (.tuple #[.int .i64 F.1, .int .i64 F.2.1, .int .i64 F.2.2]) ∧ Below w.heap.size w w') ⟨#[.string ⟨t.toArray⟩, v1, v2, v3, v4, .pointer (some ⟨w.heap.size, 0, none⟩), .int .i64 (pWd t), .pointer (some ⟨cb, 0, none⟩), .int .i64 sv, v9, .int .i64 (r1 t).p, .int .i64 (r5 t).p, .int .i64 (r7 t).p, .int .i64 (r9 t).p, .int .i64 sa, .int .i64 (pOff t), v16, v17, v18, v19, v20, v21, v22, v23, v24, v25, v26, v27, v28, v29, v30, v31, v32, v33, v34, v35, v36, v37, v38, v39, v40, v41, v42, v43, v44, v45, v46, v47, v48, v49, v50, v51, v52, v53, v54, v55, v56, v57, v58, v59, v60, v61, v62, v63, v64, v65, v66, v67, v68, v69, v70, v71, v72, v73, v74, v75, v76, v77, v78, v79, v80, v81, v82, v83, v84, v85, v86, v87, v88, v89, v90, v91, v92, v93, v94, v95, v96, v97, v98, v99, v100, v101, v102, v103, v104, v105, v106, v107, v108, v109, v110, v111, v112, v113, v114, v115, v116, v117, v118, v119, v120, v121, v122, v123, v124, v125, v126, v127, v128, v129, v130, v131, v132, v133, v134, v135, v136, v137, v138, v139, v140, v141, v142, v143, v144, v145, v146, v147, v148, v149, v150, v151, v152, v153, v154, v155, v156, v157, v158, v159, v160, v161, v162, v163, v164, v165, v166, v167, v168, v169, v170, v171, v172, v173, v174, v175, v176, v177, v178, v179, v180, v181, v182, v183, v184, v185, v186, v187, v188, v189, v190, v191, v192, v193, v194, v195, v196, v197, v198, v199, v200, v201, v202, v203, v204, v205, v206, v207, v208, v209, v210, v211, v212, v213, v214, v215, v216, v217, v218, v219, v220, v221, v222, v223, v224, v225, v226, v227, v228, v229, v230, v231, v232, v233, v234, v235, v236, v237, v238, v239, v240, v241, v242, v243, v244, v245, v246, v247, v248, v249, v250, v251, v252, v253, v254, v255, v256, v257, v258, v259, v260, v261, v262, v263, v264, v265, v266, v267, v268, v269, v270, v271, v272, v273, v274, v275, v276, v277, v278, v279, v280, v281, v282, v283, v284, v285, v286, v287, v288], []⟩ wx := by
  refine Flow.wp_rest rfl ?_
  have hl2 : t.length ≤ 1000 := by omega
  have hl3 : (t.length : Int) ≤ 64 := by omega
  have H3 := Lib.hid hx; clear hx
  have HR := Lib.hid hr; clear hr
  have HD := Lib.hid hd; clear hd
  have hlf : ((2 : Int) == 0) = false := by decide
  dsimp only
  have c2 : wx.cell? ⟨w.heap.size, 2, none⟩ = some (.int .i64 2) := H3.out.P.c2
  go_upto_if 227 with fail
  go_cut [] (fun wz => wz = wx)
  case first =>
    go_wp2_with fail
    go_meet
    rfl
  rw [hcut]
  clear hcut c2
  apply_assumption
  exact Flow.wp_of_rest (n := 31) (f := Tryd.f22) rfl (refTail31 t w _ F cb y m d h n sv sa DP hl HF (by rw [hS]; exact H3.out) HR.out HD.out y0 y1 m0 m1 d0 d1 h0 h1 n0 n1 s0 s1 hsa)


set_option maxRecDepth 100000 in
set_option maxHeartbeats 8000000 in
theorem refTail30b {v1 v2 v3 v4 v9 v16 v17 v18 v19 v20 v21 v22 v23 v24 v25 v26 v27 v28 v29 v30 v31 v32 v33 v34 v35 v36 v37 v38 v39 v40 v41 v42 v43 v44 v45 v46 v47 v48 v49 v50 v51 v52 v53 v54 v55 v56 v57 v58 v59 v60 v61 v62 v63 v64 v65 v66 v67 v68 v69 v70 v71 v72 v73 v74 v75 v76 v77 v78 v79 v80 v81 v82 v83 v84 v85 v86 v87 v88 v89 v90 v91 v92 v93 v94 v95 v96 v97 v98 v99 v100 v101 v102 v103 v104 v105 v106 v107 v108 v109 v110 v111 v112 v113 v114 v115 v116 v117 v118 v119 v120 v121 v122 v123 v124 v125 v126 v127 v128 v129 v130 v131 v132 v133 v134 v135 v136 v137 v138 v139 v140 v141 v142 v143 v144 v145 v146 v147 v148 v149 v150 v151 v152 v153 v154 v155 v156 v157 v158 v159 v160 v161 v162 v163 v164 v165 v166 v167 v168 v169 v170 v171 v172 v173 v174 v175 v176 v177 v178 v179 v180 v181 v182 v183 v184 v185 v186 v187 v188 v189 v190 v191 v192 v193 v194 v195 v196 v197 v198 v199 v200 v201 v202 v203 v204 v205 v206 v207 v208 v209 v210 v211 v212 v213 v214 v215 v216 v217 v218 v219 v220 v221 v222 v223 v224 v225 v226 v227 v228 v229 v230 v231 v232 v233 v234 v235 v236 v237 v238 v239 v240 v241 v242 v243 v244 v245 v246 v247 v248 v249 v250 v251 v252 v253 v254 v255 v256 v257 v258 v259 v260 v261 v262 v263 v264 v265 v266 v267 v268 v269 v270 v271 v272 v273 v274 v275 v276 v277 v278 v279 v280 v281 v282 v283 v284 v285 v286 v287 v288 : Value} (t : List UInt8) (w wx : World) (F : Int × Int × Int) (cb : Nat) (y m d h n : Int) (sv : Int) (sa : Nat) (DP : Nat) (hl : t.length ≤ 64) (HF : Hid (parseF t = F)) (hx : PC w t wx ⟨DP, 0⟩ cb y m d h n) (hr : r13 t = ⟨DP, 0⟩) (hd : (y = pYear t ∧ m = pMon t ∧ d = pDay t ∧ h = pHour t ∧ n = pMin t) ∧ sv = pSec t) (y0 : 0 ≤ y) (y1 : y ≤ 9999) (m0 : 1 ≤ m) (m1 : m ≤ 12) (d0 : 0 ≤ d) (d1 : d ≤ 99999) (h0 : 0 ≤ h) (h1 : h ≤ 9999) (n0 : 0 ≤ n) (n1 : n ≤ 9999) (s0 : 0 ≤ sv) (s1 : sv ≤ 9999) (hsa : 60 < sv → (sa : Int) = pSecAt t) (hY : chainY ⟨DP, 0⟩ y (r5 t).p = ⟨DP, 0⟩) (yb : 2000 ≤ y ∧ y ≤ 2199) :
    Code.wp Tryd.prog (Flow.rest 30 Tryd.f22) (bodyPost Tryd.prog Tryd.f22 fun e w' => e = .returned (.tuple #[.int .i64 F.1, .int .i64 F.2.1, .int .i64 F.2.2]) ∧ Below w.heap.size w w') ⟨#[.string ⟨t.toArray⟩, v1, v2, v3, v4, .pointer (some ⟨w.heap.size, 0, none⟩), .int .i64 (pWd t), .pointer (some ⟨cb, 0, none⟩), .int .i64 sv, v9, .int .i64 (r1 t).p, .int .i64 (r5 t).p, .int .i64 (r7 t).p, .int .i64 (r9 t).p, .int .i64 sa, .int .i64 (pOff t), v16, v17, v18, v19, v20, v21, v22, v23, v24, v25, v26, v27, v28, v29, v30, v31, v32, v33, v34, v35, v36, v37, v38, v39, v40, v41, v42, v43, v44, v45, v46, v47, v48, v49, v50, v51, v52, v53, v54, v55, v56, v57, v58, v59, v60, v61, v62, v63, v64, v65, v66, v67, v68, v69, v70, v71, v72, v73, v74, v75, v76, v77, v78, v79, v80, v81, v82, v83, v84, v85, v86, v87, v88, v89, v90, v91, v92, v93, v94, v95, v96, v97, v98, v99, v100, v101, v102, v103, v104, v105, v106, v107, v108, v109, v110, v111, v112, v113, v114, v115, v116, v117, v118, v119, v120, v121, v122, v123, v124, v125, v126, v127, v128, v129, v130, v131, v132, v133, v134, v135, v136, v137, v138, v139, v140, v141, v142, v143, v144, v145, v146, v147, v148, v149, v150, v151, v152, v153, v154, v155, v156, v157, v158, v159, v160, v161, v162, v163, v164, v165, v166, v167, v168, v169, v170, v171, v172, v173, v174, v175, v176, v177, v178, v179, v180, v181, v182, v183, v184, v185, v186, v187, v188, v189, v190, v191, v192, v193, v194, v195, v196, v197, v198, v199, v200, v201, v202, v203, v204, v205, v206, v207, v208, v209, v210, v211, v212, v213, v214, v215, v216, v217, v218, v219, v220, v221, v222, v223, v224, v225, v226, v227, v228, v229, v230, v231, v232, v233, v234, v235, v236, v237, v238, v239, v240, v241, v242, v243, v244, v245, v246, v247, v248, v249, v250, v251, v252, v253, v254, v255, v256, v257, v258, v259, v260, v261, v262, v263, v264, v265, v266, v267, v268, v269, v270, v271, v272, v273, v274, v275, v276, v277, v278, v279, v280, v281, v282, v283, v284, v285, v286, v287, v288], []⟩ wx := by
  refine Flow.wp_rest rfl ?_
  have hl2 : t.length ≤ 1000 := by omega
  have hl3 : (t.length : Int) ≤ 64 := by omega
  have H3 := Lib.hid hx; clear hx
  have HR := Lib.hid hr; clear hr
  have HD := Lib.hid hd; clear hd
  obtain ⟨P1, hP1⟩ : ∃ q, (r1 t).p = q := ⟨_, rfl⟩
  have hS : Hid (chainD ⟨DP, 0⟩ y m d (r5 t).p (r1 t).p = chk (dOk y m d) ⟨DP, 0⟩ P1 13) := by
    show _ = _
    unfold chainD
    rw [hY, if_pos rfl, hP1]
  rw [hP1]
  have HP1 := Lib.hid hP1
  clear hP1 hY
  have mb := md_bd y m
  dsimp only
  have c2 : wx.cell? ⟨w.heap.size, 2, none⟩ = some (.int .i64 0) := H3.out.P.c2
  go_upto_if 227 with fail
  go_cut [] (fun wz => PC w t wz (chk (dOk y m d) ⟨DP, 0⟩ P1 13) cb y m d h n)
  case first =>
    clear c2
    go_wp2_with fail
    refine Flow.wp_region_pre Flow.Later Flow.Later.refl Flow.Later.trans [16] (.held [0, 1, 2, 3, 4, 5, 6, 7, 8, 9, 10, 14] (.call 11 (.held [12, 13] (.call 15 (.tail (.step [] 16 (.done []))))))) (by kernel_rfl) (by kernel_rfl) ?_
    have HW := Lib.hid H3.out.drew
    generalize hwd : World.drew _ = wd at *
    clear hwd
    have q0 : ∀ t1 : Flow.Cls (Flow.Later wd), t1.val.cell? ⟨w.heap.size, 0, none⟩ = some (.string ⟨t.toArray⟩) := Flow.cls_cell HW.out.P.c0
    have q1 : ∀ t1 : Flow.Cls (Flow.Later wd), t1.val.cell? ⟨w.heap.size, 1, none⟩ = some (.int .i64 DP) := Flow.cls_cell HW.out.P.c1
    have q2 : ∀ t1 : Flow.Cls (Flow.Later wd), t1.val.cell? ⟨w.heap.size, 2, none⟩ = some (.int .i64 0) := Flow.cls_cell HW.out.P.c2
    have s0' : ∀ t1 : Flow.Cls (Flow.Later wd), t1.val.cell? ⟨cb, 0, none⟩ = some (.int .i64 y) := Flow.cls_cell (HW.out.k 0)
    have s1' : ∀ t1 : Flow.Cls (Flow.Later wd), t1.val.cell? ⟨cb, 1, none⟩ = some (.int .i64 m) := Flow.cls_cell (HW.out.k 1)
    have s2' : ∀ t1 : Flow.Cls (Flow.Later wd), t1.val.cell? ⟨cb, 2, none⟩ = some (.int .i64 d) := Flow.cls_cell (HW.out.k 2)
    haveI nonE := Flow.cls_nonempty wd
    rw [Flow.wpPre_held]
    simp only [Flow.pick, List.getElem?_toArray, List.getElem?_cons_succ, List.getElem?_cons_zero]
    by_cases hd1 : 1 ≤ d
    · have hdt : decide (1 ≤ d) = true := by simpa using hd1
      repeat go_big_quiet_step (fail)
      refine wpQuiet_nil ?_
      clear q0 q1 q2 s0' s1' s2' nonE
      rw [Flow.wpPre_call, Flow.callAt_eq]
      simp only [List.getElem?_toArray, List.getElem?_cons_succ, List.getElem?_cons_zero]
      rw [if_pos (by rfl)]
      refine Flow.wp_behind (fun K hK => ?_)
      go_wp2_with fail
      refine (refDays_any y m _ (by omega) (by omega) (by omega) (by omega)).mono ?_; rintro e wn ⟨rfl, bn⟩
      refine hK.out _ _ ⟨bn, ?_⟩
      have HN := Lib.hid (HW.out.below bn)
      clear hK K bn HW
      haveI nonE := Flow.cls_nonempty wn
      rw [Flow.wpPre_held]
      simp only [Flow.pick, List.getElem?_toArray, List.getElem?_cons_succ, List.getElem?_cons_zero]
      repeat go_big_quiet_step (fail)
      refine wpQuiet_nil ?_
      clear nonE
      rw [Flow.wpPre_call, Flow.callAt_eq]
      simp only [List.getElem?_toArray, List.getElem?_cons_succ, List.getElem?_cons_zero]
      rw [if_pos (by rfl)]
      refine Flow.wp_behind (fun K hK => ?_)
      go_wp2_with fail
      have HOK : Hid (dOk y m d = decide (d ≤ md y m)) := by show _ = _; unfold dOk; rw [Bool.eq_iff_iff]; simp [hd1]
      obtain ⟨S9, hS9⟩ : ∃ S, chk (decide (d ≤ md y m)) ⟨DP, 0⟩ P1 13 = S := ⟨_, rfl⟩
      have HS9 := Lib.hid hS9
      refine (refCheck_any _ ⟨DP, 0⟩ _ P1 13 _).mono ?_; rintro e wm ⟨he, bm⟩
      have hS9' : (if decide (d ≤ md y m) = true then (⟨DP, 0⟩ : St) else failAt ⟨DP, 0⟩ P1 13) = S9 := hS9
      rw [hS9'] at he
      subst he
      clear hS9 hS9'
      refine hK.out _ _ ⟨bm, ?_⟩
      have HM := Lib.hid (HN.out.below bm)
      clear hK K bm HN
      rw [Flow.wpPre_tail, Flow.wpSched_step]
      simp only [Flow.pick]
      refine wpQuiet_nil ?_
      rw [Flow.callAt_eq]
      simp only [List.getElem?_toArray, List.getElem?_cons_succ, List.getElem?_cons_zero]
      rw [if_pos (by rfl)]
      refine Flow.wp_behind (fun K hK => ?_)
      have c0 := HM.out.P.c0
      have c1 := HM.out.P.c1
      have c2 := HM.out.P.c2
      have f0 := HM.out.P.f 0
      have f1 := HM.out.P.f 1
      have f2 := HM.out.P.f 2
      go_wp2_with fail
      refine hK.out _ _ ⟨trivial, ?_⟩
      clear hK K
      rw [Flow.wpSched_done]
      simp only [Flow.pick]
      refine wpQuiet_nil ?_
      go_wp2_with fail
      go_meet
      rw [HOK.out, HS9.out]
      exact HM.out.text S9
    · have hdt : decide (1 ≤ d) = false := by simpa using hd1
      repeat go_big_quiet_step (fail)
      refine wpQuiet_nil ?_
      clear q0 q1 q2 s0' s1' s2' nonE
      rw [Flow.wpPre_call, Flow.callAt_eq]
      simp only [List.getElem?_toArray, List.getElem?_cons_succ, List.getElem?_cons_zero]
      rw [if_neg (by rw [Bool.not_eq_true]; rfl)]
      simp only [Act.put, List.setIfInBounds_toArray, List.set_cons_succ, List.set_cons_zero]
      haveI nonE := Flow.cls_nonempty wd
      rw [Flow.wpPre_held]
      simp only [Flow.pick, List.getElem?_toArray, List.getElem?_cons_succ, List.getElem?_cons_zero]
      repeat go_big_quiet_step (fail)
      refine wpQuiet_nil ?_
      clear nonE
      rw [Flow.wpPre_call, Flow.callAt_eq]
      simp only [List.getElem?_toArray, List.getElem?_cons_succ, List.getElem?_cons_zero]
      rw [if_pos (by rfl)]
      refine Flow.wp_behind (fun K hK => ?_)
      go_wp2_with fail
      have HOK : Hid (dOk y m d = false) := by show _ = _; unfold dOk; simp; omega
      obtain ⟨S9, hS9⟩ : ∃ S, chk false ⟨DP, 0⟩ P1 13 = S := ⟨_, rfl⟩
      have HS9 := Lib.hid hS9
      refine (refCheck_any _ ⟨DP, 0⟩ false P1 13 _).mono ?_; rintro e wm ⟨he, bm⟩
      have hS9' : (if false = true then (⟨DP, 0⟩ : St) else failAt ⟨DP, 0⟩ P1 13) = S9 := hS9
      rw [hS9'] at he
      subst he
      clear hS9 hS9'
      refine hK.out _ _ ⟨bm, ?_⟩
      have HM := Lib.hid (HW.out.below bm)
      clear hK K bm HW
      rw [Flow.wpPre_tail, Flow.wpSched_step]
      simp only [Flow.pick]
      refine wpQuiet_nil ?_
      rw [Flow.callAt_eq]
      simp only [List.getElem?_toArray, List.getElem?_cons_succ, List.getElem?_cons_zero]
      rw [if_pos (by rfl)]
      refine Flow.wp_behind (fun K hK => ?_)
      have c0 := HM.out.P.c0
      have c1 := HM.out.P.c1
      have c2 := HM.out.P.c2
      have f0 := HM.out.P.f 0
      have f1 := HM.out.P.f 1
      have f2 := HM.out.P.f 2
      go_wp2_with fail
      refine hK.out _ _ ⟨trivial, ?_⟩
      clear hK K
      rw [Flow.wpSched_done]
      simp only [Flow.pick]
      refine wpQuiet_nil ?_
      go_wp2_with fail
      go_meet
      rw [HOK.out, HS9.out]
      exact HM.out.text S9
  have hP := hS.out
  have hP1 := HP1.out
  subst hP1
  clear H3 c2
  apply_assumption
  exact Flow.wp_of_rest (n := 31) (f := Tryd.f22) rfl (refTail31 t w _ F cb y m d h n sv sa DP hl HF (by rw [hP]; exact hcut) HR.out HD.out y0 y1 m0 m1 d0 d1 h0 h1 n0 n1 s0 s1 hsa)


theorem refTail30 {v1 v2 v3 v4 v9 v16 v17 v18 v19 v20 v21 v22 v23 v24 v25 v26 v27 v28 v29 v30 v31 v32 v33 v34 v35 v36 v37 v38 v39 v40 v41 v42 v43 v44 v45 v46 v47 v48 v49 v50 v51 v52 v53 v54 v55 v56 v57 v58 v59 v60 v61 v62 v63 v64 v65 v66 v67 v68 v69 v70 v71 v72 v73 v74 v75 v76 v77 v78 v79 v80 v81 v82 v83 v84 v85 v86 v87 v88 v89 v90 v91 v92 v93 v94 v95 v96 v97 v98 v99 v100 v101 v102 v103 v104 v105 v106 v107 v108 v109 v110 v111 v112 v113 v114 v115 v116 v117 v118 v119 v120 v121 v122 v123 v124 v125 v126 v127 v128 v129 v130 v131 v132 v133 v134 v135 v136 v137 v138 v139 v140 v141 v142 v143 v144 v145 v146 v147 v148 v149 v150 v151 v152 v153 v154 v155 v156 v157 v158 v159 v160 v161 v162 v163 v164 v165 v166 v167 v168 v169 v170 v171 v172 v173 v174 v175 v176 v177 v178 v179 v180 v181 v182 v183 v184 v185 v186 v187 v188 v189 v190 v191 v192 v193 v194 v195 v196 v197 v198 v199 v200 v201 v202 v203 v204 v205 v206 v207 v208 v209 v210 v211 v212 v213 v214 v215 v216 v217 v218 v219 v220 v221 v222 v223 v224 v225 v226 v227 v228 v229 v230 v231 v232 v233 v234 v235 v236 v237 v238 v239 v240 v241 v242 v243 v244 v245 v246 v247 v248 v249 v250 v251 v252 v253 v254 v255 v256 v257 v258 v259 v260 v261 v262 v263 v264 v265 v266 v267 v268 v269 v270 v271 v272 v273 v274 v275 v276 v277 v278 v279 v280 v281 v282 v283 v284 v285 v286 v287 v288 : Value} (t : List UInt8) (w wx : World) (F : Int × Int × Int) (cb : Nat) (y m d h n : Int) (sv : Int) (sa : Nat) (DP : Nat) (hl : t.length ≤ 64) (HF : Hid (parseF t = F)) (hx : PC w t wx (chainY ⟨DP, 0⟩ y (r5 t).p) cb y m d h n) (hr : r13 t = ⟨DP, 0⟩) (hd : (y = pYear t ∧ m = pMon t ∧ d = pDay t ∧ h = pHour t ∧ n = pMin t) ∧ sv = pSec t) (y0 : 0 ≤ y) (y1 : y ≤ 9999) (m0 : 1 ≤ m) (m1 : m ≤ 12) (d0 : 0 ≤ d) (d1 : d ≤ 99999) (h0 : 0 ≤ h) (h1 : h ≤ 9999) (n0 : 0 ≤ n) (n1 : n ≤ 9999) (s0 : 0 ≤ sv) (s1 : sv ≤ 9999) (hsa : 60 < sv → (sa : Int) = pSecAt t) :
    Code.wp Tryd.prog (Flow.rest 30 Tryd.f22) (bodyPost Tryd.prog Tryd.f22 fun e w' => e = .returned (.tuple #[.int .i64 F.1, .int .i64 F.2.1, .int .i64 F.2.2]) ∧ Below w.heap.size w w') ⟨#[.string ⟨t.toArray⟩, v1, v2, v3, v4, .pointer (some ⟨w.heap.size, 0, none⟩), .int .i64 (pWd t), .pointer (some ⟨cb, 0, none⟩), .int .i64 sv, v9, .int .i64 (r1 t).p, .int .i64 (r5 t).p, .int .i64 (r7 t).p, .int .i64 (r9 t).p, .int .i64 sa, .int .i64 (pOff t), v16, v17, v18, v19, v20, v21, v22, v23, v24, v25, v26, v27, v28, v29, v30, v31, v32, v33, v34, v35, v36, v37, v38, v39, v40, v41, v42, v43, v44, v45, v46, v47, v48, v49, v50, v51, v52, v53, v54, v55, v56, v57, v58, v59, v60, v61, v62, v63, v64, v65, v66, v67, v68, v69, v70, v71, v72, v73, v74, v75, v76, v77, v78, v79, v80, v81, v82, v83, v84, v85, v86, v87, v88, v89, v90, v91, v92, v93, v94, v95, v96, v97, v98, v99, v100, v101, v102, v103, v104, v105, v106, v107, v108, v109, v110, v111, v112, v113, v114, v115, v116, v117, v118, v119, v120, v121, v122, v123, v124, v125, v126, v127, v128, v129, v130, v131, v132, v133, v134, v135, v136, v137, v138, v139, v140, v141, v142, v143, v144, v145, v146, v147, v148, v149, v150, v151, v152, v153, v154, v155, v156, v157, v158, v159, v160, v161, v162, v163, v164, v165, v166, v167, v168, v169, v170, v171, v172, v173, v174, v175, v176, v177, v178, v179, v180, v181, v182, v183, v184, v185, v186, v187, v188, v189, v190, v191, v192, v193, v194, v195, v196, v197, v198, v199, v200, v201, v202, v203, v204, v205, v206, v207, v208, v209, v210, v211, v212, v213, v214, v215, v216, v217, v218, v219, v220, v221, v222, v223, v224, v225, v226, v227, v228, v229, v230, v231, v232, v233, v234, v235, v236, v237, v238, v239, v240, v241, v242, v243, v244, v245, v246, v247, v248, v249, v250, v251, v252, v253, v254, v255, v256, v257, v258, v259, v260, v261, v262, v263, v264, v265, v266, v267, v268, v269, v270, v271, v272, v273, v274, v275, v276, v277, v278, v279, v280, v281, v282, v283, v284, v285, v286, v287, v288], []⟩ wx := by
  by_cases yb : 2000 ≤ y ∧ y ≤ 2199
  · have hY : chainY ⟨DP, 0⟩ y (r5 t).p = ⟨DP, 0⟩ := by unfold chainY chk yOk; rw [if_pos (by simpa using yb)]
    rw [hY] at hx
    exact refTail30b t w wx F cb y m d h n sv sa DP hl HF hx hr hd y0 y1 m0 m1 d0 d1 h0 h1 n0 n1 s0 s1 hsa hY yb
  · have hY : chainY ⟨DP, 0⟩ y (r5 t).p = ⟨(r5 t).p, 2⟩ := by unfold chainY chk yOk; rw [if_neg (by simpa using yb)]; rfl
    have hS : chainD ⟨DP, 0⟩ y m d (r5 t).p (r1 t).p = ⟨(r5 t).p, 2⟩ := by unfold chainD; rw [hY, if_neg (show ¬ (2 : Nat) = 0 by decide)]
    rw [hY] at hx
    exact refTail30a t w wx F cb y m d h n sv sa DP hl HF hx hr hd y0 y1 m0 m1 d0 d1 h0 h1 n0 n1 s0 s1 hsa hS


set_option maxRecDepth 100000 in
set_option maxHeartbeats 8000000 in
theorem refTail29 {v1 v2 v3 v4 v9 v16 v17 v18 v19 v20 v21 v22 v23 v24 v25 v26 v27 v28 v29 v30 v31 v32 v33 v34 v35 v36 v37 v38 v39 v40 v41 v42 v43 v44 v45 v46 v47 v48 v49 v50 v51 v52 v53 v54 v55 v56 v57 v58 v59 v60 v61 v62 v63 v64 v65 v66 v67 v68 v69 v70 v71 v72 v73 v74 v75 v76 v77 v78 v79 v80 v81 v82 v83 v84 v85 v86 v87 v88 v89 v90 v91 v92 v93 v94 v95 v96 v97 v98 v99 v100 v101 v102 v103 v104 v105 v106 v107 v108 v109 v110 v111 v112 v113 v114 v115 v116 v117 v118 v119 v120 v121 v122 v123 v124 v125 v126 v127 v128 v129 v130 v131 v132 v133 v134 v135 v136 v137 v138 v139 v140 v141 v142 v143 v144 v145 v146 v147 v148 v149 v150 v151 v152 v153 v154 v155 v156 v157 v158 v159 v160 v161 v162 v163 v164 v165 v166 v167 v168 v169 v170 v171 v172 v173 v174 v175 v176 v177 v178 v179 v180 v181 v182 v183 v184 v185 v186 v187 v188 v189 v190 v191 v192 v193 v194 v195 v196 v197 v198 v199 v200 v201 v202 v203 v204 v205 v206 v207 v208 v209 v210 v211 v212 v213 v214 v215 v216 v217 v218 v219 v220 v221 v222 v223 v224 v225 v226 v227 v228 v229 v230 v231 v232 v233 v234 v235 v236 v237 v238 v239 v240 v241 v242 v243 v244 v245 v246 v247 v248 v249 v250 v251 v252 v253 v254 v255 v256 v257 v258 v259 v260 v261 v262 v263 v264 v265 v266 v267 v268 v269 v270 v271 v272 v273 v274 v275 v276 v277 v278 v279 v280 v281 v282 v283 v284 v285 v286 v287 v288 : Value} (t : List UInt8) (w wx : World) (F : Int × Int × Int) (cb : Nat) (y m d h n : Int) (sv : Int) (sa : Nat) (DP : Nat) (hl : t.length ≤ 64) (HF : Hid (parseF t = F)) (hx : PC w t wx ⟨DP, 0⟩ cb y m d h n) (hr : r13 t = ⟨DP, 0⟩) (hd : (y = pYear t ∧ m = pMon t ∧ d = pDay t ∧ h = pHour t ∧ n = pMin t) ∧ sv = pSec t) (y0 : 0 ≤ y) (y1 : y ≤ 9999) (m0 : 1 ≤ m) (m1 : m ≤ 12) (d0 : 0 ≤ d) (d1 : d ≤ 99999) (h0 : 0 ≤ h) (h1 : h ≤ 9999) (n0 : 0 ≤ n) (n1 : n ≤ 9999) (s0 : 0 ≤ sv) (s1 : sv ≤ 9999) (hsa : 60 < sv → (sa : Int) = pSecAt t) :
    Code.wp Tryd.prog (Flow.rest 29 Tryd.f22) (bodyPost Tryd.prog Tryd.f22 fun e w' => e = .returned (.tuple #[.int .i64 F.1, .int .i64 F.2.1, .int .i64 F.2.2]) ∧ Below w.heap.size w w') ⟨#[.string ⟨t.toArray⟩, v1, v2, v3, v4, .pointer (some ⟨w.heap.size, 0, none⟩), .int .i64 (pWd t), .pointer (some ⟨cb, 0, none⟩), .int .i64 sv, v9, .int .i64 (r1 t).p, .int .i64 (r5 t).p, .int .i64 (r7 t).p, .int .i64 (r9 t).p, .int .i64 sa, .int .i64 (pOff t), v16, v17, v18, v19, v20, v21, v22, v23, v24, v25, v26, v27, v28, v29, v30, v31, v32, v33, v34, v35, v36, v37, v38, v39, v40, v41, v42, v43, v44, v45, v46, v47, v48, v49, v50, v51, v52, v53, v54, v55, v56, v57, v58, v59, v60, v61, v62, v63, v64, v65, v66, v67, v68, v69, v70, v71, v72, v73, v74, v75, v76, v77, v78, v79, v80, v81, v82, v83, v84, v85, v86, v87, v88, v89, v90, v91, v92, v93, v94, v95, v96, v97, v98, v99, v100, v101, v102, v103, v104, v105, v106, v107, v108, v109, v110, v111, v112, v113, v114, v115, v116, v117, v118, v119, v120, v121, v122, v123, v124, v125, v126, v127, v128, v129, v130, v131, v132, v133, v134, v135, v136, v137, v138, v139, v140, v141, v142, v143, v144, v145, v146, v147, v148, v149, v150, v151, v152, v153, v154, v155, v156, v157, v158, v159, v160, v161, v162, v163, v164, v165, v166, v167, v168, v169, v170, v171, v172, v173, v174, v175, v176, v177, v178, v179, v180, v181, v182, v183, v184, v185, v186, v187, v188, v189, v190, v191, v192, v193, v194, v195, v196, v197, v198, v199, v200, v201, v202, v203, v204, v205, v206, v207, v208, v209, v210, v211, v212, v213, v214, v215, v216, v217, v218, v219, v220, v221, v222, v223, v224, v225, v226, v227, v228, v229, v230, v231, v232, v233, v234, v235, v236, v237, v238, v239, v240, v241, v242, v243, v244, v245, v246, v247, v248, v249, v250, v251, v252, v253, v254, v255, v256, v257, v258, v259, v260, v261, v262, v263, v264, v265, v266, v267, v268, v269, v270, v271, v272, v273, v274, v275, v276, v277, v278, v279, v280, v281, v282, v283, v284, v285, v286, v287, v288], []⟩ wx := by
  refine Flow.wp_rest rfl ?_
  have hl2 : t.length ≤ 1000 := by omega
  have hl3 : (t.length : Int) ≤ 64 := by omega
  have H3 := Lib.hid hx; clear hx
  have HR := Lib.hid hr; clear hr
  have HD := Lib.hid hd; clear hd
  obtain ⟨P5, hP5⟩ : ∃ q, (r5 t).p = q := ⟨_, rfl⟩
  rw [hP5]
  have HP5 := Lib.hid hP5; clear hP5
  dsimp only
  go_upto_region 42 with fail
  go_cut [] (fun wz => PC w t wz (chainY ⟨DP, 0⟩ y P5) cb y m d h n)
  case first =>
    have c0 := H3.out.P.c0
    have c1 : wx.cell? ⟨w.heap.size, 1, none⟩ = some (.int .i64 DP) := H3.out.P.c1
    have c2 : wx.cell? ⟨w.heap.size, 2, none⟩ = some (.int .i64 0) := H3.out.P.c2
    have k0 : wx.cell? ⟨cb, 0, none⟩ = some (.int .i64 y) := H3.out.k 0
    by_cases a : 2000 ≤ y
    · by_cases b : y ≤ 2199
      · have hS : Hid (chainY ⟨DP, 0⟩ y P5 = ⟨DP, 0⟩) := by show _ = _; unfold chainY chk yOk; rw [if_pos (by simpa using ⟨a, b⟩)]
        go_wp2_with fail
        refine (refCheck_any _ ⟨DP, 0⟩ true P5 2 _).mono ?_; rintro e wa ⟨rfl, ba⟩
        simp only [if_true]
        have HA := Lib.hid (H3.out.below ba)
        clear ba H3 c0 c1 c2 k0
        have c0 := HA.out.P.c0
        have c1 : wa.cell? ⟨w.heap.size, 1, none⟩ = some (.int .i64 DP) := HA.out.P.c1
        have c2 : wa.cell? ⟨w.heap.size, 2, none⟩ = some (.int .i64 0) := HA.out.P.c2
        have f0 := HA.out.P.f 0
        have f1 := HA.out.P.f 1
        have f2 := HA.out.P.f 2
        go_wp2_with fail
        go_meet
        rw [hS.out]
        exact HA.out.text ⟨DP, 0⟩
      · have hS : Hid (chainY ⟨DP, 0⟩ y P5 = ⟨P5, 2⟩) := by show _ = _; unfold chainY chk yOk; rw [if_neg (by simp; omega)]; rfl
        have b' : decide (y ≤ 2199) = false := by simp; omega
        have a' : decide (2000 ≤ y) = true := by simp; omega
        clear b
        go_wp2_with fail
        refine (refCheck_any _ ⟨DP, 0⟩ false P5 2 _).mono ?_; rintro e wa ⟨rfl, ba⟩
        simp only [Bool.false_eq_true, if_false, failAt_zero]
        have HA := Lib.hid (H3.out.below ba)
        clear ba H3 c0 c1 c2 k0
        have c0 := HA.out.P.c0
        have c1 : wa.cell? ⟨w.heap.size, 1, none⟩ = some (.int .i64 DP) := HA.out.P.c1
        have c2 : wa.cell? ⟨w.heap.size, 2, none⟩ = some (.int .i64 0) := HA.out.P.c2
        have f0 := HA.out.P.f 0
        have f1 := HA.out.P.f 1
        have f2 := HA.out.P.f 2
        go_wp2_with fail
        go_meet
        rw [hS.out]
        exact HA.out.text ⟨P5, 2⟩
    · have hS : Hid (chainY ⟨DP, 0⟩ y P5 = ⟨P5, 2⟩) := by show _ = _; unfold chainY chk yOk; rw [if_neg (by simp; omega)]; rfl
      have a' : decide (2000 ≤ y) = false := by simp; omega
      clear a
      go_wp2_with fail
      refine (refCheck_any _ ⟨DP, 0⟩ false P5 2 _).mono ?_; rintro e wa ⟨rfl, ba⟩
      simp only [Bool.false_eq_true, if_false, failAt_zero]
      have HA := Lib.hid (H3.out.below ba)
      clear ba H3 c0 c1 c2 k0
      have c0 := HA.out.P.c0
      have c1 : wa.cell? ⟨w.heap.size, 1, none⟩ = some (.int .i64 DP) := HA.out.P.c1
      have c2 : wa.cell? ⟨w.heap.size, 2, none⟩ = some (.int .i64 0) := HA.out.P.c2
      have f0 := HA.out.P.f 0
      have f1 := HA.out.P.f 1
      have f2 := HA.out.P.f 2
      go_wp2_with fail
      go_meet
      rw [hS.out]
      exact HA.out.text ⟨P5, 2⟩
  have hP5 := HP5.out
  subst hP5
  clear H3
  apply_assumption
  exact Flow.wp_of_rest (n := 30) (f := Tryd.f22) rfl (refTail30 t w _ F cb y m d h n sv sa DP hl HF hcut HR.out HD.out y0 y1 m0 m1 d0 d1 h0 h1 n0 n1 s0 s1 hsa)


set_option maxRecDepth 100000 in
set_option maxHeartbeats 8000000 in
theorem refTail28a {v1 v2 v3 v4 v9 v16 v17 v18 v19 v20 v21 v22 v23 v24 v25 v26 v27 v28 v29 v30 v31 v32 v33 v34 v35 v36 v37 v38 v39 v40 v41 v42 v43 v44 v45 v46 v47 v48 v49 v50 v51 v52 v53 v54 v55 v56 v57 v58 v59 v60 v61 v62 v63 v64 v65 v66 v67 v68 v69 v70 v71 v72 v73 v74 v75 v76 v77 v78 v79 v80 v81 v82 v83 v84 v85 v86 v87 v88 v89 v90 v91 v92 v93 v94 v95 v96 v97 v98 v99 v100 v101 v102 v103 v104 v105 v106 v107 v108 v109 v110 v111 v112 v113 v114 v115 v116 v117 v118 v119 v120 v121 v122 v123 v124 v125 v126 v127 v128 v129 v130 v131 v132 v133 v134 v135 v136 v137 v138 v139 v140 v141 v142 v143 v144 v145 v146 v147 v148 v149 v150 v151 v152 v153 v154 v155 v156 v157 v158 v159 v160 v161 v162 v163 v164 v165 v166 v167 v168 v169 v170 v171 v172 v173 v174 v175 v176 v177 v178 v179 v180 v181 v182 v183 v184 v185 v186 v187 v188 v189 v190 v191 v192 v193 v194 v195 v196 v197 v198 v199 v200 v201 v202 v203 v204 v205 v206 v207 v208 v209 v210 v211 v212 v213 v214 v215 v216 v217 v218 v219 v220 v221 v222 v223 v224 v225 v226 v227 v228 v229 v230 v231 v232 v233 v234 v235 v236 v237 v238 v239 v240 v241 v242 v243 v244 v245 v246 v247 v248 v249 v250 v251 v252 v253 v254 v255 v256 v257 v258 v259 v260 v261 v262 v263 v264 v265 v266 v267 v268 v269 v270 v271 v272 v273 v274 v275 v276 v277 v278 v279 v280 v281 v282 v283 v284 v285 v286 v287 v288 : Value} (t : List UInt8) (w wx : World) (F : Int × Int × Int) (cb : Nat) (y m d h n : Int) (sv : Int) (sa : Nat) (DP DE : Nat) (hl : t.length ≤ 64) (HF : Hid (parseF t = F)) (hx : PC w t wx ⟨DP, DE⟩ cb y m d h n) (hr : r13 t = ⟨DP, DE⟩) (z : DE ≠ 0) :
    Code.wp Tryd.prog (Flow.rest 28 Tryd.f22) (bodyPost Tryd.prog Tryd.f22 fun e w' => e = .returned (.tuple #[.int .i64 F.1, .int .i64 F.2.1, .int .i64 F.2.2]) ∧ Below w.heap.size w w') ⟨#[.string ⟨t.toArray⟩, v1, v2, v3, v4, .pointer (some ⟨w.heap.size, 0, none⟩), .int .i64 (pWd t), .pointer (some ⟨cb, 0, none⟩), .int .i64 sv, v9, .int .i64 (r1 t).p, .int .i64 (r5 t).p, .int .i64 (r7 t).p, .int .i64 (r9 t).p, .int .i64 sa, .int .i64 (pOff t), v16, v17, v18, v19, v20, v21, v22, v23, v24, v25, v26, v27, v28, v29, v30, v31, v32, v33, v34, v35, v36, v37, v38, v39, v40, v41, v42, v43, v44, v45, v46, v47, v48, v49, v50, v51, v52, v53, v54, v55, v56, v57, v58, v59, v60, v61, v62, v63, v64, v65, v66, v67, v68, v69, v70, v71, v72, v73, v74, v75, v76, v77, v78, v79, v80, v81, v82, v83, v84, v85, v86, v87, v88, v89, v90, v91, v92, v93, v94, v95, v96, v97, v98, v99, v100, v101, v102, v103, v104, v105, v106, v107, v108, v109, v110, v111, v112, v113, v114, v115, v116, v117, v118, v119, v120, v121, v122, v123, v124, v125, v126, v127, v128, v129, v130, v131, v132, v133, v134, v135, v136, v137, v138, v139, v140, v141, v142, v143, v144, v145, v146, v147, v148, v149, v150, v151, v152, v153, v154, v155, v156, v157, v158, v159, v160, v161, v162, v163, v164, v165, v166, v167, v168, v169, v170, v171, v172, v173, v174, v175, v176, v177, v178, v179, v180, v181, v182, v183, v184, v185, v186, v187, v188, v189, v190, v191, v192, v193, v194, v195, v196, v197, v198, v199, v200, v201, v202, v203, v204, v205, v206, v207, v208, v209, v210, v211, v212, v213, v214, v215, v216, v217, v218, v219, v220, v221, v222, v223, v224, v225, v226, v227, v228, v229, v230, v231, v232, v233, v234, v235, v236, v237, v238, v239, v240, v241, v242, v243, v244, v245, v246, v247, v248, v249, v250, v251, v252, v253, v254, v255, v256, v257, v258, v259, v260, v261, v262, v263, v264, v265, v266, v267, v268, v269, v270, v271, v272, v273, v274, v275, v276, v277, v278, v279, v280, v281, v282, v283, v284, v285, v286, v287, v288], []⟩ wx := by
  refine Flow.wp_rest rfl ?_
  have hl2 : t.length ≤ 1000 := by omega
  have hl3 : (t.length : Int) ≤ 64 := by omega
  have H3 := Lib.hid hx; clear hx
  have hF : F = (0, (DP : Int), (DE : Int)) := by
    have := HF.out
    rw [parseF_eq] at this
    rw [← this, hr]
    unfold parseG
    rw [if_neg (by omega), if_pos z]
  subst hF
  clear HF hr
  have hlf : ((DE : Int) == 0) = false := by simp; omega
  clear z
  have c1 : wx.cell? ⟨w.heap.size, 1, none⟩ = some (.int .i64 DP) := H3.out.P.c1
  have c2 : wx.cell? ⟨w.heap.size, 2, none⟩ = some (.int .i64 DE) := H3.out.P.c2
  go_wp2_with fail
  go_quiet (fail)
  go_wp2_with fail
  go_ret3
  exact ⟨rfl, Below.drewN _ H3.out.P.B⟩


set_option maxRecDepth 100000 in
set_option maxHeartbeats 8000000 in
theorem refTail28b {v1 v2 v3 v4 v9 v16 v17 v18 v19 v20 v21 v22 v23 v24 v25 v26 v27 v28 v29 v30 v31 v32 v33 v34 v35 v36 v37 v38 v39 v40 v41 v42 v43 v44 v45 v46 v47 v48 v49 v50 v51 v52 v53 v54 v55 v56 v57 v58 v59 v60 v61 v62 v63 v64 v65 v66 v67 v68 v69 v70 v71 v72 v73 v74 v75 v76 v77 v78 v79 v80 v81 v82 v83 v84 v85 v86 v87 v88 v89 v90 v91 v92 v93 v94 v95 v96 v97 v98 v99 v100 v101 v102 v103 v104 v105 v106 v107 v108 v109 v110 v111 v112 v113 v114 v115 v116 v117 v118 v119 v120 v121 v122 v123 v124 v125 v126 v127 v128 v129 v130 v131 v132 v133 v134 v135 v136 v137 v138 v139 v140 v141 v142 v143 v144 v145 v146 v147 v148 v149 v150 v151 v152 v153 v154 v155 v156 v157 v158 v159 v160 v161 v162 v163 v164 v165 v166 v167 v168 v169 v170 v171 v172 v173 v174 v175 v176 v177 v178 v179 v180 v181 v182 v183 v184 v185 v186 v187 v188 v189 v190 v191 v192 v193 v194 v195 v196 v197 v198 v199 v200 v201 v202 v203 v204 v205 v206 v207 v208 v209 v210 v211 v212 v213 v214 v215 v216 v217 v218 v219 v220 v221 v222 v223 v224 v225 v226 v227 v228 v229 v230 v231 v232 v233 v234 v235 v236 v237 v238 v239 v240 v241 v242 v243 v244 v245 v246 v247 v248 v249 v250 v251 v252 v253 v254 v255 v256 v257 v258 v259 v260 v261 v262 v263 v264 v265 v266 v267 v268 v269 v270 v271 v272 v273 v274 v275 v276 v277 v278 v279 v280 v281 v282 v283 v284 v285 v286 v287 v288 : Value} (t : List UInt8) (w wx : World) (F : Int × Int × Int) (cb : Nat) (y m d h n : Int) (sv : Int) (sa : Nat) (DP : Nat) (hl : t.length ≤ 64) (HF : Hid (parseF t = F)) (hx : PC w t wx ⟨DP, 0⟩ cb y m d h n) (hr : r13 t = ⟨DP, 0⟩) (hd : (y = pYear t ∧ m = pMon t ∧ d = pDay t ∧ h = pHour t ∧ n = pMin t) ∧ sv = pSec t) (y0 : 0 ≤ y) (y1 : y ≤ 9999) (m0 : 1 ≤ m) (m1 : m ≤ 12) (d0 : 0 ≤ d) (d1 : d ≤ 99999) (h0 : 0 ≤ h) (h1 : h ≤ 9999) (n0 : 0 ≤ n) (n1 : n ≤ 9999) (s0 : 0 ≤ sv) (s1 : sv ≤ 9999) (hsa : 60 < sv → (sa : Int) = pSecAt t) :
    Code.wp Tryd.prog (Flow.rest 28 Tryd.f22) (bodyPost Tryd.prog Tryd.f22 fun e w' => e = .returned (.tuple #[.int .i64 F.1, .int .i64 F.2.1, .int .i64 F.2.2]) ∧ Below w.heap.size w w') ⟨#[.string ⟨t.toArray⟩, v1, v2, v3, v4, .pointer (some ⟨w.heap.size, 0, none⟩), .int .i64 (pWd t), .pointer (some ⟨cb, 0, none⟩), .int .i64 sv, v9, .int .i64 (r1 t).p, .int .i64 (r5 t).p, .int .i64 (r7 t).p, .int .i64 (r9 t).p, .int .i64 sa, .int .i64 (pOff t), v16, v17, v18, v19, v20, v21, v22, v23, v24, v25, v26, v27, v28, v29, v30, v31, v32, v33, v34, v35, v36, v37, v38, v39, v40, v41, v42, v43, v44, v45, v46, v47, v48, v49, v50, v51, v52, v53, v54, v55, v56, v57, v58, v59, v60, v61, v62, v63, v64, v65, v66, v67, v68, v69, v70, v71, v72, v73, v74, v75, v76, v77, v78, v79, v80, v81, v82, v83, v84, v85, v86, v87, v88, v89, v90, v91, v92, v93, v94, v95, v96, v97, v98, v99, v100, v101, v102, v103, v104, v105, v106, v107, v108, v109, v110, v111, v112, v113, v114, v115, v116, v117, v118, v119, v120, v121, v122, v123, v124, v125, v126, v127, v128, v129, v130, v131, v132, v133, v134, v135, v136, v137, v138, v139, v140, v141, v142, v143, v144, v145, v146, v147, v148, v149, v150, v151, v152, v153, v154, v155, v156, v157, v158, v159, v160, v161, v162, v163, v164, v165, v166, v167, v168, v169, v170, v171, v172, v173, v174, v175, v176, v177, v178, v179, v180, v181, v182, v183, v184, v185, v186, v187, v188, v189, v190, v191, v192, v193, v194, v195, v196, v197, v198, v199, v200, v201, v202, v203, v204, v205, v206, v207, v208, v209, v210, v211, v212, v213, v214, v215, v216, v217, v218, v219, v220, v221, v222, v223, v224, v225, v226, v227, v228, v229, v230, v231, v232, v233, v234, v235, v236, v237, v238, v239, v240, v241, v242, v243, v244, v245, v246, v247, v248, v249, v250, v251, v252, v253, v254, v255, v256, v257, v258, v259, v260, v261, v262, v263, v264, v265, v266, v267, v268, v269, v270, v271, v272, v273, v274, v275, v276, v277, v278, v279, v280, v281, v282, v283, v284, v285, v286, v287, v288], []⟩ wx := by
  refine Flow.wp_rest rfl ?_
  have hl2 : t.length ≤ 1000 := by omega
  have hl3 : (t.length : Int) ≤ 64 := by omega
  have H3 := Lib.hid hx; clear hx
  dsimp only
  have c2 : wx.cell? ⟨w.heap.size, 2, none⟩ = some (.int .i64 0) := H3.out.P.c2
  go_upto_if 209 with fail
  go_cut [] (fun wz => wz = wx)
  case first =>
    go_wp2_with fail
    go_meet
    rfl
  rw [hcut]
  clear hcut c2
  apply_assumption
  exact Flow.wp_of_rest (n := 29) (f := Tryd.f22) rfl (refTail29 t w _ F cb y m d h n sv sa DP hl HF H3.out hr hd y0 y1 m0 m1 d0 d1 h0 h1 n0 n1 s0 s1 hsa)


theorem refTail28 {v1 v2 v3 v4 v9 v16 v17 v18 v19 v20 v21 v22 v23 v24 v25 v26 v27 v28 v29 v30 v31 v32 v33 v34 v35 v36 v37 v38 v39 v40 v41 v42 v43 v44 v45 v46 v47 v48 v49 v50 v51 v52 v53 v54 v55 v56 v57 v58 v59 v60 v61 v62 v63 v64 v65 v66 v67 v68 v69 v70 v71 v72 v73 v74 v75 v76 v77 v78 v79 v80 v81 v82 v83 v84 v85 v86 v87 v88 v89 v90 v91 v92 v93 v94 v95 v96 v97 v98 v99 v100 v101 v102 v103 v104 v105 v106 v107 v108 v109 v110 v111 v112 v113 v114 v115 v116 v117 v118 v119 v120 v121 v122 v123 v124 v125 v126 v127 v128 v129 v130 v131 v132 v133 v134 v135 v136 v137 v138 v139 v140 v141 v142 v143 v144 v145 v146 v147 v148 v149 v150 v151 v152 v153 v154 v155 v156 v157 v158 v159 v160 v161 v162 v163 v164 v165 v166 v167 v168 v169 v170 v171 v172 v173 v174 v175 v176 v177 v178 v179 v180 v181 v182 v183 v184 v185 v186 v187 v188 v189 v190 v191 v192 v193 v194 v195 v196 v197 v198 v199 v200 v201 v202 v203 v204 v205 v206 v207 v208 v209 v210 v211 v212 v213 v214 v215 v216 v217 v218 v219 v220 v221 v222 v223 v224 v225 v226 v227 v228 v229 v230 v231 v232 v233 v234 v235 v236 v237 v238 v239 v240 v241 v242 v243 v244 v245 v246 v247 v248 v249 v250 v251 v252 v253 v254 v255 v256 v257 v258 v259 v260 v261 v262 v263 v264 v265 v266 v267 v268 v269 v270 v271 v272 v273 v274 v275 v276 v277 v278 v279 v280 v281 v282 v283 v284 v285 v286 v287 v288 : Value} (t : List UInt8) (w wx : World) (F : Int × Int × Int) (cb : Nat) (y m d h n : Int) (sv : Int) (sa : Nat) (hl : t.length ≤ 64) (HF : Hid (parseF t = F)) (hx : PC w t wx (r13 t) cb y m d h n) (hd : (r13 t).e = 0 → (y = pYear t ∧ m = pMon t ∧ d = pDay t ∧ h = pHour t ∧ n = pMin t) ∧ sv = pSec t) (y0 : 0 ≤ y) (y1 : y ≤ 9999) (m0 : 1 ≤ m) (m1 : m ≤ 12) (d0 : 0 ≤ d) (d1 : d ≤ 99999) (h0 : 0 ≤ h) (h1 : h ≤ 9999) (n0 : 0 ≤ n) (n1 : n ≤ 9999) (s0 : 0 ≤ sv) (s1 : sv ≤ 9999) (hsa : 60 < sv → (sa : Int) = pSecAt t) :
    Code.wp Tryd.prog (Flow.rest 28 Tryd.f22) (bodyPost Tryd.prog Tryd.f22 fun e w' => e = .returned (.tuple #[.int .i64 F.1, .int .i64 F.2.1, .int .i64 F.2.2]) ∧ Below w.heap.size w w') ⟨#[.string ⟨t.toArray⟩, v1, v2, v3, v4, .pointer (some ⟨w.heap.size, 0, none⟩), .int .i64 (pWd t), .pointer (some ⟨cb, 0, none⟩), .int .i64 sv, v9, .int .i64 (r1 t).p, .int .i64 (r5 t).p, .int .i64 (r7 t).p, .int .i64 (r9 t).p, .int .i64 sa, .int .i64 (pOff t), v16, v17, v18, v19, v20, v21, v22, v23, v24, v25, v26, v27, v28, v29, v30, v31, v32, v33, v34, v35, v36, v37, v38, v39, v40, v41, v42, v43, v44, v45, v46, v47, v48, v49, v50, v51, v52, v53, v54, v55, v56, v57, v58, v59, v60, v61, v62, v63, v64, v65, v66, v67, v68, v69, v70, v71, v72, v73, v74, v75, v76, v77, v78, v79, v80, v81, v82, v83, v84, v85, v86, v87, v88, v89, v90, v91, v92, v93, v94, v95, v96, v97, v98, v99, v100, v101, v102, v103, v104, v105, v106, v107, v108, v109, v110, v111, v112, v113, v114, v115, v116, v117, v118, v119, v120, v121, v122, v123, v124, v125, v126, v127, v128, v129, v130, v131, v132, v133, v134, v135, v136, v137, v138, v139, v140, v141, v142, v143, v144, v145, v146, v147, v148, v149, v150, v151, v152, v153, v154, v155, v156, v157, v158, v159, v160, v161, v162, v163, v164, v165, v166, v167, v168, v169, v170, v171, v172, v173, v174, v175, v176, v177, v178, v179, v180, v181, v182, v183, v184, v185, v186, v187, v188, v189, v190, v191, v192, v193, v194, v195, v196, v197, v198, v199, v200, v201, v202, v203, v204, v205, v206, v207, v208, v209, v210, v211, v212, v213, v214, v215, v216, v217, v218, v219, v220, v221, v222, v223, v224, v225, v226, v227, v228, v229, v230, v231, v232, v233, v234, v235, v236, v237, v238, v239, v240, v241, v242, v243, v244, v245, v246, v247, v248, v249, v250, v251, v252, v253, v254, v255, v256, v257, v258, v259, v260, v261, v262, v263, v264, v265, v266, v267, v268, v269, v270, v271, v272, v273, v274, v275, v276, v277, v278, v279, v280, v281, v282, v283, v284, v285, v286, v287, v288], []⟩ wx := by
  obtain ⟨S, hr⟩ : ∃ S, r13 t = S := ⟨_, rfl⟩
  rw [hr] at hx hd
  obtain ⟨DP, DE⟩ := S
  dsimp only at hd
  by_cases z : DE = 0
  · subst z
    exact refTail28b t w wx F cb y m d h n sv sa DP hl HF hx hr (hd rfl) y0 y1 m0 m1 d0 d1 h0 h1 n0 n1 s0 s1 hsa
  · exact refTail28a t w wx F cb y m d h n sv sa DP DE hl HF hx hr z

end Go.Proofs.YtpdncgfkoibacaaDoor

