/- Contract of Parse of the reference of package date, part 4 of 5: the rest of its body, statement by statement, from the end on. -/
import Derived.Test.YtpdncgfkoibacaaDoorRefChain
import Derived.Test.YtpdncgfkoibacaaDoorRead
import Derived.Test.YtpdncgfkoibacaaDoorRefFrom
import Derived.Test.YtpdncgfkoibacaaDoorTail
import Derived.Test.YtpdncgfkoibacaaDoorRest
import Derived.Deep.DeepCutAuto
import Derived.Test.YtpdncgfkoibacaaDoorRefP3
namespace Go.Proofs.YtpdncgfkoibacaaDoor
open Go.RowKit
open Cal


set_option maxRecDepth 100000 in
set_option maxHeartbeats 8000000 in
theorem refTail14 {v1 v2 v3 v4 v9 v11 v12 v13 v14 v15 v16 v17 v18 v19 v20 v21 v22 v23 v24 v25 v26 v27 v28 v29 v30 v31 v32 v33 v34 v35 v36 v37 v38 v39 v40 v41 v42 v43 v44 v45 v46 v47 v48 v49 v50 v51 v52 v53 v54 v55 v56 v57 v58 v59 v60 v61 v62 v63 v64 v65 v66 v67 v68 v69 v70 v71 v72 v73 v74 v75 v76 v77 v78 v79 v80 v81 v82 v83 v84 v85 v86 v87 v88 v89 v90 v91 v92 v93 v94 v95 v96 v97 v98 v99 v100 v101 v102 v103 v104 v105 v106 v107 v108 v109 v110 v111 v112 v113 v114 v115 v116 v117 v118 v119 v120 v121 v122 v123 v124 v125 v126 v127 v128 v129 v130 v131 v132 v133 v134 v135 v136 v137 v138 v139 v140 v141 v142 v143 v144 v145 v146 v147 v148 v149 v150 v151 v152 v153 v154 v155 v156 v157 v158 v159 v160 v161 v162 v163 v164 v165 v166 v167 v168 v169 v170 v171 v172 v173 v174 v175 v176 v177 v178 v179 v180 v181 v182 v183 v184 v185 v186 v187 v188 v189 v190 v191 v192 v193 v194 v195 v196 v197 v198 v199 v200 v201 v202 v203 v204 v205 v206 v207 v208 v209 v210 v211 v212 v213 v214 v215 v216 v217 v218 v219 v220 v221 v222 v223 v224 v225 v226 v227 v228 v229 v230 v231 v232 v233 v234 v235 v236 v237 v238 v239 v240 v241 v242 v243 v244 v245 v246 v247 v248 v249 v250 v251 v252 v253 v254 v255 v256 v257 v258 v259 v260 v261 v262 v263 v264 v265 v266 v267 v268 v269 v270 v271 v272 v273 v274 v275 v276 v277 v278 v279 v280 v281 v282 v283 v284 v285 v286 v287 v288 : Value} (t : List UInt8) (w wx : World) (F : Int × Int × Int) (cb : Nat) (m d : Int) (hl : t.length ≤ 64) (HF : Hid (parseF t = F)) (h5 : PC w t wx (r5 t) cb 0 m d 0 0) (hd : (r5 t).e = 0 → m = pMon t ∧ d = pDay t) (m0 : 1 ≤ m) (m1 : m ≤ 12) (d0 : 0 ≤ d) (d1 : d ≤ 99999) :
    Code.wp Tryd.prog (Flow.rest 14 Tryd.f22) (bodyPost Tryd.prog Tryd.f22 fun e w' => e = .returned (.tuple #[.int .i64 F.1, .int .i64 F.2.1, .int .i64 F.2.2]) ∧ Below w.heap.size w w') ⟨#[.string ⟨t.toArray⟩, v1, v2, v3, v4, .pointer (some ⟨w.heap.size, 0, none⟩), .int .i64 (pWd t), .pointer (some ⟨cb, 0, none⟩), .int .i64 0, v9, .int .i64 (r1 t).p, v11, v12, v13, v14, v15, v16, v17, v18, v19, v20, v21, v22, v23, v24, v25, v26, v27, v28, v29, v30, v31, v32, v33, v34, v35, v36, v37, v38, v39, v40, v41, v42, v43, v44, v45, v46, v47, v48, v49, v50, v51, v52, v53, v54, v55, v56, v57, v58, v59, v60, v61, v62, v63, v64, v65, v66, v67, v68, v69, v70, v71, v72, v73, v74, v75, v76, v77, v78, v79, v80, v81, v82, v83, v84, v85, v86, v87, v88, v89, v90, v91, v92, v93, v94, v95, v96, v97, v98, v99, v100, v101, v102, v103, v104, v105, v106, v107, v108, v109, v110, v111, v112, v113, v114, v115, v116, v117, v118, v119, v120, v121, v122, v123, v124, v125, v126, v127, v128, v129, v130, v131, v132, v133, v134, v135, v136, v137, v138, v139, v140, v141, v142, v143, v144, v145, v146, v147, v148, v149, v150, v151, v152, v153, v154, v155, v156, v157, v158, v159, v160, v161, v162, v163, v164, v165, v166, v167, v168, v169, v170, v171, v172, v173, v174, v175, v176, v177, v178, v179, v180, v181, v182, v183, v184, v185, v186, v187, v188, v189, v190, v191, v192, v193, v194, v195, v196, v197, v198, v199, v200, v201, v202, v203, v204, v205, v206, v207, v208, v209, v210, v211, v212, v213, v214, v215, v216, v217, v218, v219, v220, v221, v222, v223, v224, v225, v226, v227, v228, v229, v230, v231, v232, v233, v234, v235, v236, v237, v238, v239, v240, v241, v242, v243, v244, v245, v246, v247, v248, v249, v250, v251, v252, v253, v254, v255, v256, v257, v258, v259, v260, v261, v262, v263, v264, v265, v266, v267, v268, v269, v270, v271, v272, v273, v274, v275, v276, v277, v278, v279, v280, v281, v282, v283, v284, v285, v286, v287, v288], []⟩ wx := by
  refine Flow.wp_rest rfl ?_
  have hl2 : t.length ≤ 1000 := by omega
  have hl3 : (t.length : Int) ≤ 64 := by omega
  have H5 := Lib.hid h5; clear h5
  have HDc := Lib.hid hd; clear hd
  have p5 : Hid ((r5 t).p ≤ t.length) := r5_p
  have p6 : Hid ((r6 t).p ≤ t.length) := r6_p
  have p7 : Hid ((r7 t).p ≤ t.length) := r7_p
  have p8 : Hid ((r8 t).p ≤ t.length) := r8_p
  have p9 : Hid ((r9 t).p ≤ t.length) := r9_p
  have pn : Hid ((need t isBl (r6 t)).p ≤ t.length) := need_p r6_p
  have y1 := digE_bd t 4 (r5 t) (by decide)
  have h1 := digE_bd t 2 (r7 t) (by decide)
  have n1 := digE_bd t 2 (r9 t) (by decide)
  have HY6 : Hid ((r6 t).e = 0 → digE t 4 (r5 t) = pYear t) := fun he => digE_ok (by rw [num_r6]; exact he)
  have HY8 : Hid ((r8 t).e = 0 → digE t 2 (r7 t) = pHour t) := fun he => digE_ok (by rw [num_r8]; exact he)
  have HYx : Hid ((r10 t).e = 0 → digE t 2 (r9 t) = pMin t) := fun he => digE_ok (by rw [num_r10]; exact he)
  have K6 : Hid (∀ W : World, Calls Tryd.prog 49 #[.agg #[.string ⟨t.toArray⟩, .int .i64 (r5 t).p, .int .i64 (r5 t).e], .int .i64 4] W fun r w' => r = .returned (.tuple #[.agg #[.string ⟨t.toArray⟩, .int .i64 (r6 t).p, .int .i64 (r6 t).e], .int .i64 (digE t 4 (r5 t))]) ∧ Below W.heap.size W w') := fun W => by
    have := refNumber_any t (r5 t) 4 W hl2 p5.out (by decide) (by decide)
    rw [num_r6] at this; exact this
  have K8 : Hid (∀ W : World, Calls Tryd.prog 49 #[.agg #[.string ⟨t.toArray⟩, .int .i64 (r7 t).p, .int .i64 (r7 t).e], .int .i64 2] W fun r w' => r = .returned (.tuple #[.agg #[.string ⟨t.toArray⟩, .int .i64 (r8 t).p, .int .i64 (r8 t).e], .int .i64 (digE t 2 (r7 t))]) ∧ Below W.heap.size W w') := fun W => by
    have := refNumber_any t (r7 t) 2 W hl2 p7.out (by decide) (by decide)
    rw [num_r8] at this; exact this
  have Kx : Hid (∀ W : World, Calls Tryd.prog 49 #[.agg #[.string ⟨t.toArray⟩, .int .i64 (r9 t).p, .int .i64 (r9 t).e], .int .i64 2] W fun r w' => r = .returned (.tuple #[.agg #[.string ⟨t.toArray⟩, .int .i64 (r10 t).p, .int .i64 (r10 t).e], .int .i64 (digE t 2 (r9 t))]) ∧ Below W.heap.size W w') := fun W => by
    have := refNumber_any t (r9 t) 2 W hl2 p9.out (by decide) (by decide)
    rw [num_r10] at this; exact this
  generalize digE t 4 (r5 t) = Y at *
  generalize digE t 2 (r7 t) = Ho at *
  generalize digE t 2 (r9 t) = Mi at *
  obtain ⟨y1, y2⟩ := y1
  obtain ⟨h1, h2⟩ := h1
  obtain ⟨n1, n2⟩ := n1
  have ho : w.heap.size ≠ cb := by have := H5.out.o; omega
  have c0 := H5.out.P.c0
  have c1 := H5.out.P.c1
  have c2 := H5.out.P.c2
  go_wp2_with fail
  refine (K6.out _).mono ?_; rintro e wa ⟨rfl, ba⟩
  have HA := Lib.hid (H5.out.below ba)
  clear ba H5 c0 c1 c2 K6
  have c0 := HA.out.P.c0
  have c1 := HA.out.P.c1
  have c2 := HA.out.P.c2
  have f0 := HA.out.P.f 0
  have f1 := HA.out.P.f 1
  have f2 := HA.out.P.f 2
  have k0 := HA.out.k 0
  have g0 := HA.out.kf 0
  have H6 := Lib.hid ((HA.out.text (r6 t)).date 0 Y (y' := Y) (m' := m) (d' := d) (h' := 0) (n' := 0) rfl)
  go_upto_region 21 with fail
  clear c0 c1 c2 f0 f1 f2 k0 g0 HA
  generalize hW : World.setCell _ _ _ = w6 at *
  clear hW
  have c0 := H6.out.P.c0
  have c1 := H6.out.P.c1
  have c2 := H6.out.P.c2
  go_wp2_with fail
  refine (refNeed_bl t (r6 t) _ hl2 p6.out).mono ?_; rintro e wa ⟨rfl, ba⟩
  have HA := Lib.hid (H6.out.below ba)
  clear ba H6 c0 c1 c2
  go_wp2_with fail
  refine (refSkip_any t (need t isBl (r6 t)) _ hl2 pn.out).mono ?_; rintro e wb ⟨he, bb⟩
  obtain rfl : e = .returned (.agg #[.string ⟨t.toArray⟩, .int .i64 (r7 t).p, .int .i64 (r7 t).e]) := he
  have HB := Lib.hid (HA.out.below bb)
  clear bb HA
  have c0 := HB.out.P.c0
  have c1 := HB.out.P.c1
  have c2 := HB.out.P.c2
  have f0 := HB.out.P.f 0
  have f1 := HB.out.P.f 1
  have f2 := HB.out.P.f 2
  have H3 := Lib.hid (HB.out.text (r7 t))
  go_wp2_with fail
  clear HB c0 c1 c2 f0 f1 f2
  generalize hW : World.setCell _ _ _ = w3 at *
  clear hW
  have c0 := H3.out.P.c0
  have c1 := H3.out.P.c1
  have c2 := H3.out.P.c2
  go_wp2_with fail
  refine (K8.out _).mono ?_; rintro e wa ⟨rfl, ba⟩
  have HA := Lib.hid (H3.out.below ba)
  clear ba H3 c0 c1 c2 K8
  have c0 := HA.out.P.c0
  have c1 := HA.out.P.c1
  have c2 := HA.out.P.c2
  have f0 := HA.out.P.f 0
  have f1 := HA.out.P.f 1
  have f2 := HA.out.P.f 2
  have k3 := HA.out.k 3
  have g3 := HA.out.kf 3
  have H8 := Lib.hid ((HA.out.text (r8 t)).date 3 Ho (y' := Y) (m' := m) (d' := d) (h' := Ho) (n' := 0) rfl)
  go_upto_region 24 with fail
  clear c0 c1 c2 f0 f1 f2 k3 g3 HA
  generalize hW : World.setCell _ _ _ = w8 at *
  clear hW
  have c0 := H8.out.P.c0
  have c1 := H8.out.P.c1
  have c2 := H8.out.P.c2
  go_wp2_with fail
  refine (refNeed_ch 58 (.inr rfl) t (r8 t) _ hl2 p8.out).mono ?_; rintro e wb ⟨he, bb⟩
  obtain rfl : e = .returned (.agg #[.string ⟨t.toArray⟩, .int .i64 (r9 t).p, .int .i64 (r9 t).e]) := he
  have HB := Lib.hid (H8.out.below bb)
  clear bb H8 c0 c1 c2
  have c0 := HB.out.P.c0
  have c1 := HB.out.P.c1
  have c2 := HB.out.P.c2
  have f0 := HB.out.P.f 0
  have f1 := HB.out.P.f 1
  have f2 := HB.out.P.f 2
  have H9 := Lib.hid (HB.out.text (r9 t))
  go_upto_region 25 with fail
  clear c0 c1 c2 f0 f1 f2 HB
  generalize hW : World.setCell _ _ _ = w9 at *
  clear hW
  have c0 := H9.out.P.c0
  have c1 := H9.out.P.c1
  have c2 := H9.out.P.c2
  go_wp2_with fail
  refine (Kx.out _).mono ?_; rintro e wa ⟨rfl, ba⟩
  have HA := Lib.hid (H9.out.below ba)
  clear ba H9 c0 c1 c2 Kx
  have c0 := HA.out.P.c0
  have c1 := HA.out.P.c1
  have c2 := HA.out.P.c2
  have f0 := HA.out.P.f 0
  have f1 := HA.out.P.f 1
  have f2 := HA.out.P.f 2
  have k4 := HA.out.k 4
  have g4 := HA.out.kf 4
  have Hx := Lib.hid ((HA.out.text (r10 t)).date 4 Mi (y' := Y) (m' := m) (d' := d) (h' := Ho) (n' := Mi) rfl)
  go_upto_region 27 with fail
  clear c0 c1 c2 f0 f1 f2 k4 g4 HA
  generalize hW : World.setCell _ _ _ = w10 at *
  clear hW
  have c1 := Hx.out.P.c1
  go_cut [14] (fun s14 wz => s14 = .int .i64 (r10 t).p ∧ wz = w10)
  case first =>
    go_wp2_with fail
    go_meet
    exact ⟨rfl, rfl⟩
  obtain ⟨rfl, rfl⟩ := hcut
  clear c1
  apply_assumption
  exact Flow.wp_of_rest (n := 23) (f := Tryd.f22) rfl (refTail23 t w _ F cb Y m d Ho Mi hl HF Hx.out (fun he => ⟨HY6.out (blanks_e (numS_e (need_e (numS_e he)).2)), (HDc.out (numS_e (blanks_e (numS_e (need_e (numS_e he)).2)))).1, (HDc.out (numS_e (blanks_e (numS_e (need_e (numS_e he)).2)))).2, HY8.out (need_e (numS_e he)).2, HYx.out he⟩) y1 y2 m0 m1 d0 d1 h1 h2 n1 n2)


set_option maxRecDepth 100000 in
set_option maxHeartbeats 8000000 in
theorem refTail10 {v1 v2 v3 v4 v9 v11 v12 v13 v14 v15 v16 v17 v18 v19 v20 v21 v22 v23 v24 v25 v26 v27 v28 v29 v30 v31 v32 v33 v34 v35 v36 v37 v38 v39 v40 v41 v42 v43 v44 v45 v46 v47 v48 v49 v50 v51 v52 v53 v54 v55 v56 v57 v58 v59 v60 v61 v62 v63 v64 v65 v66 v67 v68 v69 v70 v71 v72 v73 v74 v75 v76 v77 v78 v79 v80 v81 v82 v83 v84 v85 v86 v87 v88 v89 v90 v91 v92 v93 v94 v95 v96 v97 v98 v99 v100 v101 v102 v103 v104 v105 v106 v107 v108 v109 v110 v111 v112 v113 v114 v115 v116 v117 v118 v119 v120 v121 v122 v123 v124 v125 v126 v127 v128 v129 v130 v131 v132 v133 v134 v135 v136 v137 v138 v139 v140 v141 v142 v143 v144 v145 v146 v147 v148 v149 v150 v151 v152 v153 v154 v155 v156 v157 v158 v159 v160 v161 v162 v163 v164 v165 v166 v167 v168 v169 v170 v171 v172 v173 v174 v175 v176 v177 v178 v179 v180 v181 v182 v183 v184 v185 v186 v187 v188 v189 v190 v191 v192 v193 v194 v195 v196 v197 v198 v199 v200 v201 v202 v203 v204 v205 v206 v207 v208 v209 v210 v211 v212 v213 v214 v215 v216 v217 v218 v219 v220 v221 v222 v223 v224 v225 v226 v227 v228 v229 v230 v231 v232 v233 v234 v235 v236 v237 v238 v239 v240 v241 v242 v243 v244 v245 v246 v247 v248 v249 v250 v251 v252 v253 v254 v255 v256 v257 v258 v259 v260 v261 v262 v263 v264 v265 v266 v267 v268 v269 v270 v271 v272 v273 v274 v275 v276 v277 v278 v279 v280 v281 v282 v283 v284 v285 v286 v287 v288 : Value} (t : List UInt8) (w wx : World) (F : Int × Int × Int) (cb : Nat) (d : Int) (hl : t.length ≤ 64) (HF : Hid (parseF t = F)) (h2 : PC w t wx (r2 t) cb 0 0 d 0 0) (hd : (r2 t).e = 0 → d = pDay t) (d0 : 0 ≤ d) (d1 : d ≤ 99999) :
    Code.wp Tryd.prog (Flow.rest 10 Tryd.f22) (bodyPost Tryd.prog Tryd.f22 fun e w' => e = .returned (.tuple #[.int .i64 F.1, .int .i64 F.2.1, .int .i64 F.2.2]) ∧ Below w.heap.size w w') ⟨#[.string ⟨t.toArray⟩, v1, v2, v3, v4, .pointer (some ⟨w.heap.size, 0, none⟩), .int .i64 (pWd t), .pointer (some ⟨cb, 0, none⟩), .int .i64 0, v9, .int .i64 (r1 t).p, v11, v12, v13, v14, v15, v16, v17, v18, v19, v20, v21, v22, v23, v24, v25, v26, v27, v28, v29, v30, v31, v32, v33, v34, v35, v36, v37, v38, v39, v40, v41, v42, v43, v44, v45, v46, v47, v48, v49, v50, v51, v52, v53, v54, v55, v56, v57, v58, v59, v60, v61, v62, v63, v64, v65, v66, v67, v68, v69, v70, v71, v72, v73, v74, v75, v76, v77, v78, v79, v80, v81, v82, v83, v84, v85, v86, v87, v88, v89, v90, v91, v92, v93, v94, v95, v96, v97, v98, v99, v100, v101, v102, v103, v104, v105, v106, v107, v108, v109, v110, v111, v112, v113, v114, v115, v116, v117, v118, v119, v120, v121, v122, v123, v124, v125, v126, v127, v128, v129, v130, v131, v132, v133, v134, v135, v136, v137, v138, v139, v140, v141, v142, v143, v144, v145, v146, v147, v148, v149, v150, v151, v152, v153, v154, v155, v156, v157, v158, v159, v160, v161, v162, v163, v164, v165, v166, v167, v168, v169, v170, v171, v172, v173, v174, v175, v176, v177, v178, v179, v180, v181, v182, v183, v184, v185, v186, v187, v188, v189, v190, v191, v192, v193, v194, v195, v196, v197, v198, v199, v200, v201, v202, v203, v204, v205, v206, v207, v208, v209, v210, v211, v212, v213, v214, v215, v216, v217, v218, v219, v220, v221, v222, v223, v224, v225, v226, v227, v228, v229, v230, v231, v232, v233, v234, v235, v236, v237, v238, v239, v240, v241, v242, v243, v244, v245, v246, v247, v248, v249, v250, v251, v252, v253, v254, v255, v256, v257, v258, v259, v260, v261, v262, v263, v264, v265, v266, v267, v268, v269, v270, v271, v272, v273, v274, v275, v276, v277, v278, v279, v280, v281, v282, v283, v284, v285, v286, v287, v288], []⟩ wx := by
  refine Flow.wp_rest rfl ?_
  have hl2 : t.length ≤ 1000 := by omega
  have hl3 : (t.length : Int) ≤ 64 := by omega
  have H2 := Lib.hid h2; clear h2
  have HDc : Hid ((r2 t).e = 0 → d = pDay t) := hd; clear hd
  have p2 : Hid ((r2 t).p ≤ t.length) := r2_p
  have p3 : Hid ((r3 t).p ≤ t.length) := r3_p
  have p4 : Hid ((r4 t).p ≤ t.length) := r4_p
  have pn : Hid ((need t isBl (r2 t)).p ≤ t.length) := need_p r2_p
  have pm : Hid ((need t isBl (r4 t)).p ≤ t.length) := need_p r4_p
  have nb := nameV_lt (t := t) (n := monTab) (s := r3 t) (by decide)
  have nb2 : nameV t monTab (r3 t) < 12 := nb
  clear nb
  have HM : Hid (pMon t = nameV t monTab (r3 t) + 1) := rfl
  obtain ⟨V, hV⟩ : ∃ V, nameV t monTab (r3 t) = V := ⟨_, rfl⟩
  rw [hV] at nb2 HM
  have HV := Lib.hid hV; clear hV
  have c0 := H2.out.P.c0
  have c1 := H2.out.P.c1
  have c2 := H2.out.P.c2
  go_wp2_with fail
  refine (refNeed_bl t (r2 t) _ hl2 p2.out).mono ?_; rintro e wa ⟨rfl, ba⟩
  have HA := Lib.hid (H2.out.below ba)
  clear ba H2 c0 c1 c2
  go_wp2_with fail
  refine (refSkip_any t (need t isBl (r2 t)) _ hl2 pn.out).mono ?_; rintro e wb ⟨he, bb⟩
  obtain rfl : e = .returned (.agg #[.string ⟨t.toArray⟩, .int .i64 (r3 t).p, .int .i64 (r3 t).e]) := he
  have HB := Lib.hid (HA.out.below bb)
  clear bb HA
  have c0 := HB.out.P.c0
  have c1 := HB.out.P.c1
  have c2 := HB.out.P.c2
  have f0 := HB.out.P.f 0
  have f1 := HB.out.P.f 1
  have f2 := HB.out.P.f 2
  have H3 := Lib.hid (HB.out.text (r3 t))
  go_wp2_with fail
  clear HB c0 c1 c2 f0 f1 f2
  generalize hW : World.setCell _ _ _ = w3 at *
  clear hW
  refine Flow.wp_region_pre Flow.Later Flow.Later.refl Flow.Later.trans [6] (.held [0] (.call 1 (.call 2 (.held [3, 4] (.pure [5] (.tail (.step [] 6 (.done [7])))))))) (by kernel_rfl) (by kernel_rfl) ?_
  have HD := Lib.hid (H3.out.drew)
  generalize hwd : World.drew _ = wd at *
  clear hwd
  have q0 : ∀ t1 : Flow.Cls (Flow.Later wd), t1.val.cell? ⟨w.heap.size, 0, none⟩ = some (.string ⟨t.toArray⟩) := Flow.cls_cell HD.out.P.c0
  have q1 : ∀ t1 : Flow.Cls (Flow.Later wd), t1.val.cell? ⟨w.heap.size, 1, none⟩ = some (.int .i64 (r3 t).p) := Flow.cls_cell HD.out.P.c1
  have q2 : ∀ t1 : Flow.Cls (Flow.Later wd), t1.val.cell? ⟨w.heap.size, 2, none⟩ = some (.int .i64 (r3 t).e) := Flow.cls_cell HD.out.P.c2
  haveI nonE := Flow.cls_nonempty wd
  rw [Flow.wpPre_held]
  simp only [Flow.pick, List.getElem?_toArray, List.getElem?_cons_zero]
  repeat go_big_quiet_step (fail)
  refine wpQuiet_nil ?_
  clear q0 q1 q2 nonE
  rw [Flow.wpPre_call, Flow.callAt_eq]
  simp only [List.getElem?_toArray, List.getElem?_cons_succ, List.getElem?_cons_zero]
  rw [if_pos (by rfl)]
  refine Flow.wp_behind (fun K hK => ?_)
  go_wp2_with fail
  refine (refMonthNames_any _).mono ?_; rintro e wn ⟨rfl, hwn⟩
  have NB : Hid (wn.heap[wd.heap.size]? = some (.cells #[.string ⟨#[74, 97, 110]⟩, .string ⟨#[70, 101, 98]⟩, .string ⟨#[77, 97, 114]⟩, .string ⟨#[65, 112, 114]⟩, .string ⟨#[77, 97, 121]⟩, .string ⟨#[74, 117, 110]⟩, .string ⟨#[74, 117, 108]⟩, .string ⟨#[65, 117, 103]⟩, .string ⟨#[83, 101, 112]⟩, .string ⟨#[79, 99, 116]⟩, .string ⟨#[78, 111, 118]⟩, .string ⟨#[68, 101, 99]⟩] 9 (0, 0))) := by rw [hwn]; exact blk_new _ _
  have bn : Below wd.heap.size wd wn := by rw [hwn]; exact (Below.refl _ _).alloc (Nat.le_refl _) _
  refine hK.out _ _ ⟨bn, ?_⟩
  have HN := Lib.hid (HD.out.below bn)
  clear hK K hwn bn HD
  rw [Flow.wpPre_call, Flow.callAt_eq]
  simp only [List.getElem?_toArray, List.getElem?_cons_succ, List.getElem?_cons_zero]
  rw [if_pos (by rfl)]
  refine Flow.wp_behind (fun K hK => ?_)
  go_wp2_with fail
  refine (refName_any monTab t (r3 t) wd.heap.size wn (by decide) mon_lens (refMon_cells NB.out) hl2 p3.out).mono ?_; rintro e wm ⟨he, bm⟩
  obtain rfl : e = .returned (.tuple #[.agg #[.string ⟨t.toArray⟩, .int .i64 (r4 t).p, .int .i64 (r4 t).e], .int .i64 (V : Nat)]) := by rw [he, HV.out]; rfl
  refine hK.out _ _ ⟨bm, ?_⟩
  have HM := Lib.hid (HN.out.below bm)
  clear hK K bm HN NB
  clear wn
  haveI nonE := Flow.cls_nonempty wm
  rw [Flow.wpPre_held]
  simp only [Flow.pick, List.getElem?_toArray, List.getElem?_cons_succ, List.getElem?_cons_zero]
  repeat go_big_quiet_step (fail)
  refine wpQuiet_nil ?_
  clear nonE
  haveI nonE := Flow.cls_nonempty_true
  rw [Flow.wpPre_pure]
  simp only [Flow.pick, List.getElem?_toArray, List.getElem?_cons_succ, List.getElem?_cons_zero]
  repeat go_big_quiet_step (fail)
  refine wpQuiet_nil ?_
  rw [Flow.wpPre_tail, Flow.wpSched_step]
  simp only [Flow.pick]
  refine wpQuiet_nil ?_
  rw [Flow.callAt_eq]
  simp only [List.getElem?_toArray, List.getElem?_cons_succ, List.getElem?_cons_zero]
  rw [if_pos (by rfl)]
  refine Flow.wp_behind (fun K hK => ?_)
  have c0 := HM.out.P.c0
  have c1 := HM.out.P.c1
  have c2 := HM.out.P.c2
  have f0 := HM.out.P.f 0
  have f1 := HM.out.P.f 1
  have f2 := HM.out.P.f 2
  go_wp2_with fail
  refine hK.out _ _ ⟨trivial, ?_⟩
  clear hK K
  rw [Flow.wpSched_done]
  simp only [Flow.pick, List.getElem?_toArray, List.getElem?_cons_succ, List.getElem?_cons_zero]
  repeat go_big_quiet_step (fail)
  refine wpQuiet_nil ?_
  clear nonE c0 c1 c2 f0 f1 f2
  have HZ := Lib.hid (HM.out.text (r4 t))
  clear HM
  have c0 := HZ.out.P.c0
  have c1 := HZ.out.P.c1
  have c2 := HZ.out.P.c2
  have k1 := HZ.out.k 1
  have g1 := HZ.out.kf 1
  have ho : w.heap.size ≠ cb := by have := HZ.out.o; omega
  have HY := Lib.hid (HZ.out.date 1 ((V : Int) + 1) (y' := 0) (m' := (V : Int) + 1) (d' := d) (h' := 0) (n' := 0) rfl)
  go_upto_region 18 with fail
  clear c0 c1 c2 k1 g1 HZ
  generalize hW : World.setCell _ _ _ = w5 at *
  clear hW
  go_cut [] (fun wz => PC w t wz (r5 t) cb 0 ((V : Int) + 1) d 0 0)
  case first =>
    have c0 := HY.out.P.c0
    have c1 := HY.out.P.c1
    have c2 := HY.out.P.c2
    go_wp2_with fail
    refine (refNeed_bl t (r4 t) _ hl2 p4.out).mono ?_; rintro e wa ⟨rfl, ba⟩
    have HA := Lib.hid (HY.out.below ba)
    clear ba HY c0 c1 c2
    go_wp2_with fail
    refine (refSkip_any t (need t isBl (r4 t)) _ hl2 pm.out).mono ?_; rintro e wb ⟨he, bb⟩
    obtain rfl : e = .returned (.agg #[.string ⟨t.toArray⟩, .int .i64 (r5 t).p, .int .i64 (r5 t).e]) := he
    have HB := Lib.hid (HA.out.below bb)
    clear bb HA
    have c0 := HB.out.P.c0
    have c1 := HB.out.P.c1
    have c2 := HB.out.P.c2
    have f0 := HB.out.P.f 0
    have f1 := HB.out.P.f 1
    have f2 := HB.out.P.f 2
    have H3 := Lib.hid (HB.out.text (r5 t))
    go_wp2_with fail
    clear HB c0 c1 c2 f0 f1 f2
    go_meet
    exact H3.out
  clear HY
  have H3 := Lib.hid hcut; clear hcut
  apply_assumption
  exact Flow.wp_of_rest (n := 14) (f := Tryd.f22) rfl (refTail14 t w _ F cb ((V : Int) + 1) d hl HF H3.out (fun he => ⟨by rw [HM.out], HDc.out (blanks_e (nameS_e (blanks_e he)))⟩) (by omega) (by omega) d0 d1)


set_option maxRecDepth 100000 in
set_option maxHeartbeats 8000000 in
theorem refTail5 {v1 v2 v3 v4 v7 v8 v9 v10 v11 v12 v13 v14 v15 v16 v17 v18 v19 v20 v21 v22 v23 v24 v25 v26 v27 v28 v29 v30 v31 v32 v33 v34 v35 v36 v37 v38 v39 v40 v41 v42 v43 v44 v45 v46 v47 v48 v49 v50 v51 v52 v53 v54 v55 v56 v57 v58 v59 v60 v61 v62 v63 v64 v65 v66 v67 v68 v69 v70 v71 v72 v73 v74 v75 v76 v77 v78 v79 v80 v81 v82 v83 v84 v85 v86 v87 v88 v89 v90 v91 v92 v93 v94 v95 v96 v97 v98 v99 v100 v101 v102 v103 v104 v105 v106 v107 v108 v109 v110 v111 v112 v113 v114 v115 v116 v117 v118 v119 v120 v121 v122 v123 v124 v125 v126 v127 v128 v129 v130 v131 v132 v133 v134 v135 v136 v137 v138 v139 v140 v141 v142 v143 v144 v145 v146 v147 v148 v149 v150 v151 v152 v153 v154 v155 v156 v157 v158 v159 v160 v161 v162 v163 v164 v165 v166 v167 v168 v169 v170 v171 v172 v173 v174 v175 v176 v177 v178 v179 v180 v181 v182 v183 v184 v185 v186 v187 v188 v189 v190 v191 v192 v193 v194 v195 v196 v197 v198 v199 v200 v201 v202 v203 v204 v205 v206 v207 v208 v209 v210 v211 v212 v213 v214 v215 v216 v217 v218 v219 v220 v221 v222 v223 v224 v225 v226 v227 v228 v229 v230 v231 v232 v233 v234 v235 v236 v237 v238 v239 v240 v241 v242 v243 v244 v245 v246 v247 v248 v249 v250 v251 v252 v253 v254 v255 v256 v257 v258 v259 v260 v261 v262 v263 v264 v265 v266 v267 v268 v269 v270 v271 v272 v273 v274 v275 v276 v277 v278 v279 v280 v281 v282 v283 v284 v285 v286 v287 v288 : Value} (t : List UInt8) (w wx : World) (F : Int × Int × Int)  (hl : t.length ≤ 64) (HF : Hid (parseF t = F)) (h1 : PT w t wx (r1 t)) :
    Code.wp Tryd.prog (Flow.rest 5 Tryd.f22) (bodyPost Tryd.prog Tryd.f22 fun e w' => e = .returned (.tuple #[.int .i64 F.1, .int .i64 F.2.1, .int .i64 F.2.2]) ∧ Below w.heap.size w w') ⟨#[.string ⟨t.toArray⟩, v1, v2, v3, v4, .pointer (some ⟨w.heap.size, 0, none⟩), .int .i64 (pWd t), v7, v8, v9, v10, v11, v12, v13, v14, v15, v16, v17, v18, v19, v20, v21, v22, v23, v24, v25, v26, v27, v28, v29, v30, v31, v32, v33, v34, v35, v36, v37, v38, v39, v40, v41, v42, v43, v44, v45, v46, v47, v48, v49, v50, v51, v52, v53, v54, v55, v56, v57, v58, v59, v60, v61, v62, v63, v64, v65, v66, v67, v68, v69, v70, v71, v72, v73, v74, v75, v76, v77, v78, v79, v80, v81, v82, v83, v84, v85, v86, v87, v88, v89, v90, v91, v92, v93, v94, v95, v96, v97, v98, v99, v100, v101, v102, v103, v104, v105, v106, v107, v108, v109, v110, v111, v112, v113, v114, v115, v116, v117, v118, v119, v120, v121, v122, v123, v124, v125, v126, v127, v128, v129, v130, v131, v132, v133, v134, v135, v136, v137, v138, v139, v140, v141, v142, v143, v144, v145, v146, v147, v148, v149, v150, v151, v152, v153, v154, v155, v156, v157, v158, v159, v160, v161, v162, v163, v164, v165, v166, v167, v168, v169, v170, v171, v172, v173, v174, v175, v176, v177, v178, v179, v180, v181, v182, v183, v184, v185, v186, v187, v188, v189, v190, v191, v192, v193, v194, v195, v196, v197, v198, v199, v200, v201, v202, v203, v204, v205, v206, v207, v208, v209, v210, v211, v212, v213, v214, v215, v216, v217, v218, v219, v220, v221, v222, v223, v224, v225, v226, v227, v228, v229, v230, v231, v232, v233, v234, v235, v236, v237, v238, v239, v240, v241, v242, v243, v244, v245, v246, v247, v248, v249, v250, v251, v252, v253, v254, v255, v256, v257, v258, v259, v260, v261, v262, v263, v264, v265, v266, v267, v268, v269, v270, v271, v272, v273, v274, v275, v276, v277, v278, v279, v280, v281, v282, v283, v284, v285, v286, v287, v288], []⟩ wx := by
  refine Flow.wp_rest rfl ?_
  have hl2 : t.length ≤ 1000 := by omega
  have hl3 : (t.length : Int) ≤ 64 := by omega
  have H1 := Lib.hid h1; clear h1
  have p1 : Hid ((r1 t).p ≤ t.length) := r1_p
  have pd : Hid ((digS t 1 (r1 t)).p ≤ t.length) := digS_p r1_p 1
  have two : Hid (sees t isDig (digS t 1 (r1 t)) = true → r2 t = ⟨(digS t 1 (r1 t)).p + 1, 0⟩ ∧ (digS t 1 (r1 t)).e = 0 ∧ pDay t = digE t 1 (r1 t) * 10 + ((at0 t (digS t 1 (r1 t)).p).toNat - 48) ∧ (digS t 1 (r1 t)).p < t.length ∧ isDig (at0 t (digS t 1 (r1 t)).p) = true) := day_two
  have one : Hid (sees t isDig (digS t 1 (r1 t)) = false → r2 t = digS t 1 (r1 t) ∧ ((digS t 1 (r1 t)).e = 0 → pDay t = digE t 1 (r1 t))) := day_one
  have eb := digE_bd t 1 (r1 t) (by decide)
  have hcall : Hid (∀ W : World, Calls Tryd.prog 49 #[.agg #[.string ⟨t.toArray⟩, .int .i64 (r1 t).p, .int .i64 (r1 t).e], .int .i64 1] W fun r w' => r = .returned (.tuple #[.agg #[.string ⟨t.toArray⟩, .int .i64 (digS t 1 (r1 t)).p, .int .i64 (digS t 1 (r1 t)).e], .int .i64 (digE t 1 (r1 t))]) ∧ Below W.heap.size W w') := fun W => refNumber_any t (r1 t) 1 W hl2 p1.out (by decide) (by decide)
  generalize digS t 1 (r1 t) = D at *
  generalize digE t 1 (r1 t) = E at *
  obtain ⟨e0, e1⟩ := eb
  obtain ⟨cb, hcb⟩ : ∃ cb, wx.heap.size = cb := ⟨_, rfl⟩
  have H2 : Hid (PC w t (wx.alloc (.cells #[.int .i64 0, .int .i64 0, .int .i64 0, .int .i64 0, .int .i64 0] 28)) (r1 t) cb 0 0 0 0 0) := ⟨H1.out.below ((Below.refl _ _).alloc (Nat.le_refl _) _), by rw [← hcb]; exact blk_new _ _, by rw [← hcb]; exact blk_lt H1.out.T⟩
  have c0 := H1.out.c0
  have c1 := H1.out.c1
  have c2 := H1.out.c2
  have hw1 : w.heap.size < wx.heap.size := blk_lt H1.out.T
  have hw2 : w.heap.size ≠ wx.heap.size := by omega
  have HCB := Lib.hid hcb; clear hcb
  go_wp2_with fail
  refine (hcall.out _).mono ?_; rintro e wa ⟨rfl, ba⟩
  have HA := Lib.hid (H2.out.below ba)
  clear ba H1 H2 c0 c1 c2 hcall
  have c0 := HA.out.P.c0
  have c1 := HA.out.P.c1
  have c2 := HA.out.P.c2
  have f0 := HA.out.P.f 0
  have f1 := HA.out.P.f 1
  have f2 := HA.out.P.f 2
  have k2 : wa.cell? ⟨cb, 2, none⟩ = some (.int .i64 0) := HA.out.k 2
  have g2 := HA.out.kf 2
  have ho : w.heap.size ≠ cb := by have := HA.out.o; omega
  rw [HCB.out]
  clear HCB hw1 hw2
  have H3 := Lib.hid ((HA.out.text D).date 2 E (y' := 0) (m' := 0) (d' := E) (h' := 0) (n' := 0) rfl)
  clear HA
  go_upto_region 12 with fail
  clear c0 c1 c2 f0 f1 f2 k2 g2
  generalize hW3 : World.setCell _ _ _ = w3 at *
  clear hW3
  have c0 := H3.out.P.c0
  have c1 := H3.out.P.c1
  have c2 := H3.out.P.c2
  have f0 := H3.out.P.f 0
  have f1 := H3.out.P.f 1
  have f2 := H3.out.P.f 2
  go_cut [81] (fun s81 wz => s81 = .bool (sees t isDig D) ∧ wz = w3)
  case first =>
    obtain ⟨DP, DE⟩ := D
    by_cases z : DE = 0
    · subst z
      by_cases hlt : DP < t.length
      · have bg := bget (t := t) (p := DP) (show DP < t.toArray.size by simpa using hlt) hlt
        obtain ⟨c, hc⟩ : ∃ c, at0 t DP = c := ⟨_, rfl⟩
        rw [hc] at bg
        have hs : sees t isDig ⟨DP, 0⟩ = isDig c := by simp [sees, hlt, hc]
        have HS := Lib.hid hs
        clear hc hs two one pd H3
        go_wp2_with fail
        refine (refDigit_any c _).mono ?_; rintro e wq ⟨rfl, rfl⟩
        go_wp2_with fail
        go_meet
        exact ⟨by rw [HS.out], rfl⟩
      · have hs : sees t isDig ⟨DP, 0⟩ = false := by simp [sees, hlt]
        have HS := Lib.hid hs
        have hlf : decide (DP < t.length) = false := by simpa using hlt
        clear hs two one pd H3 hlt
        go_wp2_with fail
        go_meet
        exact ⟨by rw [HS.out], rfl⟩
    · have hs : sees t isDig ⟨DP, DE⟩ = false := by simp [sees, z]
      have HS := Lib.hid hs
      have hlf : ((DE : Int) == 0) = false := by simp; omega
      clear hs two one pd H3 z
      go_wp2_with fail
      go_meet
      exact ⟨by rw [HS.out], rfl⟩
  obtain ⟨rfl, rfl⟩ := hcut
  go_upto_if 81 with fail
  go_cut [] (fun wz => ∃ d, PC w t wz (r2 t) cb 0 0 d 0 0 ∧ ((r2 t).e = 0 → d = pDay t) ∧ 0 ≤ d ∧ d ≤ 99999)
  case first =>
    cases hs : sees t isDig D with
    | false =>
      have h2 := one.out hs
      have H2 := Lib.hid h2; clear h2 hs one two
      go_wp2_with fail
      go_meet
      exact ⟨E, by rw [H2.out.1]; exact H3.out, fun he => by rw [H2.out.1] at he; rw [H2.out.2 he], e0, by omega⟩
    | true =>
      obtain ⟨g1, g2, g3, g4, g5⟩ := two.out hs
      obtain ⟨DP, DE⟩ := D
      dsimp only at g1 g2 g3 g4 g5
      subst g2
      have bg := bget (t := t) (p := DP) (show DP < t.toArray.size by simpa using g4) g4
      obtain ⟨c, hc⟩ : ∃ c, at0 t DP = c := ⟨_, rfl⟩
      rw [hc] at bg g5 g3
      have hd : 48 ≤ c.toNat ∧ c.toNat ≤ 57 := by simpa [isDig] using g5
      obtain ⟨hd1, hd2⟩ := hd
      have hd3 : (48 : Int) ≤ (c.toNat : Int) := by omega
      have hd4 : (c.toNat : Int) ≤ 57 := by omega
      have hcb := c.toNat_lt
      have G1 := Lib.hid g1
      have G3 := Lib.hid g3
      clear g1 g3 g5 hc hs one two pd c0 c1 c2 f0 f1 f2
      go_wp2_with fail
      refine Flow.wp_region_pre Flow.Later Flow.Later.refl Flow.Later.trans [11] (.held [0, 1, 2, 3, 4, 5, 6, 7, 8, 9, 10] (.tail (.step [] 11 (.done [])))) (by kernel_rfl) (by kernel_rfl) ?_
      have HD := Lib.hid H3.out.drew
      generalize hwd : World.drew _ = wd at *
      clear hwd
      have q1 : ∀ t1 : Flow.Cls (Flow.Later wd), t1.val.cell? ⟨w.heap.size, 1, none⟩ = some (.int .i64 DP) := Flow.cls_cell HD.out.P.c1
      have q2 : ∀ t1 : Flow.Cls (Flow.Later wd), t1.val.cell? ⟨cb, 2, none⟩ = some (.int .i64 E) := Flow.cls_cell (HD.out.k 2)
      haveI nonE := Flow.cls_nonempty wd
      rw [Flow.wpPre_held]
      simp only [Flow.pick, List.getElem?_toArray, List.getElem?_cons_succ, List.getElem?_cons_zero]
      repeat go_big_quiet_step (fail)
      refine wpQuiet_nil ?_
      clear q1 q2 nonE
      rw [Flow.wpPre_tail, Flow.wpSched_step]
      simp only [Flow.pick]
      refine wpQuiet_nil ?_
      rw [Flow.callAt_eq]
      simp only [List.getElem?_toArray, List.getElem?_cons_succ, List.getElem?_cons_zero]
      rw [if_pos (by rfl)]
      refine Flow.wp_behind (fun K hK => ?_)
      have k2 : wd.cell? ⟨cb, 2, none⟩ = some (.int .i64 E) := HD.out.k 2
      have g2 := HD.out.kf 2
      go_wp2_with fail
      refine hK.out _ _ ⟨trivial, ?_⟩
      clear hK K
      rw [Flow.wpSched_done]
      simp only [Flow.pick]
      refine wpQuiet_nil ?_
      have HE := Lib.hid (HD.out.date 2 (E * 10 + ((c.toNat : Int) - 48)) (y' := 0) (m' := 0) (d' := E * 10 + ((c.toNat : Int) - 48)) (h' := 0) (n' := 0) rfl)
      clear k2 g2
      have c1 := HE.out.P.c1
      have f1 := HE.out.P.f 1
      go_wp2_with fail
      go_meet
      exact ⟨_, by rw [G1.out]; exact HE.out.place (DP + 1), fun _ => G3.out.symm, by omega, by omega⟩
  clear H3 one two pd c0 c1 c2 f0 f1 f2 e0 e1
  obtain ⟨d, h2, hd, d0, d1⟩ := hcut
  apply_assumption
  exact Flow.wp_of_rest (n := 10) (f := Tryd.f22) rfl (refTail10 t w _ F cb d hl HF h2 hd d0 d1)

end Go.Proofs.YtpdncgfkoibacaaDoor

