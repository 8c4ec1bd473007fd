/- Contract of Parse of the reference of package date, part 5 of 5: the rest of its body, statement by statement, from the end on. -/
import Derived.Test.YtpdncgfkoibacaaDoorRefChain
import Derived.Test.YtpdncgfkoibacaaDoorRead
import Derived.Test.YtpdncgfkoibacaaDoorRefFrom
import Derived.Test.YtpdncgfkoibacaaDoorTail
import Derived.Test.YtpdncgfkoibacaaDoorRest
import Derived.Deep.DeepCutAuto
import Derived.Test.YtpdncgfkoibacaaDoorCnd
import Derived.Test.YtpdncgfkoibacaaDoorRefP4
namespace Go.Proofs.YtpdncgfkoibacaaDoor
open Go.RowKit
open Cal


set_option maxRecDepth 100000 in
set_option maxHeartbeats 8000000 in
theorem refMid_false {v1 v2 v3 v4 v7 v8 v9 v10 v11 v12 v13 v14 v15 v16 v17 v18 v19 v20 v21 v22 v23 v24 v25 v26 v27 v28 v29 v30 v31 v32 v33 v34 v35 v36 v37 v38 v39 v40 v41 v42 v43 v44 v45 v46 v48 v49 v50 v51 v52 v53 v54 v55 v56 v57 v58 v59 v60 v61 v62 v63 v64 v65 v66 v67 v68 v69 v70 v71 v72 v73 v74 v75 v76 v77 v78 v79 v80 v81 v82 v83 v84 v85 v86 v87 v88 v89 v90 v91 v92 v93 v94 v95 v96 v97 v98 v99 v100 v101 v102 v103 v104 v105 v106 v107 v108 v109 v110 v111 v112 v113 v114 v115 v116 v117 v118 v119 v120 v121 v122 v123 v124 v125 v126 v127 v128 v129 v130 v131 v132 v133 v134 v135 v136 v137 v138 v139 v140 v141 v142 v143 v144 v145 v146 v147 v148 v149 v150 v151 v152 v153 v154 v155 v156 v157 v158 v159 v160 v161 v162 v163 v164 v165 v166 v167 v168 v169 v170 v171 v172 v173 v174 v175 v176 v177 v178 v179 v180 v181 v182 v183 v184 v185 v186 v187 v188 v189 v190 v191 v192 v193 v194 v195 v196 v197 v198 v199 v200 v201 v202 v203 v204 v205 v206 v207 v208 v209 v210 v211 v212 v213 v214 v215 v216 v217 v218 v219 v220 v221 v222 v223 v224 v225 v226 v227 v228 v229 v230 v231 v232 v233 v234 v235 v236 v237 v238 v239 v240 v241 v242 v243 v244 v245 v246 v247 v248 v249 v250 v251 v252 v253 v254 v255 v256 v257 v258 v259 v260 v261 v262 v263 v264 v265 v266 v267 v268 v269 v270 v271 v272 v273 v274 v275 v276 v277 v278 v279 v280 v281 v282 v283 v284 v285 v286 v287 v288 : Value} (t : List UInt8) (w : World) (F : Int × Int × Int) (hl : t.length ≤ 64) (HF : Hid (parseF t = F)) (hw : hasW t = false) (K2 : Act → World → Prop) (Q2 : Exit → Act → World → Prop) (HK : Hid (∀ a w', Code.wp Tryd.prog (Flow.rest 5 Tryd.f22) (bodyPost Tryd.prog Tryd.f22 fun e w' => e = .returned (.tuple #[.int .i64 F.1, .int .i64 F.2.1, .int .i64 F.2.2]) ∧ Below w.heap.size w w') a w' → K2 a w')) :
    Code.wp Tryd.prog (Flow.cnd 4 Tryd.f22) (Exit.then K2 Q2) ⟨#[.string ⟨t.toArray⟩, v1, v2, v3, v4, .pointer (some ⟨w.heap.size, 0, none⟩), .int .i64 (-1), v7, v8, v9, v10, v11, v12, v13, v14, v15, v16, v17, v18, v19, v20, v21, v22, v23, v24, v25, v26, v27, v28, v29, v30, v31, v32, v33, v34, v35, v36, v37, v38, v39, v40, v41, v42, v43, v44, v45, v46, .bool false, v48, v49, v50, v51, v52, v53, v54, v55, v56, v57, v58, v59, v60, v61, v62, v63, v64, v65, v66, v67, v68, v69, v70, v71, v72, v73, v74, v75, v76, v77, v78, v79, v80, v81, v82, v83, v84, v85, v86, v87, v88, v89, v90, v91, v92, v93, v94, v95, v96, v97, v98, v99, v100, v101, v102, v103, v104, v105, v106, v107, v108, v109, v110, v111, v112, v113, v114, v115, v116, v117, v118, v119, v120, v121, v122, v123, v124, v125, v126, v127, v128, v129, v130, v131, v132, v133, v134, v135, v136, v137, v138, v139, v140, v141, v142, v143, v144, v145, v146, v147, v148, v149, v150, v151, v152, v153, v154, v155, v156, v157, v158, v159, v160, v161, v162, v163, v164, v165, v166, v167, v168, v169, v170, v171, v172, v173, v174, v175, v176, v177, v178, v179, v180, v181, v182, v183, v184, v185, v186, v187, v188, v189, v190, v191, v192, v193, v194, v195, v196, v197, v198, v199, v200, v201, v202, v203, v204, v205, v206, v207, v208, v209, v210, v211, v212, v213, v214, v215, v216, v217, v218, v219, v220, v221, v222, v223, v224, v225, v226, v227, v228, v229, v230, v231, v232, v233, v234, v235, v236, v237, v238, v239, v240, v241, v242, v243, v244, v245, v246, v247, v248, v249, v250, v251, v252, v253, v254, v255, v256, v257, v258, v259, v260, v261, v262, v263, v264, v265, v266, v267, v268, v269, v270, v271, v272, v273, v274, v275, v276, v277, v278, v279, v280, v281, v282, v283, v284, v285, v286, v287, v288], []⟩ (w.alloc (.cells #[.string ⟨t.toArray⟩, .int .i64 0, .int .i64 0] 73)) := by
  refine Flow.wp_cnd rfl ?_
  have hl2 : t.length ≤ 1000 := by omega
  have hl3 : (t.length : Int) ≤ 64 := by omega
  dsimp only
  have h1 : r1 t = ⟨0, 0⟩ := by unfold r1; rw [hw, if_neg Bool.false_ne_true]; rfl
  have h2 : pWd t = -1 := by unfold pWd; rw [hw, if_neg Bool.false_ne_true]
  have H1 := Lib.hid h1; have H2 := Lib.hid h2
  clear h1 h2 hw
  go_wp2_with fail
  have e6 : Value.int .i64 (pWd t) = .int .i64 (-1) := by rw [H2.out]
  refine HK.out _ _ ?_
  rw [← e6]
  exact refTail5 t w _ F hl HF (by rw [H1.out]; exact ⟨blk_new _ _, (Below.refl _ _).alloc (Nat.le_refl _) _⟩)


set_option maxRecDepth 100000 in
set_option maxHeartbeats 8000000 in
theorem refMid_true {v1 v2 v3 v4 v7 v8 v9 v10 v11 v12 v13 v14 v15 v16 v17 v18 v19 v20 v21 v22 v23 v24 v25 v26 v27 v28 v29 v30 v31 v32 v33 v34 v35 v36 v37 v38 v39 v40 v41 v42 v43 v44 v45 v46 v48 v49 v50 v51 v52 v53 v54 v55 v56 v57 v58 v59 v60 v61 v62 v63 v64 v65 v66 v67 v68 v69 v70 v71 v72 v73 v74 v75 v76 v77 v78 v79 v80 v81 v82 v83 v84 v85 v86 v87 v88 v89 v90 v91 v92 v93 v94 v95 v96 v97 v98 v99 v100 v101 v102 v103 v104 v105 v106 v107 v108 v109 v110 v111 v112 v113 v114 v115 v116 v117 v118 v119 v120 v121 v122 v123 v124 v125 v126 v127 v128 v129 v130 v131 v132 v133 v134 v135 v136 v137 v138 v139 v140 v141 v142 v143 v144 v145 v146 v147 v148 v149 v150 v151 v152 v153 v154 v155 v156 v157 v158 v159 v160 v161 v162 v163 v164 v165 v166 v167 v168 v169 v170 v171 v172 v173 v174 v175 v176 v177 v178 v179 v180 v181 v182 v183 v184 v185 v186 v187 v188 v189 v190 v191 v192 v193 v194 v195 v196 v197 v198 v199 v200 v201 v202 v203 v204 v205 v206 v207 v208 v209 v210 v211 v212 v213 v214 v215 v216 v217 v218 v219 v220 v221 v222 v223 v224 v225 v226 v227 v228 v229 v230 v231 v232 v233 v234 v235 v236 v237 v238 v239 v240 v241 v242 v243 v244 v245 v246 v247 v248 v249 v250 v251 v252 v253 v254 v255 v256 v257 v258 v259 v260 v261 v262 v263 v264 v265 v266 v267 v268 v269 v270 v271 v272 v273 v274 v275 v276 v277 v278 v279 v280 v281 v282 v283 v284 v285 v286 v287 v288 : Value} (t : List UInt8) (w : World) (F : Int × Int × Int) (hl : t.length ≤ 64) (HF : Hid (parseF t = F)) (hw : hasW t = true) (K2 : Act → World → Prop) (Q2 : Exit → Act → World → Prop) (HK : Hid (∀ a w', Code.wp Tryd.prog (Flow.rest 5 Tryd.f22) (bodyPost Tryd.prog Tryd.f22 fun e w' => e = .returned (.tuple #[.int .i64 F.1, .int .i64 F.2.1, .int .i64 F.2.2]) ∧ Below w.heap.size w w') a w' → K2 a w')) :
    Code.wp Tryd.prog (Flow.cnd 4 Tryd.f22) (Exit.then K2 Q2) ⟨#[.string ⟨t.toArray⟩, v1, v2, v3, v4, .pointer (some ⟨w.heap.size, 0, none⟩), .int .i64 (-1), v7, v8, v9, v10, v11, v12, v13, v14, v15, v16, v17, v18, v19, v20, v21, v22, v23, v24, v25, v26, v27, v28, v29, v30, v31, v32, v33, v34, v35, v36, v37, v38, v39, v40, v41, v42, v43, v44, v45, v46, .bool true, v48, v49, v50, v51, v52, v53, v54, v55, v56, v57, v58, v59, v60, v61, v62, v63, v64, v65, v66, v67, v68, v69, v70, v71, v72, v73, v74, v75, v76, v77, v78, v79, v80, v81, v82, v83, v84, v85, v86, v87, v88, v89, v90, v91, v92, v93, v94, v95, v96, v97, v98, v99, v100, v101, v102, v103, v104, v105, v106, v107, v108, v109, v110, v111, v112, v113, v114, v115, v116, v117, v118, v119, v120, v121, v122, v123, v124, v125, v126, v127, v128, v129, v130, v131, v132, v133, v134, v135, v136, v137, v138, v139, v140, v141, v142, v143, v144, v145, v146, v147, v148, v149, v150, v151, v152, v153, v154, v155, v156, v157, v158, v159, v160, v161, v162, v163, v164, v165, v166, v167, v168, v169, v170, v171, v172, v173, v174, v175, v176, v177, v178, v179, v180, v181, v182, v183, v184, v185, v186, v187, v188, v189, v190, v191, v192, v193, v194, v195, v196, v197, v198, v199, v200, v201, v202, v203, v204, v205, v206, v207, v208, v209, v210, v211, v212, v213, v214, v215, v216, v217, v218, v219, v220, v221, v222, v223, v224, v225, v226, v227, v228, v229, v230, v231, v232, v233, v234, v235, v236, v237, v238, v239, v240, v241, v242, v243, v244, v245, v246, v247, v248, v249, v250, v251, v252, v253, v254, v255, v256, v257, v258, v259, v260, v261, v262, v263, v264, v265, v266, v267, v268, v269, v270, v271, v272, v273, v274, v275, v276, v277, v278, v279, v280, v281, v282, v283, v284, v285, v286, v287, v288], []⟩ (w.alloc (.cells #[.string ⟨t.toArray⟩, .int .i64 0, .int .i64 0] 73)) := by
  refine Flow.wp_cnd rfl ?_
  have hl2 : t.length ≤ 1000 := by omega
  have hl3 : (t.length : Int) ≤ 64 := by omega
  dsimp only
  have h1 : r1 t = skip t isBl (need t (isCh 44) (nameS t dayTab r0)) := by unfold r1; rw [hw, if_pos rfl]
  have h2 : pWd t = nameV t dayTab r0 := by unfold pWd; rw [hw, if_pos rfl]
  have H1 := Lib.hid h1; have H2 := Lib.hid h2
  have u0 : Hid ((nameS t dayTab r0).p ≤ t.length) := nameS_p (Nat.zero_le _)
  have u1 : Hid ((need t (isCh 44) (nameS t dayTab r0)).p ≤ t.length) := need_p u0.out
  have H0 : Hid (PT w t (w.alloc (.cells #[.string ⟨t.toArray⟩, .int .i64 0, .int .i64 0] 73)) r0) := ⟨blk_new _ _, (Below.refl _ _).alloc (Nat.le_refl _) _⟩
  clear h1 h2 hw
  go_wp2_with fail
  refine Flow.wp_region_pre Flow.Later Flow.Later.refl Flow.Later.trans [6] (.held [0] (.call 1 (.call 2 (.held [3, 4] (.pure [5] (.tail (.step [] 6 (.done [7])))))))) (by kernel_rfl) (by kernel_rfl) ?_
  have HD := Lib.hid (H0.out.drew)
  generalize hwd : World.drew _ = wd at *
  clear hwd
  have q0 : ∀ t1 : Flow.Cls (Flow.Later wd), t1.val.cell? ⟨w.heap.size, 0, none⟩ = some (.string ⟨t.toArray⟩) := Flow.cls_cell HD.out.c0
  have q1 : ∀ t1 : Flow.Cls (Flow.Later wd), t1.val.cell? ⟨w.heap.size, 1, none⟩ = some (.int .i64 (r0).p) := Flow.cls_cell HD.out.c1
  have q2 : ∀ t1 : Flow.Cls (Flow.Later wd), t1.val.cell? ⟨w.heap.size, 2, none⟩ = some (.int .i64 (r0).e) := Flow.cls_cell HD.out.c2
  haveI nonE := Flow.cls_nonempty wd
  rw [Flow.wpPre_held]
  simp only [Flow.pick, List.getElem?_toArray, List.getElem?_cons_zero]
  repeat go_big_quiet_step (fail)
  refine wpQuiet_nil ?_
  clear q0 q1 q2 nonE
  rw [Flow.wpPre_call, Flow.callAt_eq]
  simp only [List.getElem?_toArray, List.getElem?_cons_succ, List.getElem?_cons_zero]
  rw [if_pos (by rfl)]
  refine Flow.wp_behind (fun K hK => ?_)
  go_wp2_with fail
  refine (refDayNames_any _).mono ?_; rintro e wn ⟨rfl, hwn⟩
  have NB : Hid (wn.heap[wd.heap.size]? = some (.cells #[.string ⟨#[77, 111, 110]⟩, .string ⟨#[84, 117, 101]⟩, .string ⟨#[87, 101, 100]⟩, .string ⟨#[84, 104, 117]⟩, .string ⟨#[70, 114, 105]⟩, .string ⟨#[83, 97, 116]⟩, .string ⟨#[83, 117, 110]⟩] 9 (0, 0))) := by rw [hwn]; exact blk_new _ _
  have bn : Below wd.heap.size wd wn := by rw [hwn]; exact (Below.refl _ _).alloc (Nat.le_refl _) _
  refine hK.out _ _ ⟨bn, ?_⟩
  have HN := Lib.hid (HD.out.below bn)
  clear hK K hwn bn HD
  rw [Flow.wpPre_call, Flow.callAt_eq]
  simp only [List.getElem?_toArray, List.getElem?_cons_succ, List.getElem?_cons_zero]
  rw [if_pos (by rfl)]
  refine Flow.wp_behind (fun K hK => ?_)
  go_wp2_with fail
  refine (refName_any dayTab t (r0) wd.heap.size wn (by decide) day_lens (refDay_cells NB.out) hl2 (Nat.zero_le _)).mono ?_; rintro e wm ⟨he, bm⟩
  obtain rfl : e = .returned (.tuple #[.agg #[.string ⟨t.toArray⟩, .int .i64 (nameS t dayTab r0).p, .int .i64 (nameS t dayTab r0).e], .int .i64 (nameV t dayTab r0)]) := he
  refine hK.out _ _ ⟨bm, ?_⟩
  have HM := Lib.hid (HN.out.below bm)
  clear hK K bm HN NB
  clear wn
  haveI nonE := Flow.cls_nonempty wm
  rw [Flow.wpPre_held]
  simp only [Flow.pick, List.getElem?_toArray, List.getElem?_cons_succ, List.getElem?_cons_zero]
  repeat go_big_quiet_step (fail)
  refine wpQuiet_nil ?_
  clear nonE
  haveI nonE := Flow.cls_nonempty_true
  rw [Flow.wpPre_pure]
  simp only [Flow.pick, List.getElem?_toArray, List.getElem?_cons_succ, List.getElem?_cons_zero]
  repeat go_big_quiet_step (fail)
  refine wpQuiet_nil ?_
  rw [Flow.wpPre_tail, Flow.wpSched_step]
  simp only [Flow.pick]
  refine wpQuiet_nil ?_
  rw [Flow.callAt_eq]
  simp only [List.getElem?_toArray, List.getElem?_cons_succ, List.getElem?_cons_zero]
  rw [if_pos (by rfl)]
  refine Flow.wp_behind (fun K hK => ?_)
  have c0 := HM.out.c0
  have c1 := HM.out.c1
  have c2 := HM.out.c2
  have f0 := HM.out.f 0
  have f1 := HM.out.f 1
  have f2 := HM.out.f 2
  go_wp2_with fail
  refine hK.out _ _ ⟨trivial, ?_⟩
  clear hK K
  rw [Flow.wpSched_done]
  simp only [Flow.pick, List.getElem?_toArray, List.getElem?_cons_succ, List.getElem?_cons_zero]
  repeat go_big_quiet_step (fail)
  refine wpQuiet_nil ?_
  clear nonE c0 c1 c2 f0 f1 f2
  have HZ := Lib.hid (HM.out.set (nameS t dayTab r0))
  clear HM
  have c0 := HZ.out.c0
  have c1 := HZ.out.c1
  have c2 := HZ.out.c2
  go_wp2_with fail
  refine (refNeed_ch 44 (.inl rfl) t (nameS t dayTab r0) _ hl2 u0.out).mono ?_; rintro e wa ⟨rfl, ba⟩
  have HA := Lib.hid (HZ.out.below ba)
  clear c0 c1 c2 ba HZ
  go_wp2_with fail
  refine (refSkip_any t (need t (isCh 44) (nameS t dayTab r0)) _ hl2 u1.out).mono ?_; rintro e wb ⟨rfl, bb⟩
  have HB := Lib.hid (HA.out.below bb)
  clear bb HA
  have c0 := HB.out.c0
  have c1 := HB.out.c1
  have c2 := HB.out.c2
  have f0 := HB.out.f 0
  have f1 := HB.out.f 1
  have f2 := HB.out.f 2
  go_wp2_with fail
  have e6 : Value.int .i64 (pWd t) = .int .i64 (nameV t dayTab r0) := by rw [H2.out]
  refine HK.out _ _ ?_
  rw [← e6]
  exact refTail5 t w _ F hl HF (by rw [H1.out]; exact HB.out.set _)


set_option maxRecDepth 100000 in
set_option maxHeartbeats 8000000 in
theorem refTail4 {v1 v2 v3 v4 v7 v8 v9 v10 v11 v12 v13 v14 v15 v16 v17 v18 v19 v20 v21 v22 v23 v24 v25 v26 v27 v28 v29 v30 v31 v32 v33 v34 v35 v36 v37 v38 v39 v40 v41 v42 v43 v44 v45 v46 v47 v48 v49 v50 v51 v52 v53 v54 v55 v56 v57 v58 v59 v60 v61 v62 v63 v64 v65 v66 v67 v68 v69 v70 v71 v72 v73 v74 v75 v76 v77 v78 v79 v80 v81 v82 v83 v84 v85 v86 v87 v88 v89 v90 v91 v92 v93 v94 v95 v96 v97 v98 v99 v100 v101 v102 v103 v104 v105 v106 v107 v108 v109 v110 v111 v112 v113 v114 v115 v116 v117 v118 v119 v120 v121 v122 v123 v124 v125 v126 v127 v128 v129 v130 v131 v132 v133 v134 v135 v136 v137 v138 v139 v140 v141 v142 v143 v144 v145 v146 v147 v148 v149 v150 v151 v152 v153 v154 v155 v156 v157 v158 v159 v160 v161 v162 v163 v164 v165 v166 v167 v168 v169 v170 v171 v172 v173 v174 v175 v176 v177 v178 v179 v180 v181 v182 v183 v184 v185 v186 v187 v188 v189 v190 v191 v192 v193 v194 v195 v196 v197 v198 v199 v200 v201 v202 v203 v204 v205 v206 v207 v208 v209 v210 v211 v212 v213 v214 v215 v216 v217 v218 v219 v220 v221 v222 v223 v224 v225 v226 v227 v228 v229 v230 v231 v232 v233 v234 v235 v236 v237 v238 v239 v240 v241 v242 v243 v244 v245 v246 v247 v248 v249 v250 v251 v252 v253 v254 v255 v256 v257 v258 v259 v260 v261 v262 v263 v264 v265 v266 v267 v268 v269 v270 v271 v272 v273 v274 v275 v276 v277 v278 v279 v280 v281 v282 v283 v284 v285 v286 v287 v288 : Value} (t : List UInt8) (w wx : World) (F : Int × Int × Int)  (hl : t.length ≤ 64) (HF : Hid (parseF t = F)) (hx : wx = w.alloc (.cells #[.string ⟨t.toArray⟩, .int .i64 0, .int .i64 0] 73)) :
    Code.wp Tryd.prog (Flow.rest 4 Tryd.f22) (bodyPost Tryd.prog Tryd.f22 fun e w' => e = .returned (.tuple #[.int .i64 F.1, .int .i64 F.2.1, .int .i64 F.2.2]) ∧ Below w.heap.size w w') ⟨#[.string ⟨t.toArray⟩, v1, v2, v3, v4, .pointer (some ⟨w.heap.size, 0, none⟩), .int .i64 (-1), v7, v8, v9, v10, v11, v12, v13, v14, v15, v16, v17, v18, v19, v20, v21, v22, v23, v24, v25, v26, v27, v28, v29, v30, v31, v32, v33, v34, v35, v36, v37, v38, v39, v40, v41, v42, v43, v44, v45, v46, v47, v48, v49, v50, v51, v52, v53, v54, v55, v56, v57, v58, v59, v60, v61, v62, v63, v64, v65, v66, v67, v68, v69, v70, v71, v72, v73, v74, v75, v76, v77, v78, v79, v80, v81, v82, v83, v84, v85, v86, v87, v88, v89, v90, v91, v92, v93, v94, v95, v96, v97, v98, v99, v100, v101, v102, v103, v104, v105, v106, v107, v108, v109, v110, v111, v112, v113, v114, v115, v116, v117, v118, v119, v120, v121, v122, v123, v124, v125, v126, v127, v128, v129, v130, v131, v132, v133, v134, v135, v136, v137, v138, v139, v140, v141, v142, v143, v144, v145, v146, v147, v148, v149, v150, v151, v152, v153, v154, v155, v156, v157, v158, v159, v160, v161, v162, v163, v164, v165, v166, v167, v168, v169, v170, v171, v172, v173, v174, v175, v176, v177, v178, v179, v180, v181, v182, v183, v184, v185, v186, v187, v188, v189, v190, v191, v192, v193, v194, v195, v196, v197, v198, v199, v200, v201, v202, v203, v204, v205, v206, v207, v208, v209, v210, v211, v212, v213, v214, v215, v216, v217, v218, v219, v220, v221, v222, v223, v224, v225, v226, v227, v228, v229, v230, v231, v232, v233, v234, v235, v236, v237, v238, v239, v240, v241, v242, v243, v244, v245, v246, v247, v248, v249, v250, v251, v252, v253, v254, v255, v256, v257, v258, v259, v260, v261, v262, v263, v264, v265, v266, v267, v268, v269, v270, v271, v272, v273, v274, v275, v276, v277, v278, v279, v280, v281, v282, v283, v284, v285, v286, v287, v288], []⟩ wx := by
  refine Flow.wp_rest rfl ?_
  have hl2 : t.length ≤ 1000 := by omega
  have hl3 : (t.length : Int) ≤ 64 := by omega
  dsimp only
  subst hx
  go_upto_region 5 with fail
  go_cut [47] (fun s47 wz => s47 = .bool (hasW t) ∧ wz = w.alloc (.cells #[.string ⟨t.toArray⟩, .int .i64 0, .int .i64 0] 73))
  case first =>
    by_cases h0 : t.length = 0
    · have HW := Lib.hid (hasW_nil h0)
      have h1 : ¬ 0 < t.length := by omega
      have h2 : decide (0 < t.length) = false := by simpa using h1
      clear h0
      go_wp2_with fail
      go_meet
      exact ⟨by rw [HW.out], rfl⟩
    · have h1 : 0 < t.length := by omega
      have hw := hasW_at h1
      have bg := bget (t := t) (p := 0) (show 0 < t.toArray.size by simpa using h1) h1
      obtain ⟨c, hc⟩ : ∃ c, at0 t 0 = c := ⟨_, rfl⟩
      rw [hc] at bg hw
      clear hc h0
      have hcb := c.toNat_lt
      have HW := Lib.hid hw; clear hw
      have cs : ((c.toNat : Int) < 65 ∧ isLet c = false) ∨ ((65 : Int) ≤ c.toNat ∧ (c.toNat : Int) ≤ 90 ∧ isLet c = true) ∨ ((65 : Int) ≤ c.toNat ∧ (90 : Int) < c.toNat ∧ (c.toNat : Int) < 97 ∧ isLet c = false) ∨ ((65 : Int) ≤ c.toNat ∧ (90 : Int) < c.toNat ∧ (97 : Int) ≤ c.toNat ∧ (c.toNat : Int) ≤ 122 ∧ isLet c = true) ∨ ((65 : Int) ≤ c.toNat ∧ (90 : Int) < c.toNat ∧ (97 : Int) ≤ c.toNat ∧ (122 : Int) < c.toNat ∧ isLet c = false) := by
        have : isLet c = ((decide (65 ≤ c.toNat) && decide (c.toNat ≤ 90)) || (decide (97 ≤ c.toNat) && decide (c.toNat ≤ 122))) := rfl
        rw [this]
        simp only [Bool.or_eq_true, Bool.and_eq_true, decide_eq_true_eq, Bool.or_eq_false_iff, Bool.and_eq_false_iff, decide_eq_false_iff_not]
        omega
      rcases cs with ⟨a0, V⟩ | ⟨a0, a1, V⟩ | ⟨a0, a1, a2, V⟩ | ⟨a0, a1, a2, a3, V⟩ | ⟨a0, a1, a2, a3, V⟩
      · have a2 : (c.toNat : Int) < 97 := by omega
        have V := Lib.hid V
        go_wp2_with fail
        go_meet
        exact ⟨by rw [HW.out, V.out]; first | done | exact congrArg Value.bool (by simp; omega), rfl⟩
      all_goals
        have V := Lib.hid V
        go_wp2_with fail
        go_meet
        exact ⟨by rw [HW.out, V.out]; first | done | exact congrArg Value.bool (by simp; omega), rfl⟩
  obtain ⟨rfl, hwz⟩ := hcut
  rw [hwz]
  clear hwz
  apply_assumption
  cases hw : hasW t with
  | false => exact Flow.wp_of_cnd (n := 4) (f := Tryd.f22) rfl (refMid_false t w F hl HF hw _ _ (fun a w' h => by apply_assumption; exact Flow.wp_of_rest (n := 5) (f := Tryd.f22) rfl h))
  | true => exact Flow.wp_of_cnd (n := 4) (f := Tryd.f22) rfl (refMid_true t w F hl HF hw _ _ (fun a w' h => by apply_assumption; exact Flow.wp_of_rest (n := 5) (f := Tryd.f22) rfl h))


set_option maxRecDepth 100000 in
set_option maxHeartbeats 4000000 in
theorem refParse_in (t : List UInt8) (w : World) (hl : t.length ≤ 64) :
    Calls Tryd.prog 22 #[.string ⟨t.toArray⟩] w fun e w' => e = .returned (.tuple #[.int .i64 (parseF t).1, .int .i64 (parseF t).2.1, .int .i64 (parseF t).2.2]) ∧ Below w.heap.size w w' := by
  obtain ⟨F, hF⟩ : ∃ F, parseF t = F := ⟨_, rfl⟩
  rw [hF]
  have HF := Lib.hid hF; clear hF
  have hl3 : (t.length : Int) ≤ 64 := by omega
  go_enter Tryd.func22, Tryd.ntmps22
  go_upto_region 4 with fail
  go_cut [6] (fun s6 wz => s6 = .int .i64 (-1) ∧ wz = w.alloc (.cells #[.string ⟨t.toArray⟩, .int .i64 0, .int .i64 0] 73))
  case first =>
    go_wp2_with fail
    go_meet
    exact ⟨rfl, rfl⟩
  obtain ⟨rfl, hwz⟩ := hcut
  apply_assumption
  exact Flow.wp_of_rest (n := 4) (f := Tryd.f22) rfl (refTail4 t w _ F hl HF hwz)
set_option maxRecDepth 100000 in
set_option maxHeartbeats 4000000 in
theorem refParse_long (t : List UInt8) (w : World) (hl : 64 < t.length) (hm : t.length ≤ 1000000) :
    Calls Tryd.prog 22 #[.string ⟨t.toArray⟩] w fun e w' => e = .returned (.tuple #[.int .i64 0, .int .i64 64, .int .i64 5]) ∧ w = w' := by
  have hl3 : (64 : Int) < (t.length : Int) := by omega
  go_enter Tryd.func22, Tryd.ntmps22
  go_wp2
  go_ret3
  exact ⟨rfl, rfl⟩
theorem refParse_any (t : List UInt8) (w : World) (hm : t.length ≤ 1000000) :
    Calls Tryd.prog 22 #[.string ⟨t.toArray⟩] w fun e w' => e = .returned (.tuple #[.int .i64 (parseF t).1, .int .i64 (parseF t).2.1, .int .i64 (parseF t).2.2]) ∧ Below w.heap.size w w' := by
  by_cases h : t.length ≤ 64
  · exact refParse_in t w h
  · have e : parseF t = (0, 64, 5) := by unfold parseF; rw [if_pos (by omega)]
    rw [e]
    exact (refParse_long t w (by omega) hm).mono fun _ _ q => ⟨q.1, q.2 ▸ Below.refl _ _⟩

end Go.Proofs.YtpdncgfkoibacaaDoor

