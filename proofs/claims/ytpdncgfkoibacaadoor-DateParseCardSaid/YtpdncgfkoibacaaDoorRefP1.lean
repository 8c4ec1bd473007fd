/- Contract of Parse of the reference of package date, part 1 of 5: the rest of its body, statement by statement, from the end on. -/
import Derived.Test.YtpdncgfkoibacaaDoorRefChain
import Derived.Test.YtpdncgfkoibacaaDoorRead
import Derived.Test.YtpdncgfkoibacaaDoorRefFrom
import Derived.Test.YtpdncgfkoibacaaDoorTail
import Derived.Test.YtpdncgfkoibacaaDoorRest
import Derived.Deep.DeepCutAuto
import Derived.Test.YtpdncgfkoibacaaDoorParse
namespace Go.Proofs.YtpdncgfkoibacaaDoor
open Go.RowKit
open Cal

theorem digE_bd (t : List UInt8) (k : Nat) (s : St) (hk : k ≤ 4) : 0 ≤ digE t k s ∧ digE t k s ≤ 9999 := by
  unfold digE
  split
  · rename_i h
    have := digV_ok h
    have hk' : k = 0 ∨ k = 1 ∨ k = 2 ∨ k = 3 ∨ k = 4 := by omega
    rcases hk' with rfl | rfl | rfl | rfl | rfl <;> simp at this ⊢ <;> omega
  · omega
theorem digE_ok {t : List UInt8} {k : Nat} {s : St} (h : (digS t k s).e = 0) : digE t k s = numV t k false s := by
  unfold digE numV; rw [if_pos h]; simp
theorem day_two {t : List UInt8} (h : sees t isDig (digS t 1 (r1 t)) = true) : r2 t = ⟨(digS t 1 (r1 t)).p + 1, 0⟩ ∧ (digS t 1 (r1 t)).e = 0 ∧ pDay t = digE t 1 (r1 t) * 10 + ((at0 t (digS t 1 (r1 t)).p).toNat - 48) ∧ (digS t 1 (r1 t)).p < t.length ∧ isDig (at0 t (digS t 1 (r1 t)).p) = true := by
  have h' := h
  simp only [sees, Bool.and_eq_true, decide_eq_true_eq, beq_iff_eq] at h'
  obtain ⟨⟨g0, g1⟩, g2⟩ := h'
  have e2 : digS t 2 (r1 t) = ⟨(digS t 1 (r1 t)).p + 1, 0⟩ := by
    show need t isDig (digS t 1 (r1 t)) = _
    rw [need_yes g0 g1 g2, g0]
  refine ⟨?_, g0, ?_, g1, g2⟩
  · unfold r2 numS; rw [h]; simpa using e2
  · unfold pDay numV digE; rw [h, if_pos g0]
    simp only [Bool.and_self, if_true]
    show 10 * digV t 1 (r1 t) + (needB t isDig (digS t 1 (r1 t))).toNat - 48 = _
    unfold needB; rw [if_pos h]; omega
theorem day_one {t : List UInt8} (h : sees t isDig (digS t 1 (r1 t)) = false) : r2 t = digS t 1 (r1 t) ∧ ((digS t 1 (r1 t)).e = 0 → pDay t = digE t 1 (r1 t)) := by
  refine ⟨by unfold r2 numS; rw [h]; simp, fun he => ?_⟩
  unfold pDay numV digE; rw [h, if_pos he]; simp
theorem sec_two {t : List UInt8} (h : hasS t = true) : r10a t = ⟨(r10 t).p + 1, 0⟩ ∧ (r10 t).e = 0 := by
  have h' := h
  unfold hasS at h'
  simp only [sees, Bool.and_eq_true, decide_eq_true_eq, beq_iff_eq] at h'
  exact ⟨by unfold r10a; rw [need_yes h'.1.1 h'.1.2 h'.2, h'.1.1], h'.1.1⟩



def parseT (L Wd Off : Int) : Int × Int × Int := if 0 ≤ Wd ∧ Wd ≠ (L / 1440 + 5) % 7 then (0, 0, 13) else if L - Off < 0 ∨ 105190559 < L - Off then (0, 0, 2) else (L - Off, 0, 0)
theorem failAt_zero (q p e : Nat) : failAt ⟨q, 0⟩ p e = ⟨p, e⟩ := rfl
theorem r11_e {t : List UInt8} (h : (r11 t).e = 0) : (r10 t).e = 0 := by
  unfold r11 at h
  split at h
  · exact (need_e (numS_e h)).2
  · exact h
theorem num_r6 {t : List UInt8} : digS t 4 (r5 t) = r6 t := by unfold r6 numS; simp
theorem num_r8 {t : List UInt8} : digS t 2 (r7 t) = r8 t := by unfold r8 numS; simp
theorem num_r10 {t : List UInt8} : digS t 2 (r9 t) = r10 t := by unfold r10 numS; simp


set_option maxRecDepth 100000 in
set_option maxHeartbeats 8000000 in
theorem refTail34a {v1 v2 v3 v4 v9 v16 v17 v18 v19 v20 v21 v22 v23 v24 v25 v26 v27 v28 v29 v30 v31 v32 v33 v34 v35 v36 v37 v38 v39 v40 v41 v42 v43 v44 v45 v46 v47 v48 v49 v50 v51 v52 v53 v54 v55 v56 v57 v58 v59 v60 v61 v62 v63 v64 v65 v66 v67 v68 v69 v70 v71 v72 v73 v74 v75 v76 v77 v78 v79 v80 v81 v82 v83 v84 v85 v86 v87 v88 v89 v90 v91 v92 v93 v94 v95 v96 v97 v98 v99 v100 v101 v102 v103 v104 v105 v106 v107 v108 v109 v110 v111 v112 v113 v114 v115 v116 v117 v118 v119 v120 v121 v122 v123 v124 v125 v126 v127 v128 v129 v130 v131 v132 v133 v134 v135 v136 v137 v138 v139 v140 v141 v142 v143 v144 v145 v146 v147 v148 v149 v150 v151 v152 v153 v154 v155 v156 v157 v158 v159 v160 v161 v162 v163 v164 v165 v166 v167 v168 v169 v170 v171 v172 v173 v174 v175 v176 v177 v178 v179 v180 v181 v182 v183 v184 v185 v186 v187 v188 v189 v190 v191 v192 v193 v194 v195 v196 v197 v198 v199 v200 v201 v202 v203 v204 v205 v206 v207 v208 v209 v210 v211 v212 v213 v214 v215 v216 v217 v218 v219 v220 v221 v222 v223 v224 v225 v226 v227 v228 v229 v230 v231 v232 v233 v234 v235 v236 v237 v238 v239 v240 v241 v242 v243 v244 v245 v246 v247 v248 v249 v250 v251 v252 v253 v254 v255 v256 v257 v258 v259 v260 v261 v262 v263 v264 v265 v266 v267 v268 v269 v270 v271 v272 v273 v274 v275 v276 v277 v278 v279 v280 v281 v282 v283 v284 v285 v286 v287 v288 : Value} (t : List UInt8) (w wx : World) (F : Int × Int × Int) (cb : Nat) (y m d h n : Int) (sv : Int) (sa : Nat) (SP SE : Nat) (hl : t.length ≤ 64) (HF : Hid (parseF t = F)) (hx : PC w t wx ⟨SP, SE⟩ cb y m d h n) (HF2 : Hid (F = (0, (SP : Int), (SE : Int)))) (z : SE ≠ 0) :
    Code.wp Tryd.prog (Flow.rest 34 Tryd.f22) (bodyPost Tryd.prog Tryd.f22 fun e w' => e = .returned (.tuple #[.int .i64 F.1, .int .i64 F.2.1, .int .i64 F.2.2]) ∧ Below w.heap.size w w') ⟨#[.string ⟨t.toArray⟩, v1, v2, v3, v4, .pointer (some ⟨w.heap.size, 0, none⟩), .int .i64 (pWd t), .pointer (some ⟨cb, 0, none⟩), .int .i64 sv, v9, .int .i64 (r1 t).p, .int .i64 (r5 t).p, .int .i64 (r7 t).p, .int .i64 (r9 t).p, .int .i64 sa, .int .i64 (pOff t), v16, v17, v18, v19, v20, v21, v22, v23, v24, v25, v26, v27, v28, v29, v30, v31, v32, v33, v34, v35, v36, v37, v38, v39, v40, v41, v42, v43, v44, v45, v46, v47, v48, v49, v50, v51, v52, v53, v54, v55, v56, v57, v58, v59, v60, v61, v62, v63, v64, v65, v66, v67, v68, v69, v70, v71, v72, v73, v74, v75, v76, v77, v78, v79, v80, v81, v82, v83, v84, v85, v86, v87, v88, v89, v90, v91, v92, v93, v94, v95, v96, v97, v98, v99, v100, v101, v102, v103, v104, v105, v106, v107, v108, v109, v110, v111, v112, v113, v114, v115, v116, v117, v118, v119, v120, v121, v122, v123, v124, v125, v126, v127, v128, v129, v130, v131, v132, v133, v134, v135, v136, v137, v138, v139, v140, v141, v142, v143, v144, v145, v146, v147, v148, v149, v150, v151, v152, v153, v154, v155, v156, v157, v158, v159, v160, v161, v162, v163, v164, v165, v166, v167, v168, v169, v170, v171, v172, v173, v174, v175, v176, v177, v178, v179, v180, v181, v182, v183, v184, v185, v186, v187, v188, v189, v190, v191, v192, v193, v194, v195, v196, v197, v198, v199, v200, v201, v202, v203, v204, v205, v206, v207, v208, v209, v210, v211, v212, v213, v214, v215, v216, v217, v218, v219, v220, v221, v222, v223, v224, v225, v226, v227, v228, v229, v230, v231, v232, v233, v234, v235, v236, v237, v238, v239, v240, v241, v242, v243, v244, v245, v246, v247, v248, v249, v250, v251, v252, v253, v254, v255, v256, v257, v258, v259, v260, v261, v262, v263, v264, v265, v266, v267, v268, v269, v270, v271, v272, v273, v274, v275, v276, v277, v278, v279, v280, v281, v282, v283, v284, v285, v286, v287, v288], []⟩ wx := by
  refine Flow.wp_rest rfl ?_
  have hl2 : t.length ≤ 1000 := by omega
  have hl3 : (t.length : Int) ≤ 64 := by omega
  have H3 := Lib.hid hx; clear hx
  have hF : F = (0, (SP : Int), (SE : Int)) := HF2.out
  subst hF
  clear HF HF2
  have hlf : ((SE : Int) == 0) = false := by simp; omega
  clear z
  have c1 : wx.cell? ⟨w.heap.size, 1, none⟩ = some (.int .i64 SP) := H3.out.P.c1
  have c2 : wx.cell? ⟨w.heap.size, 2, none⟩ = some (.int .i64 SE) := H3.out.P.c2
  go_wp2_with fail
  go_quiet (fail)
  go_wp2_with fail
  go_ret3
  exact ⟨rfl, Below.drewN _ H3.out.P.B⟩


set_option maxRecDepth 100000 in
set_option maxHeartbeats 8000000 in
theorem refTail34b {v1 v2 v3 v4 v9 v16 v17 v18 v19 v20 v21 v22 v23 v24 v25 v26 v27 v28 v29 v30 v31 v32 v33 v34 v35 v36 v37 v38 v39 v40 v41 v42 v43 v44 v45 v46 v47 v48 v49 v50 v51 v52 v53 v54 v55 v56 v57 v58 v59 v60 v61 v62 v63 v64 v65 v66 v67 v68 v69 v70 v71 v72 v73 v74 v75 v76 v77 v78 v79 v80 v81 v82 v83 v84 v85 v86 v87 v88 v89 v90 v91 v92 v93 v94 v95 v96 v97 v98 v99 v100 v101 v102 v103 v104 v105 v106 v107 v108 v109 v110 v111 v112 v113 v114 v115 v116 v117 v118 v119 v120 v121 v122 v123 v124 v125 v126 v127 v128 v129 v130 v131 v132 v133 v134 v135 v136 v137 v138 v139 v140 v141 v142 v143 v144 v145 v146 v147 v148 v149 v150 v151 v152 v153 v154 v155 v156 v157 v158 v159 v160 v161 v162 v163 v164 v165 v166 v167 v168 v169 v170 v171 v172 v173 v174 v175 v176 v177 v178 v179 v180 v181 v182 v183 v184 v185 v186 v187 v188 v189 v190 v191 v192 v193 v194 v195 v196 v197 v198 v199 v200 v201 v202 v203 v204 v205 v206 v207 v208 v209 v210 v211 v212 v213 v214 v215 v216 v217 v218 v219 v220 v221 v222 v223 v224 v225 v226 v227 v228 v229 v230 v231 v232 v233 v234 v235 v236 v237 v238 v239 v240 v241 v242 v243 v244 v245 v246 v247 v248 v249 v250 v251 v252 v253 v254 v255 v256 v257 v258 v259 v260 v261 v262 v263 v264 v265 v266 v267 v268 v269 v270 v271 v272 v273 v274 v275 v276 v277 v278 v279 v280 v281 v282 v283 v284 v285 v286 v287 v288 : Value} (t : List UInt8) (w wx : World) (F : Int × Int × Int) (cb : Nat) (y m d h n : Int) (sv : Int) (sa : Nat) (P : Nat) (Wd Off : Int) (hl : t.length ≤ 64) (HF : Hid (parseF t = F)) (hx : PC w t wx ⟨P, 0⟩ cb y m d h n) (yb : 2000 ≤ y ∧ y ≤ 2199) (m0 : 1 ≤ m) (m1 : m ≤ 12) (db : 1 ≤ d ∧ d ≤ md y m) (h0 : 0 ≤ h) (hb : h ≤ 23) (n0 : 0 ≤ n) (nb : n ≤ 59) (o0 : -1000 ≤ Off) (o1 : Off ≤ 1000) (hFT : F = parseT (dayNum y m d * 1440 + h * 60 + n) Wd Off) :
    Code.wp Tryd.prog (Flow.rest 34 Tryd.f22) (bodyPost Tryd.prog Tryd.f22 fun e w' => e = .returned (.tuple #[.int .i64 F.1, .int .i64 F.2.1, .int .i64 F.2.2]) ∧ Below w.heap.size w w') ⟨#[.string ⟨t.toArray⟩, v1, v2, v3, v4, .pointer (some ⟨w.heap.size, 0, none⟩), .int .i64 Wd, .pointer (some ⟨cb, 0, none⟩), .int .i64 sv, v9, .int .i64 (r1 t).p, .int .i64 (r5 t).p, .int .i64 (r7 t).p, .int .i64 (r9 t).p, .int .i64 sa, .int .i64 Off, v16, v17, v18, v19, v20, v21, v22, v23, v24, v25, v26, v27, v28, v29, v30, v31, v32, v33, v34, v35, v36, v37, v38, v39, v40, v41, v42, v43, v44, v45, v46, v47, v48, v49, v50, v51, v52, v53, v54, v55, v56, v57, v58, v59, v60, v61, v62, v63, v64, v65, v66, v67, v68, v69, v70, v71, v72, v73, v74, v75, v76, v77, v78, v79, v80, v81, v82, v83, v84, v85, v86, v87, v88, v89, v90, v91, v92, v93, v94, v95, v96, v97, v98, v99, v100, v101, v102, v103, v104, v105, v106, v107, v108, v109, v110, v111, v112, v113, v114, v115, v116, v117, v118, v119, v120, v121, v122, v123, v124, v125, v126, v127, v128, v129, v130, v131, v132, v133, v134, v135, v136, v137, v138, v139, v140, v141, v142, v143, v144, v145, v146, v147, v148, v149, v150, v151, v152, v153, v154, v155, v156, v157, v158, v159, v160, v161, v162, v163, v164, v165, v166, v167, v168, v169, v170, v171, v172, v173, v174, v175, v176, v177, v178, v179, v180, v181, v182, v183, v184, v185, v186, v187, v188, v189, v190, v191, v192, v193, v194, v195, v196, v197, v198, v199, v200, v201, v202, v203, v204, v205, v206, v207, v208, v209, v210, v211, v212, v213, v214, v215, v216, v217, v218, v219, v220, v221, v222, v223, v224, v225, v226, v227, v228, v229, v230, v231, v232, v233, v234, v235, v236, v237, v238, v239, v240, v241, v242, v243, v244, v245, v246, v247, v248, v249, v250, v251, v252, v253, v254, v255, v256, v257, v258, v259, v260, v261, v262, v263, v264, v265, v266, v267, v268, v269, v270, v271, v272, v273, v274, v275, v276, v277, v278, v279, v280, v281, v282, v283, v284, v285, v286, v287, v288], []⟩ wx := by
  refine Flow.wp_rest rfl ?_
  have hl2 : t.length ≤ 1000 := by omega
  have hl3 : (t.length : Int) ≤ 64 := by omega
  have H3 := Lib.hid hx; clear hx
  have c2 : wx.cell? ⟨w.heap.size, 2, none⟩ = some (.int .i64 0) := H3.out.P.c2
  have k0 : wx.cell? ⟨cb, 0, none⟩ = some (.int .i64 y) := H3.out.k 0
  have k1 : wx.cell? ⟨cb, 1, none⟩ = some (.int .i64 m) := H3.out.k 1
  have k2 : wx.cell? ⟨cb, 2, none⟩ = some (.int .i64 d) := H3.out.k 2
  have k3 : wx.cell? ⟨cb, 3, none⟩ = some (.int .i64 h) := H3.out.k 3
  have k4 : wx.cell? ⟨cb, 4, none⟩ = some (.int .i64 n) := H3.out.k 4
  have hcall : Hid (∀ W : World, Calls Tryd.prog 17 #[.agg #[.int .i64 y, .int .i64 m, .int .i64 d, .int .i64 h, .int .i64 n]] W fun e w' => e = .returned (.tuple #[.int .i64 (dayNum y m d * 1440 + h * 60 + n), .int .i64 0]) ∧ Below W.heap.size W w') := fun W => refFromCivil_yes y m d h n W yb.1 yb.2 m0 m1 db.1 db.2 h0 hb n0 nb
  have dn := dayNum_bd yb.1 yb.2 m0 m1 db.1 db.2
  have l0 : 0 ≤ dayNum y m d * 1440 + h * 60 + n := by omega
  have l1 : dayNum y m d * 1440 + h * 60 + n ≤ 105190559 := by omega
  generalize dayNum y m d * 1440 + h * 60 + n = L at *
  clear dn
  have HFT := Lib.hid hFT; clear hFT
  go_wp2_with fail
  refine (hcall.out _).mono ?_; rintro e wa ⟨rfl, ba⟩
  have B2 := H3.out.P.B.trans (ba.mono H3.out.P.B.size)
  clear ba H3 c2 k0 k1 k2 k3 k4 hcall
  by_cases a : 0 ≤ Wd
  · by_cases b : Wd = (L / 1440 + 5) % 7
    · have ne : (Wd != (L / 1440 + 5) % 7) = false := by simp [b]
      have a' : decide (0 ≤ Wd) = true := by simpa using a
      have hq : ¬ (0 ≤ Wd ∧ Wd ≠ (L / 1440 + 5) % 7) := by omega
      have HB := Lib.hid b; clear b
      cases hv : vld (L - Off) with
      | true =>
        have hF : F = (L - Off, 0, 0) := by
          rw [HFT.out]; unfold parseT; rw [if_neg hq, if_neg (by have := vld_true hv; omega)]
        subst hF
        clear HFT hq HF
        go_wp2_with fail
        refine (refWeekday_any L _ l0 l1).mono ?_; rintro e wb ⟨rfl, rfl⟩
        go_wp2_with fail
        refine (refValid_any _ _).mono ?_; rintro e wc ⟨rfl, rfl⟩
        go_wp2_with fail
        go_ret3
        exact ⟨rfl, B2⟩
      | false =>
        have hF : F = (0, 0, 2) := by
          rw [HFT.out]; unfold parseT; rw [if_neg hq, if_pos (by have := vld_false hv; omega)]
        subst hF
        clear HFT hq HF
        go_wp2_with fail
        refine (refWeekday_any L _ l0 l1).mono ?_; rintro e wb ⟨rfl, rfl⟩
        go_wp2_with fail
        refine (refValid_any _ _).mono ?_; rintro e wc ⟨rfl, rfl⟩
        go_wp2_with fail
        go_ret3
        exact ⟨rfl, B2⟩
    · have ne : (Wd != (L / 1440 + 5) % 7) = true := by simpa using b
      have a' : decide (0 ≤ Wd) = true := by simpa using a
      have hF : F = (0, 0, 13) := by rw [HFT.out]; unfold parseT; rw [if_pos ⟨a, b⟩]
      subst hF
      clear HFT b HF
      go_wp2_with fail
      refine (refWeekday_any L _ l0 l1).mono ?_; rintro e wb ⟨rfl, rfl⟩
      go_wp2_with fail
      go_ret3
      exact ⟨rfl, B2⟩
  · have a' : decide (0 ≤ Wd) = false := by simpa using a
    have hq : ¬ (0 ≤ Wd ∧ Wd ≠ (L / 1440 + 5) % 7) := by omega
    cases hv : vld (L - Off) with
    | true =>
      have hF : F = (L - Off, 0, 0) := by
        rw [HFT.out]; unfold parseT; rw [if_neg hq, if_neg (by have := vld_true hv; omega)]
      subst hF
      clear HFT hq HF
      go_wp2_with fail
      refine (refValid_any _ _).mono ?_; rintro e wc ⟨rfl, rfl⟩
      go_wp2_with fail
      go_ret3
      exact ⟨rfl, B2⟩
    | false =>
      have hF : F = (0, 0, 2) := by
        rw [HFT.out]; unfold parseT; rw [if_neg hq, if_pos (by have := vld_false hv; omega)]
      subst hF
      clear HFT hq HF
      go_wp2_with fail
      refine (refValid_any _ _).mono ?_; rintro e wc ⟨rfl, rfl⟩
      go_wp2_with fail
      go_ret3
      exact ⟨rfl, B2⟩


theorem refTail34 {v1 v2 v3 v4 v9 v16 v17 v18 v19 v20 v21 v22 v23 v24 v25 v26 v27 v28 v29 v30 v31 v32 v33 v34 v35 v36 v37 v38 v39 v40 v41 v42 v43 v44 v45 v46 v47 v48 v49 v50 v51 v52 v53 v54 v55 v56 v57 v58 v59 v60 v61 v62 v63 v64 v65 v66 v67 v68 v69 v70 v71 v72 v73 v74 v75 v76 v77 v78 v79 v80 v81 v82 v83 v84 v85 v86 v87 v88 v89 v90 v91 v92 v93 v94 v95 v96 v97 v98 v99 v100 v101 v102 v103 v104 v105 v106 v107 v108 v109 v110 v111 v112 v113 v114 v115 v116 v117 v118 v119 v120 v121 v122 v123 v124 v125 v126 v127 v128 v129 v130 v131 v132 v133 v134 v135 v136 v137 v138 v139 v140 v141 v142 v143 v144 v145 v146 v147 v148 v149 v150 v151 v152 v153 v154 v155 v156 v157 v158 v159 v160 v161 v162 v163 v164 v165 v166 v167 v168 v169 v170 v171 v172 v173 v174 v175 v176 v177 v178 v179 v180 v181 v182 v183 v184 v185 v186 v187 v188 v189 v190 v191 v192 v193 v194 v195 v196 v197 v198 v199 v200 v201 v202 v203 v204 v205 v206 v207 v208 v209 v210 v211 v212 v213 v214 v215 v216 v217 v218 v219 v220 v221 v222 v223 v224 v225 v226 v227 v228 v229 v230 v231 v232 v233 v234 v235 v236 v237 v238 v239 v240 v241 v242 v243 v244 v245 v246 v247 v248 v249 v250 v251 v252 v253 v254 v255 v256 v257 v258 v259 v260 v261 v262 v263 v264 v265 v266 v267 v268 v269 v270 v271 v272 v273 v274 v275 v276 v277 v278 v279 v280 v281 v282 v283 v284 v285 v286 v287 v288 : Value} (t : List UInt8) (w wx : World) (F : Int × Int × Int) (cb : Nat) (y m d h n : Int) (sv : Int) (sa : Nat) (DP : Nat) (hl : t.length ≤ 64) (HF : Hid (parseF t = F)) (hx : PC w t wx (chain ⟨DP, 0⟩ y m d h n sv (r5 t).p (r1 t).p (r7 t).p (r9 t).p sa) cb y m d h n) (hr : r13 t = ⟨DP, 0⟩) (hd : (y = pYear t ∧ m = pMon t ∧ d = pDay t ∧ h = pHour t ∧ n = pMin t) ∧ sv = pSec t) (y0 : 0 ≤ y) (y1 : y ≤ 9999) (m0 : 1 ≤ m) (m1 : m ≤ 12) (d0 : 0 ≤ d) (d1 : d ≤ 99999) (h0 : 0 ≤ h) (h1 : h ≤ 9999) (n0 : 0 ≤ n) (n1 : n ≤ 9999) (s0 : 0 ≤ sv) (s1 : sv ≤ 9999) (hsa : 60 < sv → (sa : Int) = pSecAt t) :
    Code.wp Tryd.prog (Flow.rest 34 Tryd.f22) (bodyPost Tryd.prog Tryd.f22 fun e w' => e = .returned (.tuple #[.int .i64 F.1, .int .i64 F.2.1, .int .i64 F.2.2]) ∧ Below w.heap.size w w') ⟨#[.string ⟨t.toArray⟩, v1, v2, v3, v4, .pointer (some ⟨w.heap.size, 0, none⟩), .int .i64 (pWd t), .pointer (some ⟨cb, 0, none⟩), .int .i64 sv, v9, .int .i64 (r1 t).p, .int .i64 (r5 t).p, .int .i64 (r7 t).p, .int .i64 (r9 t).p, .int .i64 sa, .int .i64 (pOff t), v16, v17, v18, v19, v20, v21, v22, v23, v24, v25, v26, v27, v28, v29, v30, v31, v32, v33, v34, v35, v36, v37, v38, v39, v40, v41, v42, v43, v44, v45, v46, v47, v48, v49, v50, v51, v52, v53, v54, v55, v56, v57, v58, v59, v60, v61, v62, v63, v64, v65, v66, v67, v68, v69, v70, v71, v72, v73, v74, v75, v76, v77, v78, v79, v80, v81, v82, v83, v84, v85, v86, v87, v88, v89, v90, v91, v92, v93, v94, v95, v96, v97, v98, v99, v100, v101, v102, v103, v104, v105, v106, v107, v108, v109, v110, v111, v112, v113, v114, v115, v116, v117, v118, v119, v120, v121, v122, v123, v124, v125, v126, v127, v128, v129, v130, v131, v132, v133, v134, v135, v136, v137, v138, v139, v140, v141, v142, v143, v144, v145, v146, v147, v148, v149, v150, v151, v152, v153, v154, v155, v156, v157, v158, v159, v160, v161, v162, v163, v164, v165, v166, v167, v168, v169, v170, v171, v172, v173, v174, v175, v176, v177, v178, v179, v180, v181, v182, v183, v184, v185, v186, v187, v188, v189, v190, v191, v192, v193, v194, v195, v196, v197, v198, v199, v200, v201, v202, v203, v204, v205, v206, v207, v208, v209, v210, v211, v212, v213, v214, v215, v216, v217, v218, v219, v220, v221, v222, v223, v224, v225, v226, v227, v228, v229, v230, v231, v232, v233, v234, v235, v236, v237, v238, v239, v240, v241, v242, v243, v244, v245, v246, v247, v248, v249, v250, v251, v252, v253, v254, v255, v256, v257, v258, v259, v260, v261, v262, v263, v264, v265, v266, v267, v268, v269, v270, v271, v272, v273, v274, v275, v276, v277, v278, v279, v280, v281, v282, v283, v284, v285, v286, v287, v288], []⟩ wx := by
  have cs := chain_spec (p := DP) (y := y) (m := m) (d := d) (h := h) (n := n) (v := sv) (p5 := (r5 t).p) (p1 := (r1 t).p) (p7 := (r7 t).p) (p9 := (r9 t).p) (pv := sa)
  generalize chain ⟨DP, 0⟩ y m d h n sv (r5 t).p (r1 t).p (r7 t).p (r9 t).p sa = S at *
  obtain ⟨SP, SE⟩ := S
  have hG := HF.out
  rw [parseF_eq, hr] at hG
  obtain ⟨⟨e1, e2, e3, e4, e5⟩, e6⟩ := hd
  rw [← e1, ← e2, ← e3, ← e4, ← e5, ← e6] at hG
  rcases cs with ⟨c0, yb, db, hb, nb, sb⟩ | ⟨c0, hC⟩
  · dsimp only at c0
    subst c0
    have ob : -840 ≤ pOff t ∧ pOff t ≤ 840 := by
      unfold pOff zoneOf
      split
      · split
        · omega
        · exact zoneV_bd _
      · omega
    refine refTail34b t w wx F cb y m d h n sv sa SP (pWd t) (pOff t) hl HF hx yb m0 m1 db h0 hb n0 nb (by omega) (by omega) ?_
    rw [← hG]
    have hL : pLoc t = dayNum y m d * 1440 + h * 60 + n := by unfold pLoc; rw [e1, e2, e3, e4, e5]
    rw [← hL]
    unfold parseG parseT
    rw [if_neg (by omega), if_neg (by simp), if_neg (by omega), if_neg (by omega), if_neg (by omega), if_neg (by omega), if_neg (by omega)]
  · exact refTail34a t w wx F cb y m d h n sv sa SP SE hl HF hx (by show _ = _; rw [← hG]; exact hC t.length DP (pSecAt t) (pWd t) (pLoc t) (pOff t) hl (fun q => (hsa q).symm)) c0

end Go.Proofs.YtpdncgfkoibacaaDoor

