/- The reference's Move. -/
import Derived.Test.YtcpennlojjlpaaaGreatDoorNyQ
import Derived.Test.YtcpennlojjlpaaaGreatDoorZh
import Derived.Stop.BytesEq
namespace Go.Nr
/-- The numbers of one article there, by the first articles here. -/
def pairIn (S : List Rg) (here : List N) (x : N) : List Int := (here.filter fun y => y.1 == x.1 && has S y.2).map fun _ => x.2
theorem pairIn_snoc {S : List Rg} {here : List N} {x y : N} {k : Nat} (h : here[k]? = some y) : pairIn S (here.take (k + 1)) x = pairIn S (here.take k) x ++ if (y.1 == x.1 && has S y.2) = true then [x.2] else [] := by
  obtain ⟨hl, hx⟩ := List.getElem?_eq_some_iff.1 h
  rw [List.take_succ_eq_append_getElem hl, hx]
  unfold pairIn
  rw [List.filter_append, List.map_append]
  cases hq : (y.1 == x.1 && has S y.2) <;> simp [hq]
theorem pairIn_length (S : List Rg) (here : List N) (x : N) : (pairIn S here x).length ≤ here.length := by
  unfold pairIn
  rw [List.length_map]; exact List.length_filter_le _ _
theorem pairsL_snoc {S : List Rg} {here there : List N} {k : Nat} {x : N} (h : there[k]? = some x) : pairsL S here (there.take (k + 1)) = pairsL S here (there.take k) ++ pairIn S here x := by
  obtain ⟨hl, hx⟩ := List.getElem?_eq_some_iff.1 h
  rw [List.take_succ_eq_append_getElem hl, hx]
  unfold pairsL
  rw [List.flatMap_append]; simp [pairIn]
theorem pairsL_length (S : List Rg) (here : List N) (hh : here.length ≤ 1000) : ∀ there : List N, (pairsL S here there).length ≤ there.length * 1000
  | [] => by simp [pairsL]
  | x :: r => by
    have ih := pairsL_length S here hh r
    have h1 := pairIn_length S here x
    have e : pairsL S here (x :: r) = pairIn S here x ++ pairsL S here r := rfl
    rw [e, List.length_append, List.length_cons]; omega
theorem pts_append (a b : List Int) : pts (a ++ b) = pts a ++ pts b := by simp [pts]
end Go.Nr
namespace Go.Proofs.YtcpennlojjlpaaaGreatDoor
open Go.RowKit Go.Nr Go.Gn

theorem RdN.cells {w : World} {A : Option Addr} {l : List N} (h : RdN w A l) (hok : OkN l) : RdC w A (flatN l) := fun hp => by
  have hl := flatN_length hok
  obtain ⟨b, o, e, _, hc⟩ := h (by omega)
  refine ⟨b, o, e, fun j u hj => ?_⟩
  have hjl := (List.getElem?_eq_some_iff.1 hj).1
  have hk : j / 33 < l.length := by omega
  have hx : l[j / 33]? = some l[j / 33] := List.getElem?_eq_getElem hk
  have h33 := cellsN_length (hok _ (List.mem_of_getElem? hx))
  have hv : (cellsN l[j / 33])[j % 33]? = some (cellsN l[j / 33])[j % 33] := List.getElem?_eq_getElem (by omega)
  have h1 := flatN_get hok hx hv
  rw [show j / 33 * 33 + j % 33 = j by omega, hj] at h1
  have h2 := hc _ _ hx _ _ hv
  rw [show o + j / 33 * 33 + j % 33 = o + j by omega] at h2
  rw [h2, h1]
theorem one_flatN (l : List N) : ∀ u ∈ flatN l, u.oneCell' = true := fun u hu => by
  obtain ⟨x, _, h⟩ := List.mem_flatMap.1 hu
  exact one_enB x u h
theorem RdN.of_own {w : World} {base c : Nat} {e : TypeId} {A : Option Addr} {l : List N} (h : w.ownsRow base e 33 (.slice A l.length c) l.length (flatN l)) (hok : OkN l) : RdN w A l := fun hp => by
  rcases h.2 with ⟨e1, e2⟩ | ⟨g, cap, cur, e1, hb, hg, hcap, hml, hsz, ht⟩
  · omega
  · injection e1 with a1 a2 a3
    subst a1
    refine ⟨g, 0, rfl, blk_lt hg, fun j x hj t v hv => ?_⟩
    have h1 := flatN_get hok hj hv
    rw [Nat.zero_add, blk_cell hg]
    rw [← ht, List.getElem?_take] at h1
    split at h1
    · simpa using h1
    · cases h1
section
variable {ops : Array Oper} {C : World → Prop} {a : Act} {o : Oper}
theorem quiet_eql {K : Act → Prop} (x y : Operand) (rt : TypeId) (ho : o.op = .binOp .eql 66 x y rt) (i j : List UInt8) (hx : a.eval x = .agg (i.map enB).toArray) (hy : a.eval y = .agg (j.map enB).toArray) (hi : i.length = 32) (hj : j.length = 32)
    (hk : K (a.put o.dst (.bool (i == j)))) : o.quiet Tryz.prog a C K :=
  ⟨_, fun w _ => by
    unfold Oper.quietAt execOp
    have h1 := run_eqGuard_agg (P := Tryz.prog) w .eql 66 x y (i.map enB).toArray (j.map enB).toArray (by kernel_rfl)
    have h2 := run_eql_bytes (P := Tryz.prog) w 66 5 32 Tryz.underlying66 Tryz.underlying5 (fun w => by kernel_rfl) i j hi hj
    simp only [ho, hx, hy, Sem.run_bind, h1, Result.andThen_ok]
    rw [show (binOp BinOp.eql 66 (Value.agg (i.map enB).toArray) (Value.agg (j.map enB).toArray)).run Tryz.prog w = .ok (.bool (i == j)) w from h2]
    exact ⟨rfl, rfl⟩, hk⟩
end
theorem nn_info : (Tryz.prog.info? 119).map (fun i => (i.zero, i.size, i.bytes)) = some (some (.agg ((List.replicate 32 (Value.int .u8 0)) ++ [i64 0]).toArray), 33, 40) := by kernel_rfl
/-- A set of the reference and a number of an error. -/
def GivesMv (w : World) (S : List Rg) (er : Int) (e : Ending) (w' : World) : Prop :=
  ∃ R c, e = .returned (.tuple #[.slice R S.length c, i64 er]) ∧ RdR w' R S ∧ Below w.heap.size w w'

set_option maxRecDepth 100000 in
set_option maxHeartbeats 16000000 in
theorem refMove_any (X : Option Addr) (x : Nat) (S : List Rg) (A : Option Addr) (a : Nat) (here : List N) (B : Option Addr) (b : Nat) (there : List N) (w : World)
    (hX : RdR w X S) (hl : S.length ≤ 1000000) (hA : RdN w A here) (hB : RdN w B there) (hokA : OkN here) (hokB : OkN there) (hlA : here.length ≤ 1000) (hlB : there.length ≤ 1000) :
    Calls Tryz.prog 34 #[.slice X S.length x, .slice A here.length a, .slice B there.length b] w (GivesMv w (moveS S here there) (moveE here there)) := by
  obtain ⟨i0, hi, hz0, hz1, hz2⟩ := info_parts nn_info
  obtain ⟨r0, hri, hrz0, hrz1, hrz2⟩ := info_parts rg_info
  obtain ⟨SE, hSE⟩ : ∃ n, moveE here there = n := ⟨_, rfl⟩
  obtain ⟨SS, hSS⟩ : ∃ n, moveS S here there = n := ⟨_, rfl⟩
  rw [hSE, hSS]
  have VE := Lib.hid hSE
  have VS := Lib.hid hSS
  have HOA := Lib.hid hokA
  have HOB := Lib.hid hokB
  have HA := Lib.hid hA
  have HB := Lib.hid hB
  have HX := Lib.hid hX
  clear hSE hSS hokA hokB hX hA hB
  go_enter Tryz.func34, Tryz.ntmps34
  go_wp2_with (at_builtin; refine wpList_appC Tryz.underlying46 hi hz0 hz1 hz2 rfl (by decide) _ rfl _ _ rfl w.heap.size _ 0 [] (own2_empty w w.heap.size 33 119 (Nat.le_refl _)) rfl A here.length a (flatN here) (flatN_length HOA.out) ((HA.out.below (below_new _ _)).cells HOA.out) rfl (one_flatN here) (by omega) (by decide) (by simp) ?_)
  intro v1 w2 hown2 hg2 hb2
  obtain ⟨A2, c2, rfl⟩ := own2_slice hown2
  have HO := Lib.hid hown2
  have HB2 := Lib.hid ((below_new w (.cells #[] 119)).trans hb2)
  have hsz2 : w.heap.size ≤ w2.heap.size := HB2.out.size
  clear hown2 hg2 hb2
  go_wp2_with (at_builtin; refine wpList_appC Tryz.underlying46 hi hz0 hz1 hz2 rfl (by decide) _ rfl _ _ rfl w.heap.size (.slice A2 here.length c2) here.length (flatN here) HO.out rfl B there.length b (flatN there) (flatN_length HOB.out) ((HB.out.below HB2.out).cells HOB.out) rfl (one_flatN there) (by omega) (by decide) hsz2 ?_)
  intro v3 w3 hown3 hg3 hb3
  obtain ⟨A3, c3, rfl⟩ := own2_slice hown3
  have HB3 := Lib.hid (HB2.out.trans hb3)
  rw [← flatN_append, ← List.length_append] at hown3
  obtain ⟨L, hL⟩ : ∃ q, here ++ there = q := ⟨_, rfl⟩
  have hll : here.length + there.length = L.length := by rw [← hL, List.length_append]
  rw [hL] at hown3
  rw [hll]
  have HL := Lib.hid hL
  have hln : L.length ≤ 2000 := by omega
  have HLO : Hid (OkN L) := by
    (show OkN L)
    rw [← HL.out]
    intro y hy
    rcases List.mem_append.1 hy with hy | hy
    · exact HOA.out y hy
    · exact HOB.out y hy
  have HRL := Lib.hid (RdN.of_own hown3 HLO.out)
  clear hown3 hg3 hb3 hL HO HB2 hsz2 hll
  go_wp2_with fail
  go_loopg [6, 7, 9] L.length (fun gg sv ev iv wr => ∃ k : Nat, k ≤ L.length ∧ L.length - k ≤ gg ∧ sv = .slice none 0 0 ∧ ev = .int .i64 0 ∧ iv = .int .i64 k ∧ Hid ((L.take k).all okN = true) ∧ w3 = wr)
  case atStart => exact ⟨0, by omega, by omega, rfl, rfl, rfl, by (show List.all _ _ = true); simp, rfl⟩
  case round =>
    obtain ⟨k, hk, hgk, rfl, rfl, rfl, OK1, rfl⟩ := hrel
    by_cases hlt : k < L.length
    · obtain ⟨g, o, y, rfl, hgl, hy, hcs⟩ := HRL.out.at_ hlt
      have h32 := HLO.out y (List.mem_of_getElem? hy)
      have hcn := range_no hcs h32
      have hat := allN_take hy
      rw [OK1.out] at hat
      have HAT := Lib.hid hat
      have HY := Lib.hid hy
      clear hat hy hcs
      have hnm : num y.2 = (decide (1 ≤ y.2) && decide (y.2 ≤ 1099511627776)) := by unfold num; rw [M_eq]
      have HNM := Lib.hid hnm
      clear hnm
      obtain ⟨n, hn2⟩ : ∃ q, y.2 = q := ⟨_, rfl⟩
      have HN2 := Lib.hid hn2
      rw [hn2] at hcn HAT HNM
      clear hn2
      have hkb : (0 : Int) ≤ (k : Int) := by omega
      by_cases h1 : n < 1
      · have hq : num n = false := by rw [HNM.out, decide_eq_false (by omega)]; rfl
        have hbad := allN_no HY.out (by rw [HN2.out]; exact hq)
        have hbad2 : (here.all okN && there.all okN) = false := by rw [← List.all_append, HL.out]; exact hbad
        have e1 : Hid (SE = 2) := by (show SE = 2); rw [← VE.out]; unfold moveE; rw [if_neg (by rw [hbad2]; exact Bool.false_ne_true)]
        have e2 : Hid (SS = []) := by (show SS = []); rw [← VS.out]; unfold moveS; rw [if_neg (by rw [hbad2]; exact Bool.false_ne_true)]
        clear hbad hbad2 hq
        go_wp2_with fail
        go_ret2
        rw [e2.out, e1.out]
        exact ⟨none, 0, rfl, RdR.nil, HB3.out⟩
      · by_cases h2 : 1099511627776 < n
        · have hq : num n = false := by rw [HNM.out, decide_eq_false (p := n ≤ 1099511627776) (by omega), Bool.and_false]
          have hbad := allN_no HY.out (by rw [HN2.out]; exact hq)
          have hbad2 : (here.all okN && there.all okN) = false := by rw [← List.all_append, HL.out]; exact hbad
          have e1 : Hid (SE = 2) := by (show SE = 2); rw [← VE.out]; unfold moveE; rw [if_neg (by rw [hbad2]; exact Bool.false_ne_true)]
          have e2 : Hid (SS = []) := by (show SS = []); rw [← VS.out]; unfold moveS; rw [if_neg (by rw [hbad2]; exact Bool.false_ne_true)]
          clear hbad hbad2 hq
          go_wp2_with fail
          go_ret2
          rw [e2.out, e1.out]
          exact ⟨none, 0, rfl, RdR.nil, HB3.out⟩
        · have hq : num n = true := by rw [HNM.out, decide_eq_true (p := 1 ≤ n) (by omega), decide_eq_true (by omega)]; rfl
          rw [hq] at HAT
          clear hq
          go_wp2_with fail
          go_roundg (L.length - (k + 1))
          case measure => omega
          case rel => exact ⟨k + 1, by omega, by omega, rfl, rfl, by go_num, HAT, rfl⟩
    · obtain rfl : k = L.length := by omega
      have hok := OK1.out
      rw [List.take_length, ← HL.out, List.all_append, Bool.and_eq_true] at hok
      obtain ⟨hokA, hokB⟩ := hok
      have e1 : Hid (SE = 0) := by (show SE = 0); rw [← VE.out]; unfold moveE; rw [hokA, hokB]; rfl
      have e2 : Hid (SS = moved S here there) := by (show SS = _); rw [← VS.out]; unfold moveS; rw [hokA, hokB]; rfl
      have HOKB := Lib.hid hokB
      clear hokA hokB HRL HLO HL OK1 hln
      go_wp2_with fail
      go_loopg [10, 11] there.length (fun gg ov iv wr => ∃ (i : Nat) (C : Option Addr) (d : Nat) (q : List Int), i ≤ there.length ∧ there.length - i ≤ gg ∧ iv = .int .i64 i ∧ ov = .slice C q.length d ∧ Hid (wr.ownsRow w.heap.size 37 2 (.slice C q.length d) q.length (flat (pts q))) ∧ Hid (q = pairsL S here (there.take i)) ∧ Below w.heap.size w wr)
      case atStart => exact ⟨0, none, 0, [], by omega, by omega, rfl, rfl, own2_nil _ _ _ _, rfl, HB3.out⟩
      case round =>
        obtain ⟨i, C, d, q, hii, hgi, rfl, rfl, O1, Q1, b1⟩ := hrel
        by_cases hlti : i < there.length
        · obtain ⟨g, o, y, hBe, hgl, hy, hcs⟩ := HB.out.at_ hlti
          subst hBe
          have h32 := HOB.out y (List.mem_of_getElem? hy)
          have hps := pairsL_snoc (S := S) (here := here) hy
          have hql := pairsL_length S here hlA (there.take i)
          have htl := List.length_take_le i there
          rw [← Q1.out] at hps hql
          have HPS := Lib.hid hps
          have HCS := Lib.hid hcs
          have hqb : q.length ≤ 1000000 - 1000 := by omega
          obtain ⟨p0, hp0⟩ : ∃ p : List Int, q = p := ⟨_, rfl⟩
          have QP : Hid (q = p0) := hp0
          clear hps hy hql htl Q1 hcs hp0
          go_wp2_with fail
          go_loopg [10, 12] here.length (fun gg ov kv wq => ∃ (k : Nat) (C : Option Addr) (d : Nat) (q : List Int), k ≤ here.length ∧ here.length - k ≤ gg ∧ kv = .int .i64 k ∧ ov = .slice C q.length d ∧ Hid (wq.ownsRow w.heap.size 37 2 (.slice C q.length d) q.length (flat (pts q))) ∧ Hid (q = p0 ++ pairIn S (here.take k) y) ∧ Below w.heap.size w wq)
          case atStart => exact ⟨0, C, d, q, by omega, by omega, rfl, rfl, O1, by (show q = _); rw [QP.out]; simp [pairIn], b1⟩
          case round =>
            obtain ⟨k, C2, d2, q2, hk, hgk, rfl, rfl, O2, Q2, b2⟩ := hrel
            by_cases hltk : k < here.length
            · obtain ⟨g2, o2, z, hAe, hgl2, hz, hcs2⟩ := HA.out.at_ hltk
              subst hAe
              have z32 := HOA.out z (List.mem_of_getElem? hz)
              have hpi := pairIn_snoc (S := S) (x := y) hz
              have hpl := pairIn_length S (here.take k) y
              have htl := List.length_take_le k here
              have hq2 := congrArg List.length Q2.out
              rw [List.length_append] at hq2
              have hpq := congrArg List.length QP.out
              have hqb2 : q2.length ≤ 1000000 := by omega
              have HPI := Lib.hid hpi
              have HCS2 := Lib.hid hcs2
              clear hpi hpl htl hq2 hpq hz hcs2
              go_wp2_with fail
              cases hzy : (z.1 == y.1) with
              | false =>
              refine Flow.wp_region_segs Flow.Later Flow.Later.refl Flow.Later.trans [([0, 1, 2, 3, 4, 5, 6, 7, 8, 9, 10, 11, 12, 13, 14, 15, 16, 17], 18)] [19] (by kernel_rfl) (by kernel_rfl) ?_
              have BD := Lib.hid b2.drew
              have OD := Lib.hid (own_below O2.out (Below.refl _ _).drew)
              clear O2 b2
              generalize hwd : World.drew wr = wd at *
              clear hwd
              have hz14 := range_below HCS2.out BD.out
              have hy14 := range_below HCS.out BD.out
              have HZ : Hid (∀ t : World, (∃ s : Flow.Cls (Flow.Later wd), t = s.val) → t.rangeAt g2 (o2 + k * 33) (z.1.map enB)) := by
                (show ∀ t : World, (∃ s : Flow.Cls (Flow.Later wd), t = s.val) → t.rangeAt g2 (o2 + k * 33) (z.1.map enB))
                rintro t ⟨s, rfl⟩
                exact fun j v hv => Flow.cls_cell (range_id hz14 j v hv) s
              have HY : Hid (∀ t : World, (∃ s : Flow.Cls (Flow.Later wd), t = s.val) → t.rangeAt g (o + i * 33) (y.1.map enB)) := by
                (show ∀ t : World, (∃ s : Flow.Cls (Flow.Later wd), t = s.val) → t.rangeAt g (o + i * 33) (y.1.map enB))
                rintro t ⟨s, rfl⟩
                exact fun j v hv => Flow.cls_cell (range_id hy14 j v hv) s
              have hzn := range_no hz14 z32
              have qz : ∀ t : Flow.Cls (Flow.Later wd), t.val.cell? ⟨g2, o2 + k * 33 + 32, none⟩ = some (i64 z.2) := Flow.cls_cell hzn
              clear hz14 hy14 hzn
              haveI nonE := Flow.cls_nonempty wd
              rw [Flow.wpSegs_cons]
              simp only [Flow.pick, List.getElem?_toArray, List.getElem?_cons_succ, List.getElem?_cons_zero]
              iterate 4 go_big_quiet_step (fail)
              refine BigFrame.wpQuiet_want rfl (fun K hK => quiet_load_mid 66 _ rfl g2 (o2 + k * 33) rfl (z.1.map enB) _ HZ.out Tryz.underlying66 rfl (by rw [List.length_map, z32]; kernel_rfl) (hK _ ?_))
              clear hK K
              simp only [Act.put, List.setIfInBounds_toArray, List.set_cons_succ, List.set_cons_zero]
              iterate 4 go_big_quiet_step (fail)
              refine BigFrame.wpQuiet_want rfl (fun K hK => quiet_load_mid 66 _ rfl g (o + i * 33) rfl (y.1.map enB) _ HY.out Tryz.underlying66 rfl (by rw [List.length_map, h32]; kernel_rfl) (hK _ ?_))
              clear hK K
              simp only [Act.put, List.setIfInBounds_toArray, List.set_cons_succ, List.set_cons_zero]
              refine BigFrame.wpQuiet_want rfl (fun K hK => quiet_eql _ _ _ rfl z.1 y.1 rfl rfl z32 h32 (hK _ ?_))
              clear hK K
              simp only [Act.put, List.setIfInBounds_toArray, List.set_cons_succ, List.set_cons_zero]
              rw [hzy]
              repeat go_big_quiet_step (fail)
              refine wpQuiet_nil ?_
              clear nonE qz HZ HY
              rw [Flow.callAt_eq]
              simp only [List.getElem?_toArray, List.getElem?_cons_succ, List.getElem?_cons_zero]
              rw [if_neg (by exact Bool.false_ne_true)]
              simp only [Act.put, List.setIfInBounds_toArray, List.set_cons_succ, List.set_cons_zero]
              haveI nonE := Flow.cls_nonempty wd
              rw [Flow.wpSegs_nil]
              simp only [Flow.pick, List.getElem?_toArray, List.getElem?_cons_succ, List.getElem?_cons_zero]
              repeat go_big_quiet_step (fail)
              refine wpQuiet_nil ?_
              clear nonE
              rw [if_neg (by rw [hzy]; exact Bool.false_ne_true), List.append_nil] at HPI
              go_wp2_with fail
              go_roundg (here.length - (k + 1))
              case measure => omega
              case rel => exact ⟨k + 1, C2, d2, q2, by omega, by omega, by go_num, rfl, OD, by rw [HPI.out]; exact Q2, BD.out⟩
              | true =>
                cases hhz : has S z.2 with
                | false =>
                refine Flow.wp_region_segs Flow.Later Flow.Later.refl Flow.Later.trans [([0, 1, 2, 3, 4, 5, 6, 7, 8, 9, 10, 11, 12, 13, 14, 15, 16, 17], 18)] [19] (by kernel_rfl) (by kernel_rfl) ?_
                have BD := Lib.hid b2.drew
                have OD := Lib.hid (own_below O2.out (Below.refl _ _).drew)
                clear O2 b2
                generalize hwd : World.drew wr = wd at *
                clear hwd
                have hz14 := range_below HCS2.out BD.out
                have hy14 := range_below HCS.out BD.out
                have HZ : Hid (∀ t : World, (∃ s : Flow.Cls (Flow.Later wd), t = s.val) → t.rangeAt g2 (o2 + k * 33) (z.1.map enB)) := by
                  (show ∀ t : World, (∃ s : Flow.Cls (Flow.Later wd), t = s.val) → t.rangeAt g2 (o2 + k * 33) (z.1.map enB))
                  rintro t ⟨s, rfl⟩
                  exact fun j v hv => Flow.cls_cell (range_id hz14 j v hv) s
                have HY : Hid (∀ t : World, (∃ s : Flow.Cls (Flow.Later wd), t = s.val) → t.rangeAt g (o + i * 33) (y.1.map enB)) := by
                  (show ∀ t : World, (∃ s : Flow.Cls (Flow.Later wd), t = s.val) → t.rangeAt g (o + i * 33) (y.1.map enB))
                  rintro t ⟨s, rfl⟩
                  exact fun j v hv => Flow.cls_cell (range_id hy14 j v hv) s
                have hzn := range_no hz14 z32
                have qz : ∀ t : Flow.Cls (Flow.Later wd), t.val.cell? ⟨g2, o2 + k * 33 + 32, none⟩ = some (i64 z.2) := Flow.cls_cell hzn
                clear hz14 hy14 hzn
                haveI nonE := Flow.cls_nonempty wd
                rw [Flow.wpSegs_cons]
                simp only [Flow.pick, List.getElem?_toArray, List.getElem?_cons_succ, List.getElem?_cons_zero]
                iterate 4 go_big_quiet_step (fail)
                refine BigFrame.wpQuiet_want rfl (fun K hK => quiet_load_mid 66 _ rfl g2 (o2 + k * 33) rfl (z.1.map enB) _ HZ.out Tryz.underlying66 rfl (by rw [List.length_map, z32]; kernel_rfl) (hK _ ?_))
                clear hK K
                simp only [Act.put, List.setIfInBounds_toArray, List.set_cons_succ, List.set_cons_zero]
                iterate 4 go_big_quiet_step (fail)
                refine BigFrame.wpQuiet_want rfl (fun K hK => quiet_load_mid 66 _ rfl g (o + i * 33) rfl (y.1.map enB) _ HY.out Tryz.underlying66 rfl (by rw [List.length_map, h32]; kernel_rfl) (hK _ ?_))
                clear hK K
                simp only [Act.put, List.setIfInBounds_toArray, List.set_cons_succ, List.set_cons_zero]
                refine BigFrame.wpQuiet_want rfl (fun K hK => quiet_eql _ _ _ rfl z.1 y.1 rfl rfl z32 h32 (hK _ ?_))
                clear hK K
                simp only [Act.put, List.setIfInBounds_toArray, List.set_cons_succ, List.set_cons_zero]
                rw [hzy]
                repeat go_big_quiet_step (fail)
                refine wpQuiet_nil ?_
                clear nonE qz HZ HY
                rw [Flow.callAt_eq]
                simp only [List.getElem?_toArray, List.getElem?_cons_succ, List.getElem?_cons_zero]
                rw [if_pos (by rfl)]
                refine Flow.wp_behind (fun K0 hK => ?_)
                have hhs := refHas_any X x S z.2 wd (HX.out.below BD.out) hl
                rw [hhz] at hhs
                go_wp2_with fail
                refine hhs.mono ?_; rintro e w4 ⟨rfl, rfl⟩
                refine hK.out _ _ ⟨Below.refl _ _, ?_⟩
                clear hK K0 hhs
                haveI nonE := Flow.cls_nonempty wd
                rw [Flow.wpSegs_nil]
                simp only [Flow.pick, List.getElem?_toArray, List.getElem?_cons_succ, List.getElem?_cons_zero]
                repeat go_big_quiet_step (fail)
                refine wpQuiet_nil ?_
                clear nonE
                rw [if_neg (by rw [hzy, hhz]; exact Bool.false_ne_true), List.append_nil] at HPI
                go_wp2_with fail
                go_roundg (here.length - (k + 1))
                case measure => omega
                case rel => exact ⟨k + 1, C2, d2, q2, by omega, by omega, by go_num, rfl, OD, by rw [HPI.out]; exact Q2, BD.out⟩
                | true =>
                refine Flow.wp_region_segs Flow.Later Flow.Later.refl Flow.Later.trans [([0, 1, 2, 3, 4, 5, 6, 7, 8, 9, 10, 11, 12, 13, 14, 15, 16, 17], 18)] [19] (by kernel_rfl) (by kernel_rfl) ?_
                have BD := Lib.hid b2.drew
                have OD := Lib.hid (own_below O2.out (Below.refl _ _).drew)
                clear O2 b2
                generalize hwd : World.drew wr = wd at *
                clear hwd
                have hz14 := range_below HCS2.out BD.out
                have hy14 := range_below HCS.out BD.out
                have HZ : Hid (∀ t : World, (∃ s : Flow.Cls (Flow.Later wd), t = s.val) → t.rangeAt g2 (o2 + k * 33) (z.1.map enB)) := by
                  (show ∀ t : World, (∃ s : Flow.Cls (Flow.Later wd), t = s.val) → t.rangeAt g2 (o2 + k * 33) (z.1.map enB))
                  rintro t ⟨s, rfl⟩
                  exact fun j v hv => Flow.cls_cell (range_id hz14 j v hv) s
                have HY : Hid (∀ t : World, (∃ s : Flow.Cls (Flow.Later wd), t = s.val) → t.rangeAt g (o + i * 33) (y.1.map enB)) := by
                  (show ∀ t : World, (∃ s : Flow.Cls (Flow.Later wd), t = s.val) → t.rangeAt g (o + i * 33) (y.1.map enB))
                  rintro t ⟨s, rfl⟩
                  exact fun j v hv => Flow.cls_cell (range_id hy14 j v hv) s
                have hzn := range_no hz14 z32
                have qz : ∀ t : Flow.Cls (Flow.Later wd), t.val.cell? ⟨g2, o2 + k * 33 + 32, none⟩ = some (i64 z.2) := Flow.cls_cell hzn
                clear hz14 hy14 hzn
                haveI nonE := Flow.cls_nonempty wd
                rw [Flow.wpSegs_cons]
                simp only [Flow.pick, List.getElem?_toArray, List.getElem?_cons_succ, List.getElem?_cons_zero]
                iterate 4 go_big_quiet_step (fail)
                refine BigFrame.wpQuiet_want rfl (fun K hK => quiet_load_mid 66 _ rfl g2 (o2 + k * 33) rfl (z.1.map enB) _ HZ.out Tryz.underlying66 rfl (by rw [List.length_map, z32]; kernel_rfl) (hK _ ?_))
                clear hK K
                simp only [Act.put, List.setIfInBounds_toArray, List.set_cons_succ, List.set_cons_zero]
                iterate 4 go_big_quiet_step (fail)
                refine BigFrame.wpQuiet_want rfl (fun K hK => quiet_load_mid 66 _ rfl g (o + i * 33) rfl (y.1.map enB) _ HY.out Tryz.underlying66 rfl (by rw [List.length_map, h32]; kernel_rfl) (hK _ ?_))
                clear hK K
                simp only [Act.put, List.setIfInBounds_toArray, List.set_cons_succ, List.set_cons_zero]
                refine BigFrame.wpQuiet_want rfl (fun K hK => quiet_eql _ _ _ rfl z.1 y.1 rfl rfl z32 h32 (hK _ ?_))
                clear hK K
                simp only [Act.put, List.setIfInBounds_toArray, List.set_cons_succ, List.set_cons_zero]
                rw [hzy]
                repeat go_big_quiet_step (fail)
                refine wpQuiet_nil ?_
                clear nonE qz HZ HY
                rw [Flow.callAt_eq]
                simp only [List.getElem?_toArray, List.getElem?_cons_succ, List.getElem?_cons_zero]
                rw [if_pos (by rfl)]
                refine Flow.wp_behind (fun K0 hK => ?_)
                have hhs := refHas_any X x S z.2 wd (HX.out.below BD.out) hl
                rw [hhz] at hhs
                go_wp2_with fail
                refine hhs.mono ?_; rintro e w4 ⟨rfl, rfl⟩
                refine hK.out _ _ ⟨Below.refl _ _, ?_⟩
                clear hK K0 hhs
                haveI nonE := Flow.cls_nonempty wd
                rw [Flow.wpSegs_nil]
                simp only [Flow.pick, List.getElem?_toArray, List.getElem?_cons_succ, List.getElem?_cons_zero]
                repeat go_big_quiet_step (fail)
                refine wpQuiet_nil ?_
                clear nonE
                rw [if_pos (by rw [hzy, hhz]; rfl)] at HPI
                clear hzy hhz
                go_wp2_with fail
                refine Flow.wp_region_segs (fun u v => Below w.heap.size u v) (fun _ => Below.refl _ _) (fun u v x h k => Below.trans h k) [([0, 1, 2, 3, 4, 5, 6, 7, 8, 9, 10, 11], 12), ([], 13)] [14] (by kernel_rfl) (by kernel_rfl) ?_
                have BE := Lib.hid BD.out.drew
                have OE := Lib.hid (own_below OD.out (Below.refl _ _).drew)
                clear BD OD
                generalize hwd : World.drew wd = we at *
                clear hwd
                have hyn := range_no HCS.out h32
                have hsze := BE.out.size
                have qy : ∀ t : Flow.Cls (fun v => Below w.heap.size we v), t.val.cell? ⟨g, o + i * 33 + 32, none⟩ = some (i64 y.2) := fun t => Below.cellv (BE.out.trans t.ok) hyn
                clear hyn
                haveI nonE : Nonempty (Flow.Cls (fun v => Below w.heap.size we v)) := ⟨⟨we, Below.refl _ _⟩⟩
                rw [Flow.wpSegs_cons]
                simp only [Flow.pick, List.getElem?_toArray, List.getElem?_cons_succ, List.getElem?_cons_zero]
                repeat go_big_quiet_step (fail)
                refine wpQuiet_nil ?_
                clear nonE qy
                rw [Flow.callAt_eq]
                simp only [List.getElem?_toArray, List.getElem?_cons_succ, List.getElem?_cons_zero]
                rw [if_pos (by rfl)]
                refine Flow.wp_behind (fun K hK => ?_)
                go_wp2_with fail
                refine hK.out _ _ ⟨(Below.refl _ _).alloc hsze _, ?_⟩
                clear hK K
                rw [Flow.wpSegs_cons]
                simp only [Flow.pick]
                refine wpQuiet_nil ?_
                rw [Flow.callAt_eq]
                simp only [List.getElem?_toArray, List.getElem?_cons_succ, List.getElem?_cons_zero]
                rw [if_pos (by rfl)]
                refine Flow.wp_behind (fun K hK => ?_)
                refine wp_append_own _ _ _ 22 rfl w.heap.size 37 r0 (.agg #[i64 0, i64 0]) 2 16 Tryz.underlying22 hri hrz0 hrz1 hrz2 rfl (by decide) (.slice C2 q2.length d2) q2.length (flat (pts q2)) rfl (own_below OE.out (below_new _ _)) ⟨we.heap.size, 0, none⟩ 1 1 [i64 y.2, i64 y.2] rfl rfl ?c1 ?c2 ?c3 ?c4 ?c5 ?_
                case c1 =>
                  intro j u hj
                  rw [addr_addN, new_cell _ _ _ _ _ rfl]
                  simpa using hj
                case c2 => intro u hu; simp at hu; rw [hu]; rfl
                case c3 => unfold maxLen; omega
                case c4 => omega
                case c5 => simp; omega
                intro v' w5 hown5 hg5 _
                obtain ⟨A6, c6, rfl⟩ := own2_slice hown5
                have b5 := own_grown_below (own_below OE.out (below_new _ (.cells #[i64 y.2, i64 y.2] 37))) (by simp; omega) hg5
                rw [show flat (pts q2) ++ [i64 y.2, i64 y.2] = flat (pts (q2 ++ [y.2])) by rw [pts_append, flat_append]; rfl, show q2.length + 1 = (q2 ++ [y.2]).length by simp] at hown5
                refine hK.out _ _ ⟨b5, ?_⟩
                clear hK K
                have HO5 := Lib.hid hown5
                have HB5 := Lib.hid ((BE.out.alloc hsze (.cells #[i64 y.2, i64 y.2] 37)).trans b5)
                clear hown5 hg5 b5
                haveI nonE : Nonempty (Flow.Cls (fun v => Below w.heap.size w5 v)) := ⟨⟨w5, Below.refl _ _⟩⟩
                simp only [Act.put, List.setIfInBounds_toArray, List.set_cons_succ, List.set_cons_zero]
                rw [Flow.wpSegs_nil]
                simp only [Flow.pick, List.getElem?_toArray, List.getElem?_cons_succ, List.getElem?_cons_zero]
                repeat go_big_quiet_step (fail)
                refine wpQuiet_nil ?_
                clear nonE
                go_wp2_with fail
                go_roundg (here.length - (k + 1))
                case measure => omega
                case rel =>
                  refine ⟨k + 1, A6, c6, q2 ++ [y.2], by omega, by omega, by go_num, ?_, HO5, by (show _ = _); rw [HPI.out, Q2.out, List.append_assoc], HB5.out⟩
                  rw [List.length_append]; rfl
            · obtain rfl : k = here.length := by omega
              have hq2 := Q2.out
              rw [List.take_length, ← QP.out] at hq2
              go_wp2_with fail
              go_roundg (there.length - (i + 1))
              case measure => omega
              case rel => exact ⟨i + 1, C2, d2, q2, by omega, by omega, by go_num, rfl, O2, by rw [HPS.out]; exact Lib.hid hq2, b2⟩
        · obtain rfl : i = there.length := by omega
          have hq := Q1.out
          rw [List.take_length] at hq
          have hql := pairsL_length S here hlA there
          rw [← hq] at hql
          have hnm : norm (pts q) = moved S here there := by rw [hq]; exact pairs_moved S here there
          have hnl : (moved S here there).length ≤ 1000 := by
            have h1 := norm_length (pts (movedL S here there))
            have h2 := movedL_length S here there
            rw [pts_length] at h1
            have h3 : moved S here there = norm (pts (movedL S here there)) := rfl
            rw [h3]; omega
          have hno := refNormal_any C d (pts q) wr (by have := (RdR.of_own (n := q.length) (l := pts q) O1.out).1; exact this) (by rw [pts_length]; omega) (by
            intro r hr
            obtain ⟨n, hn, rfl⟩ := List.mem_map.1 hr
            rw [hq, pairs_mem] at hn
            obtain ⟨x1, hx1, rfl⟩ := List.mem_map.1 hn
            have h4 := (List.all_eq_true.1 HOKB.out) x1 (List.mem_filter.1 hx1).1
            unfold okN num at h4
            simp only [Bool.and_eq_true, decide_eq_true_eq] at h4
            exact ⟨by simp only; omega, h4.2⟩)
          rw [hnm, pts_length] at hno
          clear hnm hq hql
          go_wp2_with fail
          refine hno.mono ?_; rintro e w5 ⟨R5, c5, rfl, ho5, b5⟩
          clear hno
          have hr5 := (RdR.of_own ho5).1
          have hlm := refLimited_any R5 (moved S here there).length c5 w5 (by omega)
          have HR5 := Lib.hid hr5
          clear ho5 hr5
          go_wp2_with fail
          refine hlm.mono ?_; rintro e w6 ⟨rfl, rfl⟩
          clear hlm
          go_wp2_with fail
          go_ret2
          rw [e2.out, e1.out]
          exact ⟨R5, c5, rfl, HR5.out, b1.tr b5⟩
end Go.Proofs.YtcpennlojjlpaaaGreatDoor
