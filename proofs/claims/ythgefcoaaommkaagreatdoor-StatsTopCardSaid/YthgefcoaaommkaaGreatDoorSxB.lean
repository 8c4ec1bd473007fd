/- Contract: the model's Top. -/
import Derived.Test.YthgefcoaaommkaaGreatDoorSxA
import Derived.Test.YthgefcoaaommkaaGreatDoorZi
import Derived.Test.YthgefcoaaommkaaGreatDoorZf
import Derived.Deep.DeepCutAuto
import Derived.Deep.CutBlock
namespace Go.Proofs.YthgefcoaaommkaaGreatDoor
open Go.RowKit Go.Gn Go.Sr Go.Maps

theorem ofM_name2 (ms : List EvM) (k : Int) (n : List UInt8) (a b : Int) (hn : n ≠ []) : ofM k n a b ms = cntM (ms.map (·.e)) k n a b := by
  unfold ofM cntM
  rw [List.filter_congr fun e _ => ?_]
  unfold pickE
  rw [decide_eq_false hn, Bool.false_or, Bool.and_comm, Bool.and_assoc]
theorem namesM_each2 {ms : List EvM} (hg : ∀ m ∈ ms, GoodE m.e) (ha : ∀ m ∈ ms, m.e.author.length = 16) {k a b : Int} (hk : 1 ≤ k ∧ k ≤ 3) {n : List UInt8} (h : n ∈ namesM (ms.map (·.e)) k a b) : n ≠ [] := by
  obtain ⟨e, he, _, hn⟩ := (mem_namesM ..).1 h
  obtain ⟨m, hm, rfl⟩ := List.mem_map.1 he
  intro e
  subst e
  have h1 := hasE_nil (k := k) (hg m hm) (ha m hm)
  unfold hasE at h1
  rw [decide_eq_true hk, decide_eq_true hn] at h1
  cases h1
theorem ent_take : ∀ (q : Nat) (l : List Ent1), (l.flatMap entL).take (q * 3) = (l.take q).flatMap entL
  | 0, l => by simp
  | q + 1, [] => by simp
  | q + 1, x :: l => by
    rw [Nat.succ_mul]
    show enS x.1 :: i64 x.2.1 :: i64 x.2.2 :: ((l.flatMap entL).take (q * 3)) = enS x.1 :: i64 x.2.1 :: i64 x.2.2 :: ((l.take q).flatMap entL)
    rw [ent_take q l]
theorem ent_drop : ∀ (q : Nat) (l : List Ent1), (l.flatMap entL).drop (q * 3) = (l.drop q).flatMap entL
  | 0, l => by simp
  | q + 1, [] => by simp
  | q + 1, x :: l => by
    rw [Nat.succ_mul]
    show (l.flatMap entL).drop (q * 3) = (l.drop q).flatMap entL
    rw [ent_drop q l]
theorem ent_len : ∀ (l : List Ent1), (l.flatMap entL).length = l.length * 3
  | [] => rfl
  | x :: l => by
    rw [List.flatMap_cons, List.length_append, ent_len l, entL_length, List.length_cons]; omega
theorem one_ents (l : List Ent1) : ∀ u ∈ l.flatMap entL, u.oneCell' = true := fun u hu => by
  obtain ⟨x, _, hx⟩ := List.mem_flatMap.1 hu
  exact one_entL x u hx
theorem inc_nd2 {α : Type} {c : α → α → Int} (h : Lin c) {l : List α} (hi : Inc c l) : l.Nodup := hi.imp fun {a b} hab e => by
  subst e
  rw [h.self] at hab
  omega
/-- The entries of the names so far. -/
def entO (kind x y : Int) (ms : List EvM) (n : List UInt8) : Ent1 := (n, ofM kind n x y ms)
def topT (f : List UInt8 → Ent1) (N : List (List UInt8)) (k : Nat) : List Ent1 := insAll ecmp ((N.take k).map f)
theorem topT_succ {f : List UInt8 → Ent1} (hf : ∀ n, (f n).1 = n) {N : List (List UInt8)} (hn : N.Nodup) {k : Nat} {n : List UInt8} (h : N[k]? = some n) :
    topT f N (k + 1) = (topT f N k).take (insAt ecmp (f n) (topT f N k)) ++ f n :: (topT f N k).drop (insAt ecmp (f n) (topT f N k)) := by
  have e : topT f N (k + 1) = ins ecmp (f n) (topT f N k) := by
    unfold topT
    rw [take_snoc h, List.map_append, List.map_singleton, insAll_snoc]
  have hI : Inc ecmp (topT f N k) := insAll_inc ecmp_lin _
  rw [e, ins_mem_at ecmp_lin _ hI, if_neg]
  intro hm
  obtain ⟨m, hm1, hm2⟩ := List.mem_map.1 ((mem_insAll ecmp_lin _ _).1 hm)
  have hmn : m = n := by rw [← hf m, ← hf n, hm2]
  subst hmn
  obtain ⟨i, hi⟩ := List.getElem?_of_mem hm1
  have hik : i < k := by
    have := (List.getElem?_eq_some_iff.1 hi).1
    rw [List.length_take] at this
    omega
  rw [List.getElem?_take_of_lt hik] at hi
  have h1 := List.getElem?_eq_some_iff.1 hi
  have h2 := List.getElem?_eq_some_iff.1 h
  have := (List.getElem_inj hn (h₀ := h1.1) (h₁ := h2.1)).1 (h1.2.trans h2.2.symm)
  omega
theorem topT_len (f : List UInt8 → Ent1) (N : List (List UInt8)) (k : Nat) : (topT f N k).length ≤ N.length := by
  unfold topT
  have := insAll_length ecmp ((N.take k).map f)
  rw [List.length_map, List.length_take] at this
  omega
theorem cell_lt2 {w : World} {p : Addr} {v : Value} (h : w.cell? p = some v) : p.block < w.heap.size := by
  rcases Nat.lt_or_ge p.block w.heap.size with h' | h'
  · exact h'
  · simp [World.cell?, Array.getElem?_eq_none h'] at h
theorem cls_nec {N : Nat} {w : World} {p : Addr} {v : Value} (h : w.cell? p = some v) (hp : p.block < N) (t : Flow.Cls (Below N w)) : t.val.cell? p = some v := by
  rw [World.cell?_of_block (w := w) (t.2.block _ hp)]; exact h
theorem ent_info : ∃ i, Tryz.prog.info? 36 = some i ∧ i.zero = some (.agg #[.string ByteArray.empty, i64 0, i64 0]) ∧ i.size = 3 ∧ i.bytes = 32 := by
  have h : ((Tryz.prog.info? 36).map fun i => (i.zero, i.size, i.bytes)) = some (some (.agg #[.string ByteArray.empty, i64 0, i64 0]), 3, 32) := by kernel_rfl
  cases hi : Tryz.prog.info? 36 with
  | none => rw [hi] at h; cases h
  | some i =>
    rw [hi] at h
    simp only [Option.map_some, Option.some.injEq, Prod.mk.injEq] at h
    exact ⟨i, rfl, h.1, h.2.1, h.2.2⟩
theorem entL_arr (n : List UInt8) (a b : Int) : (entL (n, a, b)).toArray = #[enS n, i64 a, i64 b] := rfl
theorem RdC.pre {w : World} {A : Option Addr} {xs : List Value} (h : RdC w A xs) (k : Nat) : RdC w A (xs.take k) := fun hl => by
  obtain ⟨b, o, e, hc⟩ := h (by rw [List.length_take] at hl; omega)
  refine ⟨b, o, e, fun j u hj => hc j u ?_⟩
  rw [List.getElem?_take] at hj
  split at hj
  · exact hj
  · cases hj
theorem alloc_two {N : Nat} {x : World} (o o' : Obj) (h : N ≤ x.heap.size) : Below N (x.alloc o) (x.alloc o') :=
  have b := (Below.refl N x).alloc h o
  have b' := (Below.refl N x).alloc h o'
  { os := rfl, tape := rfl, output := rfl, size := by simp, block := fun k hk => by rw [b'.block k hk, b.block k hk] }
theorem quiet_build2 {P : Program} {C : World → Prop} {K : Act → Prop} {a : Act} {o : Oper} (t : TypeId) (x0 x1 : Operand) (ho : o.op = .build t #[(0, x0), (1, x1)]) (v0 v1 : Value) (h0 : a.eval x0 = v0) (h1 : a.eval x1 = v1) (cells : Array Value) (hb : P.built t [(0, v0), (1, v1)] = some cells) (hk : K (a.put o.dst (.agg cells))) : o.quiet P a C K :=
  quiet_build t _ ho cells (by simpa [h0, h1] using hb) hk
theorem ent_built (n : List UInt8) (a b : Int) : Tryz.prog.built 36 [(0, enS n), (1, .agg #[i64 a, i64 b])] = some #[enS n, i64 a, i64 b] := by kernel_rfl

set_option maxRecDepth 100000 in
set_option maxHeartbeats 8000000 in
theorem mTop_any (A : Option Addr) (c : Nat) (ms : List EvM) (kind x y most : Int) (w : World) (h : RdE w A ms) (hg : ∀ m ∈ ms, GoodE m.e) (hlc : ms.length ≤ c) (hc : c ≤ maxLen) (hlen : ms.length ≤ 1000) (hmost : 0 ≤ most) (hk : 1 ≤ kind ∧ kind ≤ 3) :
    Calls Tryz.prog 13 #[.slice A ms.length c, i64 kind, i64 x, i64 y, i64 most] w fun e w' => ∃ A' c', e = .returned (.slice A' (min most.toNat (topM (ms.map (·.e)) kind x y).length) c') ∧ min most.toNat (topM (ms.map (·.e)) kind x y).length ≤ c' ∧ c' ≤ maxLen ∧ RdC w' A' (((topM (ms.map (·.e)) kind x y).take most.toNat).flatMap entL) ∧ Below w.heap.size w w' := by
  have HAU := Lib.hid (fun m hm => (h.good m hm).au)
  have H := Lib.hid h
  have HG := Lib.hid hg
  have HALL := Lib.hid (mAll_any A c ms kind x y w h hg hlc hc hlen)
  have HOF := Lib.hid (fun n W (hb : Below w.heap.size w W) => mOf_any A c ms kind n x y W (h.below hb) hg hlc hc hlen)
  have HTOP : Hid (topM (ms.map (·.e)) kind x y = topT (entO kind x y ms) (namesM (ms.map (·.e)) kind x y) (namesM (ms.map (·.e)) kind x y).length) := Lib.hid (by
    (show topM (ms.map (·.e)) kind x y = topT (entO kind x y ms) (namesM (ms.map (·.e)) kind x y) (namesM (ms.map (·.e)) kind x y).length)
    unfold topM topT entO
    rw [List.take_length]
    congr 1
    refine List.map_congr_left fun n hn => ?_
    rw [ofM_name2 _ _ _ _ _ (namesM_each2 HG.out HAU.out hk hn)])
  have hnl : (namesM (ms.map (·.e)) kind x y).length ≤ 50000 := by
    have h1 := namesK_len (l := ms.map (·.e)) kind x y fun e he => by
      obtain ⟨m, hm, rfl⟩ := List.mem_map.1 he
      exact hg m hm
    have h2 := insAll_length scmp (namesK (ms.map (·.e)) kind x y)
    rw [List.length_map] at h1
    unfold namesM
    omega
  have hnd : (namesM (ms.map (·.e)) kind x y).Nodup := inc_nd2 scmp_lin (insAll_inc scmp_lin _)
  obtain ⟨N, hN⟩ : ∃ q, namesM (ms.map (·.e)) kind x y = q := ⟨_, rfl⟩
  rw [hN] at HTOP hnl hnd HALL
  obtain ⟨f, hf⟩ : ∃ q, entO kind x y ms = q := ⟨_, rfl⟩
  have HFE := Lib.hid (show ∀ n, f n = (n, ofM kind n x y ms) by rw [← hf]; exact fun n => rfl)
  rw [hf] at HTOP
  have hf1 : ∀ n, (f n).1 = n := fun n => by rw [HFE.out]
  have HSU := Lib.hid (fun (k : Nat) (n : List UInt8) (hk : N[k]? = some n) => topT_succ hf1 hnd hk)
  have HTL := Lib.hid (topT_len f N)
  have HT0 : Hid (topT f N 0 = []) := Lib.hid rfl
  have HINC := Lib.hid (show ∀ k, Inc ecmp (topT f N k) from fun k => insAll_inc ecmp_lin _)
  obtain ⟨TT, hTT⟩ : ∃ q, topM (ms.map (·.e)) kind x y = q := ⟨_, rfl⟩
  rw [hTT] at HTOP ⊢
  obtain ⟨T, hT⟩ : ∃ q, topT f N = q := ⟨_, rfl⟩
  rw [hT] at HTOP HSU HTL HT0 HINC
  obtain ⟨i0, hi, hz0, hz1, hz2⟩ := ent_info
  clear h hg hN hf hf1 hnd hTT hT HAU HG hlc hc hlen hk H
  go_enter Tryz.func13, Tryz.ntmps13
  go_wp2_with fail
  refine HALL.out.mono ?_; rintro e w1 ⟨v1, rfl, own1, b1⟩
  clear HALL
  obtain ⟨A1, c1, rfl⟩ := own2_slice own1
  have hlc1 := own2_le own1
  have hc1 := own2_cap own1
  unfold maxLen at hc1
  have RN := Lib.hid (RdC.of_own own1)
  have B1 := Lib.hid b1
  clear own1 b1
  go_wp2_with fail
  go_loopg [11, 13] N.length (fun gg ov iv wr => ∃ k : Nat, k ≤ N.length ∧ N.length - k ≤ gg ∧ iv = i64 k ∧ Hid (wr.ownsRow w1.heap.size 36 3 ov (T k).length ((T k).flatMap entL)) ∧ Hid (Below w1.heap.size w1 wr))
  case atStart => exact ⟨0, by omega, by omega, rfl, by rw [HT0.out]; exact Lib.hid (own2_nil _ _ _ _), Lib.hid (Below.refl _ _)⟩
  case round =>
    obtain ⟨k, hk, hgk, rfl, O, S⟩ := hrel
    by_cases hlt : k < N.length
    · obtain ⟨n, hn⟩ : ∃ x, N[k]? = some x := ⟨_, List.getElem?_eq_getElem hlt⟩
      have HS1 := Lib.hid (HSU.out k n hn)
      have htl : (T k).length ≤ 50000 := Nat.le_trans (HTL.out k) hnl
      have HIK := Lib.hid (HINC.out k)
      have HFN := Lib.hid (HFE.out n)
      obtain ⟨bn_, on_, hA1, cn0⟩ := RdC.cell (RdC.below RN.out S.out) (j := k) (v := enS n) (by rw [List.getElem?_map, hn]; rfl)
      subst hA1
      have HOFN := Lib.hid (HOF.out n)
      obtain ⟨q, hq⟩ : ∃ q, ofM kind n x y ms = q := ⟨_, rfl⟩
      rw [hq] at HFN HOFN
      obtain ⟨q1, q2⟩ := q
      obtain ⟨A2, c2, rfl⟩ := own2_slice O.out
      have hlc2 := own2_le O.out
      have hc2 := own2_cap O.out
      unfold maxLen at hc2
      obtain ⟨L, hL⟩ : ∃ q, T k = q := ⟨_, rfl⟩
      rw [hL] at HS1 htl HIK O hlc2 ⊢
      rw [HFN.out] at HS1
      have HWW := Lib.hid (B1.out.trans (S.out.mono B1.out.size))
      have CN := Lib.hid cn0
      clear hn hL hq HFN cn0
      go_upto_region 6 with fail
      go_cut [14] (fun sp wx => ∃ pp, sp = .pointer (some ⟨pp, 0, none⟩) ∧ Hid (wx.rangeAt pp 0 (entL (n, q1, q2))) ∧ wr.heap.size ≤ pp ∧ pp < wx.heap.size ∧ Hid (Below wr.heap.size wr wx))
      case first =>
        refine Flow.wp_region_sched (fun u v => Below wr.heap.size u v) (fun _ => Below.refl _ _) (fun _ _ _ h k => h.trans k) (.fork [0, 1, 2, 3, 4, 5, 6, 7, 8, 9, 10, 11] 12 14 (.step [13] 14 (.step [] 15 (.done []))) (.step [] 12 (.step [13] 15 (.done [])))) (by kernel_rfl) (by kernel_rfl) ?_
        have cD : Below wr.heap.size wr (World.drew wr) := Below.drew (Below.refl _ _)
        generalize hwd : World.drew _ = wd at *
        clear hwd
        have cn1 := (Below.cellv cD CN.out)
        have hbl : bn_ < wr.heap.size := cell_lt2 CN.out
        have qn : ∀ t : Flow.Cls (Below wr.heap.size wd), t.val.cell? ⟨bn_, on_ + k, none⟩ = some (enS n) := fun t => cls_nec cn1 hbl t
        haveI nonE := cls_ne (N := wr.heap.size) wd
        rw [Flow.wpSched_fork]
        simp only [Flow.pick, List.getElem?_toArray, List.getElem?_cons_succ, List.getElem?_cons_zero]
        repeat go_big_quiet_step (fail)
        refine wpQuiet_nil ?_
        clear nonE qn cn1
        refine ⟨?_, ?_⟩
        · skip
          rw [Flow.callAt_eq]
          simp only [List.getElem?_toArray, List.getElem?_cons_succ, List.getElem?_cons_zero]
          rw [if_pos (by rfl)]
          refine Flow.wp_behind (fun K hK => ?_)
          go_wp2_with fail
          refine (HOFN.out wd (HWW.out.trans (cD.mono HWW.out.size))).mono ?_; rintro e x1 ⟨rfl, b⟩
          have b1 : Below wr.heap.size wd x1 := b.mono cD.size
          refine hK.out _ _ ⟨b1, ?_⟩
          clear hK K b
          dsimp only [cV]
          have c1' := cD.trans b1; clear b1
          haveI nonE := cls_ne (N := wr.heap.size) x1
          rw [Flow.wpSched_step]
          simp only [Flow.pick, List.getElem?_toArray, List.getElem?_cons_succ, List.getElem?_cons_zero]
          repeat (first | (refine BigFrame.wpQuiet_want (by rfl) (fun K hK => quiet_build2 36 _ _ rfl (enS n) (.agg #[i64 q1, i64 q2]) rfl rfl #[enS n, i64 q1, i64 q2] (ent_built n q1 q2) (hK _ ?_)); clear hK K; simp only [Act.put, List.setIfInBounds_toArray, List.set_cons_succ, List.set_cons_zero]) | go_big_quiet_step (fail))
          refine wpQuiet_nil ?_
          clear nonE
          rw [Flow.callAt_eq]
          simp only [List.getElem?_toArray, List.getElem?_cons_succ, List.getElem?_cons_zero]
          rw [if_pos (by rfl)]
          refine Flow.wp_behind (fun K hK => ?_)
          go_wp2_with fail
          have b2 : Below wr.heap.size x1 (x1.alloc (.cells #[enS [], i64 0, i64 0] 36)) := (Below.refl _ _).alloc c1'.size _
          refine hK.out _ _ ⟨b2, ?_⟩
          clear hK K
          haveI nonE := cls_ne (N := wr.heap.size) (x1.alloc (.cells #[enS [], i64 0, i64 0] 36))
          rw [Flow.wpSched_step]
          simp only [Flow.pick]
          refine wpQuiet_nil ?_
          clear nonE
          rw [Flow.callAt_eq]
          simp only [List.getElem?_toArray, List.getElem?_cons_succ, List.getElem?_cons_zero]
          rw [if_pos (by rfl)]
          refine Flow.wp_behind (fun K hK => ?_)
          go_wp2_with fail
          refine hK.out _ _ ⟨alloc_two _ _ c1'.size, ?_⟩
          clear hK K
          have c3' : Below wr.heap.size wr (x1.alloc (.cells #[enS n, i64 q1, i64 q2] 36)) := c1'.alloc c1'.size _
          have PC := Lib.hid (range_blk (cs := entL (n, q1, q2)) (blk_new x1 (.cells #[enS n, i64 q1, i64 q2] 36)))
          have hsz3 : x1.heap.size < (x1.alloc (.cells #[enS n, i64 q1, i64 q2] 36)).heap.size := by simp
          generalize x1.alloc (.cells #[.string { data := n.toArray }, .int .i64 q1, .int .i64 q2] 36) = x3 at *
          haveI nonE := cls_ne (N := wr.heap.size) x3
          rw [Flow.wpSched_done]
          simp only [Flow.pick]
          refine wpQuiet_nil ?_
          clear nonE
          go_wp2_with fail
          go_meet
          exact ⟨_, rfl, PC, c1'.size, hsz3, Lib.hid c3'⟩
        · skip
          rw [Flow.callAt_eq]
          simp only [List.getElem?_toArray, List.getElem?_cons_succ, List.getElem?_cons_zero]
          rw [if_pos (by rfl)]
          refine Flow.wp_behind (fun K hK => ?_)
          go_wp2_with fail
          have b2 : Below wr.heap.size wd (wd.alloc (.cells #[enS [], i64 0, i64 0] 36)) := (Below.refl _ _).alloc cD.size _
          refine hK.out _ _ ⟨b2, ?_⟩
          clear hK K
          have c2' := cD.trans b2
          have BK := Lib.hid (blk_new wd (.cells #[enS [], i64 0, i64 0] 36))
          obtain ⟨pp, hpp⟩ : ∃ q, wd.heap.size = q := ⟨_, rfl⟩
          rw [hpp] at BK ⊢
          have hp1 : wr.heap.size ≤ pp := by rw [← hpp]; exact cD.size
          clear b2 hpp
          generalize wd.alloc (.cells #[.string { data := #[] }, .int .i64 0, .int .i64 0] 36) = x1 at *
          haveI nonE := cls_ne (N := wr.heap.size) x1
          rw [Flow.wpSched_step]
          simp only [Flow.pick]
          refine wpQuiet_nil ?_
          clear nonE
          rw [Flow.callAt_eq]
          simp only [List.getElem?_toArray, List.getElem?_cons_succ, List.getElem?_cons_zero]
          rw [if_pos (by rfl)]
          refine Flow.wp_behind (fun K hK => ?_)
          go_wp2_with fail
          refine (HOFN.out x1 (HWW.out.trans (c2'.mono HWW.out.size))).mono ?_; rintro e x2 ⟨rfl, b⟩
          have BK2 := Lib.hid (blk_below b BK.out)
          have b1 : Below wr.heap.size x1 x2 := b.mono c2'.size
          refine hK.out _ _ ⟨b1, ?_⟩
          clear hK K b
          dsimp only [cV]
          have c3' := c2'.trans b1; clear b1 c2' BK
          haveI nonE := cls_ne (N := wr.heap.size) x2
          rw [Flow.wpSched_step]
          simp only [Flow.pick, List.getElem?_toArray, List.getElem?_cons_succ, List.getElem?_cons_zero]
          repeat (first | (refine BigFrame.wpQuiet_want (by rfl) (fun K hK => quiet_build2 36 _ _ rfl (enS n) (.agg #[i64 q1, i64 q2]) rfl rfl #[enS n, i64 q1, i64 q2] (ent_built n q1 q2) (hK _ ?_)); clear hK K; simp only [Act.put, List.setIfInBounds_toArray, List.set_cons_succ, List.set_cons_zero]) | go_big_quiet_step (fail))
          refine wpQuiet_nil ?_
          clear nonE
          have k0 := blk_cell BK2.out 0
          have k1 := blk_cell BK2.out 1
          have k2 := blk_cell BK2.out 2
          have f0 := blk_free BK2.out 0
          have f1 := blk_free BK2.out 1
          have f2 := blk_free BK2.out 2
          have plt := blk_lt BK2.out
          rw [Flow.callAt_eq]
          simp only [List.getElem?_toArray, List.getElem?_cons_succ, List.getElem?_cons_zero]
          rw [if_pos (by rfl)]
          refine Flow.wp_behind (fun K hK => ?_)
          go_wp2_with fail
          have b4 := (((Below.refl wr.heap.size x2).setCell (p := ⟨pp, 0, none⟩) hp1 (enS n)).setCell (p := ⟨pp, 1, none⟩) hp1 (i64 q1)).setCell (p := ⟨pp, 2, none⟩) hp1 (i64 q2)
          refine hK.out _ _ ⟨b4, ?_⟩
          clear hK K
          have BK3 := blk_set (blk_set (blk_set BK2.out 0 (enS n)) 1 (i64 q1)) 2 (i64 q2)
          have PC := Lib.hid (range_blk (cs := entL (n, q1, q2)) (by show _ = some (Obj.cells #[enS n, i64 q1, i64 q2] _ _); simpa using BK3))
          have hsz3 := blk_lt BK3
          have c5' := c3'.trans b4
          clear b4 c3' BK3 k0 k1 k2 f0 f1 f2 BK2
          generalize World.setCell (World.setCell (World.setCell x2 ⟨pp, 0, none⟩ _) ⟨pp, 1, none⟩ _) ⟨pp, 2, none⟩ _ = x3 at *
          haveI nonE := cls_ne (N := wr.heap.size) x3
          rw [Flow.wpSched_done]
          simp only [Flow.pick]
          refine wpQuiet_nil ?_
          clear nonE
          go_wp2_with fail
          go_meet
          exact ⟨pp, rfl, PC, hp1, hsz3, Lib.hid c5'⟩
      obtain ⟨pp, rfl, PC, hpp1, hpp2, SX⟩ := hcut
      generalize hM : wc = M at *
      clear hM
      have RL := Lib.hid (RdC.below (RdC.of_own O.out) SX.out)
      clear CN
      obtain ⟨at_, hat⟩ : ∃ z, insAt ecmp (n, q1, q2) L = z := ⟨_, rfl⟩
      have hatl : at_ ≤ L.length := by rw [← hat]; exact insAt_le ..
      have HAT := Lib.hid (fun (j : Nat) (t : Ent1) (hx : L[j]? = some t) => (show ecmp t (n, q1, q2) < 0 ↔ j < at_ by rw [← hat]; exact lt_insAt ecmp_lin _ HIK.out hx))
      rw [hat] at HS1
      clear hat HIK
      go_upto_block 2 with fail
      go_cut [15] (fun s wx => s = i64 at_ ∧ Hid (Below M.heap.size M wx))
      case first =>
        go_wp2_with fail
        go_loopg [15] L.length (fun gg sv wr => ∃ j : Nat, j ≤ at_ ∧ L.length - j ≤ gg ∧ sv = i64 j ∧ Hid (Below M.heap.size M wr))
        case atStart => exact ⟨0, by omega, by omega, rfl, Lib.hid (Below.refl _ _)⟩
        case round =>
          obtain ⟨j, hj, hgj, rfl, S2⟩ := hrel
          by_cases hjl : j < L.length
          · obtain ⟨t, ht⟩ : ∃ t, L[j]? = some t := ⟨_, List.getElem?_eq_getElem hjl⟩
            obtain ⟨b3, o3, hA, hct⟩ := RdC.rng (enc := entL) (RdC.below RL.out S2.out) entL_length (by omega) ht
            subst hA
            have HCT := Lib.hid hct
            have HCP := Lib.hid (range_below PC.out S2.out)
            have hA := HAT.out j t ht
            clear hct ht
            by_cases hlt2 : j < at_
            · have hd : decide (ecmp t (n, q1, q2) < 0) = true := decide_eq_true (hA.2 hlt2)
              clear hA
              go_wp2_with fail
              refine Flow.wp_region_segs Flow.Later Flow.Later.refl Flow.Later.trans [([0, 1, 2, 3, 4, 5, 6, 7, 8, 9], 10)] [11] (by kernel_rfl) (by kernel_rfl) ?_
              have b' : Below wr.heap.size wr (World.drew wr) := (Below.refl _ _).drew
              generalize World.drew _ = wd at *
              have hz1' := range_below HCT.out b'
              have hz2' := range_below HCP.out b'
              have HZ : Hid (∀ u : World, (∃ s : Flow.Cls (Flow.Later wd), u = s.val) → u.rangeAt b3 (o3 + j * 3) (entL t)) := by
                (show ∀ u : World, (∃ s : Flow.Cls (Flow.Later wd), u = s.val) → u.rangeAt b3 (o3 + j * 3) (entL t))
                rintro u ⟨s, rfl⟩
                exact fun j v hv => Flow.cls_cell (hz1' j v hv) s
              have HY : Hid (∀ u : World, (∃ s : Flow.Cls (Flow.Later wd), u = s.val) → u.rangeAt pp 0 (entL (n, q1, q2))) := by
                (show ∀ u : World, (∃ s : Flow.Cls (Flow.Later wd), u = s.val) → u.rangeAt pp 0 (entL (n, q1, q2)))
                rintro u ⟨s, rfl⟩
                exact fun j v hv => Flow.cls_cell (hz2' j v hv) s
              clear hz1' hz2'
              haveI nonE := Flow.cls_nonempty wd
              rw [Flow.wpSegs_cons]
              simp only [Flow.pick, List.getElem?_toArray, List.getElem?_cons_succ, List.getElem?_cons_zero]
              repeat (first | (refine BigFrame.wpQuiet_want rfl (fun K hK => quiet_load_mid 36 _ rfl b3 (o3 + j * 3) rfl (entL t) _ HZ.out Tryz.underlying36 rfl (by kernel_rfl) (hK _ ?_)); clear hK K; simp only [Act.put, List.setIfInBounds_toArray, List.set_cons_succ, List.set_cons_zero]) | (refine BigFrame.wpQuiet_want rfl (fun K hK => quiet_load_mid 36 _ rfl pp (0) rfl (entL (n, q1, q2)) _ HY.out Tryz.underlying36 rfl (by kernel_rfl) (hK _ ?_)); clear hK K; simp only [Act.put, List.setIfInBounds_toArray, List.set_cons_succ, List.set_cons_zero]) | go_big_quiet_step (fail))
              refine wpQuiet_nil ?_
              clear nonE HZ HY
              rw [Flow.callAt_eq]
              simp only [List.getElem?_toArray, List.getElem?_cons_succ, List.getElem?_cons_zero]
              rw [if_pos (by rfl)]
              refine Flow.wp_behind (fun K hK => ?_)
              have HM := more_any t (n, q1, q2) wd
              rw [hd] at HM
              go_wp2_with fail
              refine HM.mono ?_; rintro e x5 ⟨rfl, b5⟩
              refine hK.out _ _ ⟨b5, ?_⟩
              clear hK K
              have b5 := b'.tr b5
              clear b' HM
              haveI nonE := Flow.cls_nonempty x5
              rw [Flow.wpSegs_nil]
              simp only [Flow.pick, List.getElem?_toArray, List.getElem?_cons_succ, List.getElem?_cons_zero]
              repeat go_big_quiet_step (fail)
              refine wpQuiet_nil ?_
              clear nonE
              have S5 := Lib.hid (S2.out.tr b5)
              clear b5 S2 HCT HCP
              go_wp2_with fail
              go_roundg (L.length - (j + 1))
              case measure => omega
              case rel => exact ⟨j + 1, by omega, by omega, by go_num, S5⟩
            · have hd : decide (ecmp t (n, q1, q2) < 0) = false := decide_eq_false (fun h => hlt2 (hA.1 h))
              clear hA
              go_wp2_with fail
              refine Flow.wp_region_segs Flow.Later Flow.Later.refl Flow.Later.trans [([0, 1, 2, 3, 4, 5, 6, 7, 8, 9], 10)] [11] (by kernel_rfl) (by kernel_rfl) ?_
              have b' : Below wr.heap.size wr (World.drew wr) := (Below.refl _ _).drew
              generalize World.drew _ = wd at *
              have hz1' := range_below HCT.out b'
              have hz2' := range_below HCP.out b'
              have HZ : Hid (∀ u : World, (∃ s : Flow.Cls (Flow.Later wd), u = s.val) → u.rangeAt b3 (o3 + j * 3) (entL t)) := by
                (show ∀ u : World, (∃ s : Flow.Cls (Flow.Later wd), u = s.val) → u.rangeAt b3 (o3 + j * 3) (entL t))
                rintro u ⟨s, rfl⟩
                exact fun j v hv => Flow.cls_cell (hz1' j v hv) s
              have HY : Hid (∀ u : World, (∃ s : Flow.Cls (Flow.Later wd), u = s.val) → u.rangeAt pp 0 (entL (n, q1, q2))) := by
                (show ∀ u : World, (∃ s : Flow.Cls (Flow.Later wd), u = s.val) → u.rangeAt pp 0 (entL (n, q1, q2)))
                rintro u ⟨s, rfl⟩
                exact fun j v hv => Flow.cls_cell (hz2' j v hv) s
              clear hz1' hz2'
              haveI nonE := Flow.cls_nonempty wd
              rw [Flow.wpSegs_cons]
              simp only [Flow.pick, List.getElem?_toArray, List.getElem?_cons_succ, List.getElem?_cons_zero]
              repeat (first | (refine BigFrame.wpQuiet_want rfl (fun K hK => quiet_load_mid 36 _ rfl b3 (o3 + j * 3) rfl (entL t) _ HZ.out Tryz.underlying36 rfl (by kernel_rfl) (hK _ ?_)); clear hK K; simp only [Act.put, List.setIfInBounds_toArray, List.set_cons_succ, List.set_cons_zero]) | (refine BigFrame.wpQuiet_want rfl (fun K hK => quiet_load_mid 36 _ rfl pp (0) rfl (entL (n, q1, q2)) _ HY.out Tryz.underlying36 rfl (by kernel_rfl) (hK _ ?_)); clear hK K; simp only [Act.put, List.setIfInBounds_toArray, List.set_cons_succ, List.set_cons_zero]) | go_big_quiet_step (fail))
              refine wpQuiet_nil ?_
              clear nonE HZ HY
              rw [Flow.callAt_eq]
              simp only [List.getElem?_toArray, List.getElem?_cons_succ, List.getElem?_cons_zero]
              rw [if_pos (by rfl)]
              refine Flow.wp_behind (fun K hK => ?_)
              have HM := more_any t (n, q1, q2) wd
              rw [hd] at HM
              go_wp2_with fail
              refine HM.mono ?_; rintro e x5 ⟨rfl, b5⟩
              refine hK.out _ _ ⟨b5, ?_⟩
              clear hK K
              have b5 := b'.tr b5
              clear b' HM
              haveI nonE := Flow.cls_nonempty x5
              rw [Flow.wpSegs_nil]
              simp only [Flow.pick, List.getElem?_toArray, List.getElem?_cons_succ, List.getElem?_cons_zero]
              repeat go_big_quiet_step (fail)
              refine wpQuiet_nil ?_
              clear nonE
              have S5 := Lib.hid (S2.out.tr b5)
              obtain rfl : j = at_ := by omega
              clear b5 S2 HCT HCP
              go_wp2_with fail
              go_meet
              exact ⟨rfl, S5⟩
          · obtain rfl : j = L.length := by omega
            go_wp2_with fail
            refine Flow.wp_region_segs Flow.Later Flow.Later.refl Flow.Later.trans [([0, 1, 2, 3, 4, 5, 6, 7, 8, 9], 10)] [11] (by kernel_rfl) (by kernel_rfl) ?_
            have b' : Below wr.heap.size wr (World.drew wr) := (Below.refl _ _).drew
            generalize World.drew _ = wd at *
            haveI nonE := Flow.cls_nonempty wd
            rw [Flow.wpSegs_cons]
            simp only [Flow.pick, List.getElem?_toArray, List.getElem?_cons_succ, List.getElem?_cons_zero]
            repeat go_big_quiet_step (fail)
            refine wpQuiet_nil ?_
            clear nonE
            rw [Flow.callAt_eq]
            simp only [List.getElem?_toArray, List.getElem?_cons_succ, List.getElem?_cons_zero]
            rw [if_neg (by exact Bool.false_ne_true)]
            simp only [Act.put, List.setIfInBounds_toArray, List.set_cons_succ, List.set_cons_zero]
            have b5 := b'
            clear b'
            generalize hx5 : wd = x5 at *
            clear hx5
            haveI nonE := Flow.cls_nonempty x5
            rw [Flow.wpSegs_nil]
            simp only [Flow.pick, List.getElem?_toArray, List.getElem?_cons_succ, List.getElem?_cons_zero]
            repeat go_big_quiet_step (fail)
            refine wpQuiet_nil ?_
            clear nonE
            have S5 := Lib.hid (S2.out.tr b5)
            obtain rfl : L.length = at_ := by omega
            clear b5 S2
            go_wp2_with fail
            go_meet
            exact ⟨rfl, S5⟩
      obtain ⟨rfl, S2⟩ := hcut
      generalize hM2 : wc = M2 at *
      clear hM2
      have HR := Lib.hid (RdC.below RL.out S2.out)
      have PC2 := Lib.hid (range_below PC.out S2.out)
      have hpp3 : pp < M2.heap.size := Nat.lt_of_lt_of_le hpp2 S2.out.size
      have SF := Lib.hid (S.out.trans ((SX.out.trans (S2.out.mono SX.out.size)).mono S.out.size))
      have hbase : w1.heap.size ≤ M2.heap.size := SF.out.size
      clear RL PC S2 SX O HAT
      have hXS : (L.flatMap entL).length = L.length * 3 := ent_len L
      have h1XS := one_ents L
      have h1ONE : ∀ u ∈ [enS n, i64 q1, i64 q2], u.oneCell' = true := one_entL (n, q1, q2)
      have hq := hatl
      have hnc := hlc2
      have hn := htl
      go_wp2_with fail
      have hTK := Lib.hid (show ((L.flatMap entL).take (at_ * 3)).length = at_ * 3 by rw [List.length_take, hXS, Nat.min_eq_left (Nat.mul_le_mul_right _ hq)])
      have hDK := Lib.hid (show ((L.flatMap entL).drop (at_ * 3)).length = (L.length - at_) * 3 by rw [List.length_drop, hXS, Nat.sub_mul])
      have hT1 := Lib.hid (show ∀ u ∈ (L.flatMap entL).take (at_ * 3), u.oneCell' = true from fun u hu => h1XS u (List.mem_of_mem_take hu))
      have hD1 := Lib.hid (show ∀ u ∈ (L.flatMap entL).drop (at_ * 3), u.oneCell' = true from fun u hu => h1XS u (List.mem_of_mem_drop hu))
      refine Flow.wp_region_sched (fun u v => Below M2.heap.size u v) (fun _ => Below.refl _ _) (fun _ _ _ h k => h.trans k) (.fork [1, 2, 3, 5, 8, 9, 10] 0 6 (.fork [] 4 6 (.step [] 6 (.step [] 7 (.step [] 11 (.done [12])))) (.step [] 4 (.step [] 7 (.step [] 11 (.done [12]))))) (.step [] 0 (.step [] 4 (.step [] 7 (.step [] 11 (.done [12])))))) (by kernel_rfl) (by kernel_rfl) ?_
      have cD : Below M2.heap.size M2 (World.drew M2) := Below.drew (Below.refl _ _)
      generalize hwd : World.drew _ = wd at *
      clear hwd
      have PC3 := range_below PC2.out cD
      have HY : Hid (∀ u : World, (∃ s : Flow.Cls (Below M2.heap.size wd), u = s.val) → u.rangeAt pp 0 (entL (n, q1, q2))) := by
        (show ∀ u : World, (∃ s : Flow.Cls (Below M2.heap.size wd), u = s.val) → u.rangeAt pp 0 (entL (n, q1, q2)))
        rintro u ⟨s, rfl⟩
        exact fun j v hv => cls_nec (PC3 j v hv) hpp3 s
      haveI nonE := cls_ne (N := M2.heap.size) wd
      rw [Flow.wpSched_fork]
      simp only [Flow.pick, List.getElem?_toArray, List.getElem?_cons_succ, List.getElem?_cons_zero]
      repeat (first | (refine BigFrame.wpQuiet_want rfl (fun K hK => quiet_load_mid 36 _ rfl pp 0 rfl (entL (n, q1, q2)) _ HY.out Tryz.underlying36 rfl (by kernel_rfl) (hK _ ?_)); clear hK K; simp only [Act.put, List.setIfInBounds_toArray, List.set_cons_succ, List.set_cons_zero, entL_arr]) | (refine BigFrame.wpQuiet_want rfl (fun K hK => quiet_sliceTo Tryz.underlying28 hi _ _ rfl A2 L.length c2 at_ rfl rfl (by omega) (hK _ ?_)); clear hK K; simp only [Act.put, List.setIfInBounds_toArray, List.set_cons_succ, List.set_cons_zero]) | (refine BigFrame.wpQuiet_want rfl (fun K hK => quiet_sliceFrom Tryz.underlying28 hi hz1 _ _ rfl A2 L.length c2 at_ rfl rfl hq (hK _ ?_)); clear hK K; simp only [Act.put, List.setIfInBounds_toArray, List.set_cons_succ, List.set_cons_zero]) | go_big_quiet_step (fail))
      refine wpQuiet_nil ?_
      clear nonE
      clear HY PC3
      refine ⟨?_, ?_⟩
      · rw [Flow.callAt_eq]
        simp only [List.getElem?_toArray, List.getElem?_cons_zero]
        rw [if_pos (by rfl)]
        refine Flow.wp_behind (fun K hK => ?_)
        go_wp2_with fail
        have b1 : Below M2.heap.size wd (wd.alloc (.cells #[] 36)) := (Below.refl _ _).alloc cD.size _
        refine hK.out _ _ ⟨b1, ?_⟩
        clear hK K
        have O1 := Lib.hid (own2_empty wd M2.heap.size 3 36 cD.size)
        have z1 : wd.heap.size < (wd.alloc (.cells #[] 36)).heap.size := by simp
        have c1 := cD.trans b1; clear b1
        generalize hw1 : wd.alloc (.cells #[] 36) = x1 at *
        clear hw1
        haveI nonE := cls_ne (N := M2.heap.size) x1
        rw [Flow.wpSched_fork]
        simp only [Flow.pick]
        refine wpQuiet_nil ?_
        clear nonE
        refine ⟨?_, ?_⟩
        · rw [Flow.callAt_eq]
          simp only [List.getElem?_toArray, List.getElem?_cons_succ, List.getElem?_cons_zero]
          rw [if_pos (by rfl)]
          refine Flow.wp_behind (fun K hK => ?_)
          refine wp_appK Tryz.underlying28 hi hz0 hz1 hz2 rfl (by decide) _ _ rfl M2.heap.size _ (0) ([]) O1.out _ (at_) _ ((L.flatMap entL).take (at_ * 3)) hTK.out (RdC.below (RdC.toA HR.out _ _) c1) hT1.out rfl rfl (by omega) (by decide) c1.size ?_
          intro v2 x2 hown2 b2 hg2
          refine hK.out _ _ ⟨b2, ?_⟩
          clear hK K
          simp only [Act.put, List.setIfInBounds_toArray, List.set_cons_succ, List.set_cons_zero]
          have O2 := Lib.hid hown2; clear hown2
          have c2 := c1.trans b2; clear b2 hg2
          haveI nonE := cls_ne (N := M2.heap.size) x2
          rw [Flow.wpSched_step]
          simp only [Flow.pick]
          refine wpQuiet_nil ?_
          clear nonE
          rw [Flow.callAt_eq]
          simp only [List.getElem?_toArray, List.getElem?_cons_succ, List.getElem?_cons_zero]
          rw [if_pos (by rfl)]
          refine Flow.wp_behind (fun K hK => ?_)
          go_wp2_with fail
          have b3 : Below M2.heap.size x2 (x2.alloc (.cells #[enS n, i64 q1, i64 q2] 36)) := (Below.refl _ _).alloc c2.size _
          refine hK.out _ _ ⟨b3, ?_⟩
          clear hK K
          have X3 := Lib.hid (rdC_new x2 ([enS n, i64 q1, i64 q2]) 36)
          have z3 : x2.heap.size < (x2.alloc (.cells #[enS n, i64 q1, i64 q2] 36)).heap.size := by simp
          have O3 := Lib.hid (own_below O2.out (below_new x2 (.cells #[enS n, i64 q1, i64 q2] 36)))
          have c3 := c2.trans b3; clear b3
          generalize hw3 : x2.alloc (.cells #[enS n, i64 q1, i64 q2] 36) = x3 at *
          clear hw3
          haveI nonE := cls_ne (N := M2.heap.size) x3
          rw [Flow.wpSched_step]
          simp only [Flow.pick]
          refine wpQuiet_nil ?_
          clear nonE
          rw [Flow.callAt_eq]
          simp only [List.getElem?_toArray, List.getElem?_cons_succ, List.getElem?_cons_zero]
          rw [if_pos (by rfl)]
          refine Flow.wp_behind (fun K hK => ?_)
          refine wp_appK Tryz.underlying28 hi hz0 hz1 hz2 rfl (by decide) _ _ rfl M2.heap.size _ (0 + at_) ([] ++ (L.flatMap entL).take (at_ * 3)) O3.out _ (1) _ ([enS n, i64 q1, i64 q2]) rfl (X3.out) h1ONE rfl rfl (by omega) (by decide) c3.size ?_
          intro v4 x4 hown4 b4 hg4
          refine hK.out _ _ ⟨b4, ?_⟩
          clear hK K
          simp only [Act.put, List.setIfInBounds_toArray, List.set_cons_succ, List.set_cons_zero]
          have O4 := Lib.hid hown4; clear hown4
          have c4 := c3.trans b4; clear b4 hg4
          haveI nonE := cls_ne (N := M2.heap.size) x4
          rw [Flow.wpSched_step]
          simp only [Flow.pick]
          refine wpQuiet_nil ?_
          clear nonE
          rw [Flow.callAt_eq]
          simp only [List.getElem?_toArray, List.getElem?_cons_succ, List.getElem?_cons_zero]
          rw [if_pos (by rfl)]
          refine Flow.wp_behind (fun K hK => ?_)
          refine wp_appK Tryz.underlying28 hi hz0 hz1 hz2 rfl (by decide) _ _ rfl M2.heap.size _ (0 + at_ + 1) (([] ++ (L.flatMap entL).take (at_ * 3)) ++ [enS n, i64 q1, i64 q2]) O4.out _ ((L.length - at_)) _ ((L.flatMap entL).drop (at_ * 3)) hDK.out (RdC.below (RdC.fromA HR.out hXS _ _ hq hnc) c4) hD1.out rfl rfl (by omega) (by decide) c4.size ?_
          intro v5 x5 hown5 b5 hg5
          refine hK.out _ _ ⟨b5, ?_⟩
          clear hK K
          simp only [Act.put, List.setIfInBounds_toArray, List.set_cons_succ, List.set_cons_zero]
          have O5 := Lib.hid hown5; clear hown5
          have c5 := c4.trans b5; clear b5 hg5
          haveI nonE := cls_ne (N := M2.heap.size) x5
          rw [Flow.wpSched_done]
          simp only [Flow.pick, List.getElem?_toArray, List.getElem?_cons_succ, List.getElem?_cons_zero]
          repeat go_big_quiet_step (fail)
          refine wpQuiet_nil ?_
          clear nonE
          have OF : Hid (x5.ownsRow w1.heap.size 36 3 v5 (T (k + 1)).length ((T (k + 1)).flatMap entL)) := Lib.hid (by
            (show x5.ownsRow w1.heap.size 36 3 v5 (T (k + 1)).length ((T (k + 1)).flatMap entL))
            have h := own_base O5.out hbase
            have e1 : (T (k + 1)).length = at_ + 1 + (L.length - at_) := by rw [HS1.out]; simp; omega
            have e2 : (T (k + 1)).flatMap entL = (([] ++ (L.flatMap entL).take (at_ * 3)) ++ [enS n, i64 q1, i64 q2]) ++ (L.flatMap entL).drop (at_ * 3) := by rw [HS1.out, ent_take, ent_drop]; simp [entL]
            rw [e1, e2]
            simpa using h)
          have SE := Lib.hid (SF.out.trans (c5.mono SF.out.size))
          go_wp2_with fail
          go_roundg (N.length - (k + 1))
          case measure => omega
          case rel => exact ⟨k + 1, by omega, by omega, by go_num, OF, SE⟩
        · rw [Flow.callAt_eq]
          simp only [List.getElem?_toArray, List.getElem?_cons_succ, List.getElem?_cons_zero]
          rw [if_pos (by rfl)]
          refine Flow.wp_behind (fun K hK => ?_)
          go_wp2_with fail
          have b2 : Below M2.heap.size x1 (x1.alloc (.cells #[enS n, i64 q1, i64 q2] 36)) := (Below.refl _ _).alloc c1.size _
          refine hK.out _ _ ⟨b2, ?_⟩
          clear hK K
          have X2 := Lib.hid (rdC_new x1 ([enS n, i64 q1, i64 q2]) 36)
          have z2 : x1.heap.size < (x1.alloc (.cells #[enS n, i64 q1, i64 q2] 36)).heap.size := by simp
          have O2 := Lib.hid (own_below O1.out (below_new x1 (.cells #[enS n, i64 q1, i64 q2] 36)))
          have c2 := c1.trans b2; clear b2
          generalize hw2 : x1.alloc (.cells #[enS n, i64 q1, i64 q2] 36) = x2 at *
          clear hw2
          haveI nonE := cls_ne (N := M2.heap.size) x2
          rw [Flow.wpSched_step]
          simp only [Flow.pick]
          refine wpQuiet_nil ?_
          clear nonE
          rw [Flow.callAt_eq]
          simp only [List.getElem?_toArray, List.getElem?_cons_succ, List.getElem?_cons_zero]
          rw [if_pos (by rfl)]
          refine Flow.wp_behind (fun K hK => ?_)
          refine wp_appK Tryz.underlying28 hi hz0 hz1 hz2 rfl (by decide) _ _ rfl M2.heap.size _ (0) ([]) O2.out _ (at_) _ ((L.flatMap entL).take (at_ * 3)) hTK.out (RdC.below (RdC.toA HR.out _ _) c2) hT1.out rfl rfl (by omega) (by decide) c2.size ?_
          intro v3 x3 hown3 b3 hg3
          refine hK.out _ _ ⟨b3, ?_⟩
          clear hK K
          simp only [Act.put, List.setIfInBounds_toArray, List.set_cons_succ, List.set_cons_zero]
          have O3 := Lib.hid hown3; clear hown3
          have X3 := Lib.hid (RdC.grown0 X2.out hg3 (by simp [Value.ownBlock]; omega))
          have c3 := c2.trans b3; clear b3 hg3
          haveI nonE := cls_ne (N := M2.heap.size) x3
          rw [Flow.wpSched_step]
          simp only [Flow.pick]
          refine wpQuiet_nil ?_
          clear nonE
          rw [Flow.callAt_eq]
          simp only [List.getElem?_toArray, List.getElem?_cons_succ, List.getElem?_cons_zero]
          rw [if_pos (by rfl)]
          refine Flow.wp_behind (fun K hK => ?_)
          refine wp_appK Tryz.underlying28 hi hz0 hz1 hz2 rfl (by decide) _ _ rfl M2.heap.size _ (0 + at_) ([] ++ (L.flatMap entL).take (at_ * 3)) O3.out _ (1) _ ([enS n, i64 q1, i64 q2]) rfl (X3.out) h1ONE rfl rfl (by omega) (by decide) c3.size ?_
          intro v4 x4 hown4 b4 hg4
          refine hK.out _ _ ⟨b4, ?_⟩
          clear hK K
          simp only [Act.put, List.setIfInBounds_toArray, List.set_cons_succ, List.set_cons_zero]
          have O4 := Lib.hid hown4; clear hown4
          have c4 := c3.trans b4; clear b4 hg4
          haveI nonE := cls_ne (N := M2.heap.size) x4
          rw [Flow.wpSched_step]
          simp only [Flow.pick]
          refine wpQuiet_nil ?_
          clear nonE
          rw [Flow.callAt_eq]
          simp only [List.getElem?_toArray, List.getElem?_cons_succ, List.getElem?_cons_zero]
          rw [if_pos (by rfl)]
          refine Flow.wp_behind (fun K hK => ?_)
          refine wp_appK Tryz.underlying28 hi hz0 hz1 hz2 rfl (by decide) _ _ rfl M2.heap.size _ (0 + at_ + 1) (([] ++ (L.flatMap entL).take (at_ * 3)) ++ [enS n, i64 q1, i64 q2]) O4.out _ ((L.length - at_)) _ ((L.flatMap entL).drop (at_ * 3)) hDK.out (RdC.below (RdC.fromA HR.out hXS _ _ hq hnc) c4) hD1.out rfl rfl (by omega) (by decide) c4.size ?_
          intro v5 x5 hown5 b5 hg5
          refine hK.out _ _ ⟨b5, ?_⟩
          clear hK K
          simp only [Act.put, List.setIfInBounds_toArray, List.set_cons_succ, List.set_cons_zero]
          have O5 := Lib.hid hown5; clear hown5
          have c5 := c4.trans b5; clear b5 hg5
          haveI nonE := cls_ne (N := M2.heap.size) x5
          rw [Flow.wpSched_done]
          simp only [Flow.pick, List.getElem?_toArray, List.getElem?_cons_succ, List.getElem?_cons_zero]
          repeat go_big_quiet_step (fail)
          refine wpQuiet_nil ?_
          clear nonE
          have OF : Hid (x5.ownsRow w1.heap.size 36 3 v5 (T (k + 1)).length ((T (k + 1)).flatMap entL)) := Lib.hid (by
            (show x5.ownsRow w1.heap.size 36 3 v5 (T (k + 1)).length ((T (k + 1)).flatMap entL))
            have h := own_base O5.out hbase
            have e1 : (T (k + 1)).length = at_ + 1 + (L.length - at_) := by rw [HS1.out]; simp; omega
            have e2 : (T (k + 1)).flatMap entL = (([] ++ (L.flatMap entL).take (at_ * 3)) ++ [enS n, i64 q1, i64 q2]) ++ (L.flatMap entL).drop (at_ * 3) := by rw [HS1.out, ent_take, ent_drop]; simp [entL]
            rw [e1, e2]
            simpa using h)
          have SE := Lib.hid (SF.out.trans (c5.mono SF.out.size))
          go_wp2_with fail
          go_roundg (N.length - (k + 1))
          case measure => omega
          case rel => exact ⟨k + 1, by omega, by omega, by go_num, OF, SE⟩
      · rw [Flow.callAt_eq]
        simp only [List.getElem?_toArray, List.getElem?_cons_succ, List.getElem?_cons_zero]
        rw [if_pos (by rfl)]
        refine Flow.wp_behind (fun K hK => ?_)
        go_wp2_with fail
        have b1 : Below M2.heap.size wd (wd.alloc (.cells #[enS n, i64 q1, i64 q2] 36)) := (Below.refl _ _).alloc cD.size _
        refine hK.out _ _ ⟨b1, ?_⟩
        clear hK K
        have X1 := Lib.hid (rdC_new wd ([enS n, i64 q1, i64 q2]) 36)
        have z1 : wd.heap.size < (wd.alloc (.cells #[enS n, i64 q1, i64 q2] 36)).heap.size := by simp
        have c1 := cD.trans b1; clear b1
        generalize hw1 : wd.alloc (.cells #[enS n, i64 q1, i64 q2] 36) = x1 at *
        clear hw1
        haveI nonE := cls_ne (N := M2.heap.size) x1
        rw [Flow.wpSched_step]
        simp only [Flow.pick]
        refine wpQuiet_nil ?_
        clear nonE
        rw [Flow.callAt_eq]
        simp only [List.getElem?_toArray, List.getElem?_cons_zero]
        rw [if_pos (by rfl)]
        refine Flow.wp_behind (fun K hK => ?_)
        go_wp2_with fail
        have b2 : Below M2.heap.size x1 (x1.alloc (.cells #[] 36)) := (Below.refl _ _).alloc c1.size _
        refine hK.out _ _ ⟨b2, ?_⟩
        clear hK K
        have O2 := Lib.hid (own2_empty x1 M2.heap.size 3 36 c1.size)
        have z2 : x1.heap.size < (x1.alloc (.cells #[] 36)).heap.size := by simp
        have X2 := Lib.hid (RdC.below X1.out (below_new x1 (.cells #[] 36)))
        have c2 := c1.trans b2; clear b2
        generalize hw2 : x1.alloc (.cells #[] 36) = x2 at *
        clear hw2
        haveI nonE := cls_ne (N := M2.heap.size) x2
        rw [Flow.wpSched_step]
        simp only [Flow.pick]
        refine wpQuiet_nil ?_
        clear nonE
        rw [Flow.callAt_eq]
        simp only [List.getElem?_toArray, List.getElem?_cons_succ, List.getElem?_cons_zero]
        rw [if_pos (by rfl)]
        refine Flow.wp_behind (fun K hK => ?_)
        refine wp_appK Tryz.underlying28 hi hz0 hz1 hz2 rfl (by decide) _ _ rfl M2.heap.size _ (0) ([]) O2.out _ (at_) _ ((L.flatMap entL).take (at_ * 3)) hTK.out (RdC.below (RdC.toA HR.out _ _) c2) hT1.out rfl rfl (by omega) (by decide) c2.size ?_
        intro v3 x3 hown3 b3 hg3
        refine hK.out _ _ ⟨b3, ?_⟩
        clear hK K
        simp only [Act.put, List.setIfInBounds_toArray, List.set_cons_succ, List.set_cons_zero]
        have O3 := Lib.hid hown3; clear hown3
        have X3 := Lib.hid (RdC.grown0 X2.out hg3 (by simp [Value.ownBlock]; omega))
        have c3 := c2.trans b3; clear b3 hg3
        haveI nonE := cls_ne (N := M2.heap.size) x3
        rw [Flow.wpSched_step]
        simp only [Flow.pick]
        refine wpQuiet_nil ?_
        clear nonE
        rw [Flow.callAt_eq]
        simp only [List.getElem?_toArray, List.getElem?_cons_succ, List.getElem?_cons_zero]
        rw [if_pos (by rfl)]
        refine Flow.wp_behind (fun K hK => ?_)
        refine wp_appK Tryz.underlying28 hi hz0 hz1 hz2 rfl (by decide) _ _ rfl M2.heap.size _ (0 + at_) ([] ++ (L.flatMap entL).take (at_ * 3)) O3.out _ (1) _ ([enS n, i64 q1, i64 q2]) rfl (X3.out) h1ONE rfl rfl (by omega) (by decide) c3.size ?_
        intro v4 x4 hown4 b4 hg4
        refine hK.out _ _ ⟨b4, ?_⟩
        clear hK K
        simp only [Act.put, List.setIfInBounds_toArray, List.set_cons_succ, List.set_cons_zero]
        have O4 := Lib.hid hown4; clear hown4
        have c4 := c3.trans b4; clear b4 hg4
        haveI nonE := cls_ne (N := M2.heap.size) x4
        rw [Flow.wpSched_step]
        simp only [Flow.pick]
        refine wpQuiet_nil ?_
        clear nonE
        rw [Flow.callAt_eq]
        simp only [List.getElem?_toArray, List.getElem?_cons_succ, List.getElem?_cons_zero]
        rw [if_pos (by rfl)]
        refine Flow.wp_behind (fun K hK => ?_)
        refine wp_appK Tryz.underlying28 hi hz0 hz1 hz2 rfl (by decide) _ _ rfl M2.heap.size _ (0 + at_ + 1) (([] ++ (L.flatMap entL).take (at_ * 3)) ++ [enS n, i64 q1, i64 q2]) O4.out _ ((L.length - at_)) _ ((L.flatMap entL).drop (at_ * 3)) hDK.out (RdC.below (RdC.fromA HR.out hXS _ _ hq hnc) c4) hD1.out rfl rfl (by omega) (by decide) c4.size ?_
        intro v5 x5 hown5 b5 hg5
        refine hK.out _ _ ⟨b5, ?_⟩
        clear hK K
        simp only [Act.put, List.setIfInBounds_toArray, List.set_cons_succ, List.set_cons_zero]
        have O5 := Lib.hid hown5; clear hown5
        have c5 := c4.trans b5; clear b5 hg5
        haveI nonE := cls_ne (N := M2.heap.size) x5
        rw [Flow.wpSched_done]
        simp only [Flow.pick, List.getElem?_toArray, List.getElem?_cons_succ, List.getElem?_cons_zero]
        repeat go_big_quiet_step (fail)
        refine wpQuiet_nil ?_
        clear nonE
        have OF : Hid (x5.ownsRow w1.heap.size 36 3 v5 (T (k + 1)).length ((T (k + 1)).flatMap entL)) := Lib.hid (by
          (show x5.ownsRow w1.heap.size 36 3 v5 (T (k + 1)).length ((T (k + 1)).flatMap entL))
          have h := own_base O5.out hbase
          have e1 : (T (k + 1)).length = at_ + 1 + (L.length - at_) := by rw [HS1.out]; simp; omega
          have e2 : (T (k + 1)).flatMap entL = (([] ++ (L.flatMap entL).take (at_ * 3)) ++ [enS n, i64 q1, i64 q2]) ++ (L.flatMap entL).drop (at_ * 3) := by rw [HS1.out, ent_take, ent_drop]; simp [entL]
          rw [e1, e2]
          simpa using h)
        have SE := Lib.hid (SF.out.trans (c5.mono SF.out.size))
        go_wp2_with fail
        go_roundg (N.length - (k + 1))
        case measure => omega
        case rel => exact ⟨k + 1, by omega, by omega, by go_num, OF, SE⟩
    · obtain rfl : k = N.length := by omega
      rw [← HTOP.out] at O
      have hTL : TT.length ≤ 50000 := by have := HTL.out N.length; rw [← HTOP.out] at this; omega
      obtain ⟨A2, c2, rfl⟩ := own2_slice O.out
      have hlc2 := own2_le O.out
      have hc2 := own2_cap O.out
      have RT := Lib.hid (RdC.of_own O.out)
      have HCM := Lib.hid hc2
      have RTP : Hid (RdC _ A2 ((TT.take most.toNat).flatMap entL)) := Lib.hid (by rw [← ent_take]; exact RdC.pre RT.out _)
      have BE := Lib.hid (B1.out.trans (S.out.mono B1.out.size))
      clear O S HSU HTL HT0 HINC HFE HOF HTOP
      unfold maxLen at hc2
      have hmn : (min most (TT.length : Int)).toNat = min most.toNat TT.length := by omega
      go_wp2_with fail
      all_goals (try rw [hmn])
      all_goals go_ret
      all_goals exact ⟨A2, c2, rfl, by omega, HCM.out, RTP.out, BE.out⟩
end Go.Proofs.YthgefcoaaommkaaGreatDoor
