/- Contract: the statistics built from events, and the events that were accepted. -/
import Derived.Test.YthgefcoaaommkaaDoorStL
namespace Go.Proofs.YthgefcoaaommkaaDoor
open Go.RowKit Go.Gn Go.Sr Go.Maps

/-- A struct's load behind a guard that is met. -/
theorem wpList_load_mid_g {P : Program} {ops : Array Oper} {rest : List Oper} {op : Oper} {a : Act} {w : World} {Q : Exit → Act → World → Prop} (hw : Region.wanted op (yielded ops a.tmps) = true) (ty : TypeId) (x : Operand) (ho : op.op = .load ty x)
    (b o : Nat) (hx : a.eval x = .pointer (some ⟨b, o, none⟩)) (cs : List Value) (d : TypeDesc) (hc : w.rangeAt b o cs)
    (hu : P.underlying ty = some d) (hd : d.isRow = true) (hi : (P.info? ty).map (·.size) = some cs.length)
    (h : wpList P ops Q rest (a.put op.dst (.agg cs.toArray)) w) : wpList P ops Q (op :: rest) a w :=
  wpList_step fun K hK => by rw [if_pos hw]; exact wp_load_mid ty x ho b o hx cs d hc hu hd hi (hK _ _ h)
theorem run_buildEv (m : EvM) (w : World) : (Instr.buildSlice 22 1 #[(0, evA m)]).run Tryd.prog w = .ok (.slice (some ⟨w.heap.size, 0, none⟩) 1 1) (w.alloc (.cells (evL m).toArray 37)) := by
  obtain ⟨ev, ga, gc, sa, sc⟩ := m
  unfold evA evL
  kernel_rfl
theorem wpList_buildEv {ops : Array Oper} {rest : List Oper} {op : Oper} {a : Act} {w : World} {Q : Exit → Act → World → Prop} (hgd : op.guard = none) (x : Operand) (ho : op.op = .buildSlice 22 1 #[(0, x)]) (m : EvM) (hx : a.eval x = evA m)
    (h : wpList Tryd.prog ops Q rest (a.put op.dst (.slice (some ⟨w.heap.size, 0, none⟩) 1 1)) (w.alloc (.cells (evL m).toArray 37))) : wpList Tryd.prog ops Q (op :: rest) a w :=
  wpList_plain hgd fun _ hK => by
    have e : (#[(0, x)] : Array (Nat × Operand)).map (fun (q : Nat × Operand) => (q.1, a.eval q.2)) = #[(0, evA m)] := by simp [hx]
    unfold Oper.wp execOp
    simp only [ho, Sem.run_bind, Sem.run_pure, e, run_buildEv, Result.andThen_ok]
    exact hK _ _ h
theorem rdC_new (w : World) (ys : List Value) (t : TypeId) : RdC (w.alloc (.cells ys.toArray t)) (some ⟨w.heap.size, 0, none⟩) ys := fun _ => ⟨w.heap.size, 0, rfl, fun j u hj => by
  have hb : (w.alloc (.cells ys.toArray t)).heap[w.heap.size]? = some (.cells ys.toArray t (0, 0)) := blk_new w _
  rw [Nat.zero_add, blk_cell hb]; simpa using hj⟩
theorem own2_le {w : World} {base n c size : Nat} {e : TypeId} {A : Option Addr} {xs : List Value} (h : w.ownsRow base e size (.slice A n c) n xs) : n ≤ c := by
  rcases h.2 with ⟨e1, e2⟩ | ⟨g, cap, cur, e1, hb, hg, hcap, hml, hsz, ht⟩
  · omega
  · injection e1 with a1 a2 a3
    omega
def okE (m : EvM) : Bool := decide (chkE m.e = 0)
def okS (ms : List EvM) : List EvM := ms.filter okE
theorem okS_succ {ms : List EvM} {k : Nat} {m : EvM} (h : ms[k]? = some m) : okS (ms.take (k + 1)) = okS (ms.take k) ++ if chkE m.e = 0 then [m] else [] := by
  obtain ⟨hl, e⟩ := List.getElem?_eq_some_iff.1 h
  unfold okS
  rw [List.take_succ_eq_append_getElem hl, e, List.filter_append]
  by_cases hc : chkE m.e = 0
  · rw [if_pos hc, List.filter_cons, if_pos (by unfold okE; exact decide_eq_true hc), List.filter_nil]
  · rw [if_neg hc, List.filter_cons, if_neg (by unfold okE; simpa using hc), List.filter_nil]
theorem okS_good {ms : List EvM} : ∀ e ∈ (okS ms).map (·.e), GoodE e := fun e he => by
  obtain ⟨m, hm, rfl⟩ := List.mem_map.1 he
  exact chkE_zero (of_decide_eq_true (List.mem_filter.1 hm).2)
theorem okS_len (ms : List EvM) : (okS ms).length ≤ ms.length := List.length_filter_le _ _
theorem chkE_rng (e : Ev) : chkE e ≤ 12 := by
  unfold chkE
  have h1 : checkL e.groups ≤ 12 := by unfold checkL; split; omega; exact clGo_rng _ _
  have h2 := sitesGo_rng e.sites []
  split <;> (try split) <;> (try split) <;> (try split) <;> (try split) <;> (try split) <;> omega
/-- The statistics of events at p. -/
def StE (w : World) (p bd bn : Nat) (ms : List EvM) : Prop := StM w p bd bn (daysL (ms.map (·.e))) (namesL (ms.map (·.e))) (sizesL (ms.map (·.e)))
theorem RdE.sub {w : World} {A : Option Addr} {ms : List EvM} (h : RdE w A ms) {l : List EvM} (hl : ∀ m ∈ l, m ∈ ms) : ∀ m ∈ l, GoodM w m := fun m hm => h.good m (hl m hm)
theorem GoodM.low {u : World} {m : EvM} (hu : GoodM u m) : (0 < m.e.groups.length → ∀ b o, m.ga = some ⟨b, o, none⟩ → b < u.heap.size) ∧ (0 < m.e.sites.length → ∀ b o, m.sa = some ⟨b, o, none⟩ → b < u.heap.size) := by
  constructor
  · intro hl b o e
    obtain ⟨b2, o2, e2, h2, _⟩ := hu.rg hl
    rw [e] at e2; injection e2 with e2; injection e2 with e2; omega
  · intro hl b o e
    obtain ⟨b2, o2, e2, h2, _⟩ := hu.rs hl
    rw [e] at e2; injection e2 with e2; injection e2 with e2; omega
set_option maxRecDepth 100000 in
set_option maxHeartbeats 4000000 in
theorem build_any (A : Option Addr) (c : Nat) (ms : List EvM) (w : World) (h : RdE w A ms) (_hlc : ms.length ≤ c) (_hc : c ≤ maxLen) (hF : ∀ m ∈ ms, FewM m) (hlen : ms.length ≤ 40) (hE : Env w) :
    Calls Tryd.prog 7 #[.slice A ms.length c] w fun e w' => ∃ p bd bn A2 c2, e = .returned (.tuple #[.pointer (some ⟨p, 0, none⟩), .slice A2 (okS ms).length c2, .bool true]) ∧ StE w' p bd bn (okS ms) ∧ RdE w' A2 (okS ms) ∧ (okS ms).length ≤ c2 ∧ c2 ≤ maxLen ∧ Below w.heap.size w w' ∧ (w.heap.size ≤ p ∧ w.heap.size ≤ bd ∧ w.heap.size ≤ bn) ∧ ∀ a, A2 = some a → p < a.block ∧ bd < a.block ∧ bn < a.block := by
  have H := Lib.hid h
  have HF := Lib.hid hF
  have HE0 := Lib.hid hE
  obtain ⟨i0, hi, hz0, hz1, hz2⟩ := ev_info
  clear h hF hE
  go_enter Tryd.func7, Tryd.ntmps7
  go_wp2_with fail
  refine (new_any w).mono ?_; rintro e w1 ⟨p, bd, bn, rfl, hst, b1, hp0, hp1, hp2⟩
  have hlp := hst.lp
  have hld := hst.ld
  have hln := hst.ln
  have ST := Lib.hid hst
  have HB1 := Lib.hid b1
  clear hst b1
  go_wp2_with fail
  go_loopg [6, 7, 8] ms.length (fun gg ov iv _ wr => ∃ k : Nat, k ≤ ms.length ∧ ms.length - k ≤ gg ∧ iv = .int .i64 k ∧ Hid (wr.ownsRow w1.heap.size 37 20 ov (okS (ms.take k)).length ((okS (ms.take k)).flatMap evL)) ∧ Hid (StE wr p bd bn (okS (ms.take k))) ∧ Hid (Below w.heap.size w wr) ∧ w1.heap.size ≤ wr.heap.size)
  case atStart => exact ⟨0, by omega, by omega, rfl, Lib.hid (own2_nil _ _ _ _), ST, HB1, Nat.le_refl _⟩
  case round =>
    obtain ⟨k, hk, hgk, rfl, HO, HS, HB, hsz⟩ := hrel
    by_cases hlt : k < ms.length
    · obtain ⟨b, o, m, hA, hbl, hmk, hcell, hgm⟩ := H.out.at_ hlt
      subst hA
      have hsz0 : w.heap.size ≤ wr.heap.size := HB.out.size
      have HC0 := Lib.hid hcell
      have HG0 := Lib.hid hgm
      have HC := Lib.hid (range_below hcell HB.out)
      have HGM := Lib.hid (hgm.below HB.out)
      have HFM := Lib.hid (HF.out m (List.mem_of_getElem? hmk))
      have HOK := Lib.hid (okS_succ hmk)
      have HLOW := Lib.hid hgm.low
      have hck := mCheck_any m wr HGM.out HFM.out (HE0.out.below HB.out)
      clear hmk hcell hgm
      go_wp2_with (refine wpList_load_mid rfl 37 _ rfl b (o + k * 20) rfl (evL m) _ HC.out Tryd.underlying37 rfl (by rw [evL_length]; exact ev_size) ?_)
      refine hck.mono ?_; rintro e w2 ⟨rfl, b2⟩
      clear hck
      have HS2 := Lib.hid (StM.below HS.out b2)
      have HO2 := Lib.hid (own_below HO.out b2)
      have HC2 := Lib.hid (range_below HC.out b2)
      have HGM2 := Lib.hid (HGM.out.below b2)
      have HB2 := Lib.hid (HB.out.tr b2)
      have hsz2 : wr.heap.size ≤ w2.heap.size := b2.size
      have hn : (okS (ms.take k)).length ≤ 40 := by have := okS_len (ms.take k); rw [List.length_take] at this; omega
      have hmn : ((okS (ms.take k)).map (·.e)).length ≤ 40 := by rw [List.length_map]; exact hn
      clear b2 HO HS HC HGM HB
      by_cases hz : chkE m.e = 0
      · have HOK1 : Hid (okS (ms.take (k + 1)) = okS (ms.take k) ++ [m]) := Lib.hid (by have := HOK.out; rwa [if_pos hz] at this)
        have hz2 := sizesL_bnd _ (okS_good (ms := ms.take k))
        have hadd := add_yes p bd bn _ _ _ m w2 186122240 HGM2.out HFM.out (HE0.out.below HB2.out) HS2.out hz (by omega) (by omega) ((daysL_bnd _ okS_good).mono (by omega)) ((namesL_bnd _ okS_good).mono (by omega))
          ⟨fun hl q r e => by have := HLOW.out.1 hl q r e; omega, fun hl q r e => by have := HLOW.out.2 hl q r e; omega⟩ (fun j => by have := hz2 j; omega) (by have := daysL_len ((okS (ms.take k)).map (·.e)); omega) (by have := namesL_len _ (okS_good (ms := ms.take k)); omega) (by rw [daysL_tot]; omega)
        have hev := fun W hg hE => evCheck_any m W hg HFM.out hE
        rw [hz] at hev ⊢
        have HEV := Lib.hid hev
        clear hev hz2 hz HOK
        go_wp2_with (first | refine wpList_load_mid rfl 37 _ rfl b (o + k * 20) rfl (evL m) _ HC2.out Tryd.underlying37 rfl (by rw [evL_length]; exact ev_size) ?_)
        refine hadd.mono ?_; rintro e w3 ⟨rfl, hs3, b3⟩
        have b3b := b3.toBelow (B := w.heap.size) (by omega) (by simp; omega)
        have HB3 := Lib.hid (HB2.out.trans b3b)
        have HC3 := Lib.hid (range_below HC0.out HB3.out)
        have HO3 := Lib.hid (own_keep HO2.out fun q hq hb => b3.block q hq fun hin => by have := (HO2.out.lt q hb).1; simp at hin; omega)
        have HS3 : Hid (StE w3 p bd bn (okS (ms.take (k + 1)))) := Lib.hid (by (show StE w3 p bd bn (okS (ms.take (k + 1)))); rw [HOK1.out]; unfold StE; rw [List.map_append, List.map_singleton, daysL_snoc, namesL_snoc, sizesL_snoc]; exact hs3)
        have hev := HEV.out w3 (HG0.out.below HB3.out) (HE0.out.below HB3.out)
        have hsz3 : w2.heap.size ≤ w3.heap.size := b3.size
        clear hadd b3 b3b hs3 HS2 HO2 HC2 HGM2 HB2 HEV HFM HLOW
        go_wp2_with (first | refine wpList_load_mid_g (by rfl) 37 _ rfl b (o + k * 20) rfl (evL m) _ HC3.out Tryd.underlying37 rfl (by rw [evL_length]; exact ev_size) ?_)
        refine hev.mono ?_; rintro e w4 ⟨rfl, b4⟩
        have HB4 := Lib.hid (HB3.out.tr b4)
        have HC4 := Lib.hid (range_below HC3.out b4)
        have HO4 := Lib.hid (own_below HO3.out b4)
        have HS4 := Lib.hid (StM.below HS3.out b4)
        have hsz4 : w3.heap.size ≤ w4.heap.size := b4.size
        clear hev b4 HB3 HC3 HO3 HS3
        go_wp2_with (first | refine wpList_load_mid rfl 37 _ rfl b (o + k * 20) rfl (evL m) _ HC4.out Tryd.underlying37 rfl (by rw [evL_length]; exact ev_size) ?_ | refine wpList_buildEv rfl _ rfl m rfl ?_ | (at_builtin; refine wpList_appC Tryd.underlying22 hi hz0 hz1 hz2 rfl (by decide) _ rfl _ _ rfl w1.heap.size _ (okS (ms.take k)).length ((okS (ms.take k)).flatMap evL) (own_below HO4.out (below_new _ _)) rfl (some ⟨w4.heap.size, 0, none⟩) 1 1 (evL m) (evL_length m) (rdC_new _ _ _) rfl (one_evL m) (by omega) (by decide) (by simp; omega) ?_; intro v' w5 o5 g5 b5))
        have hb5 : Below w1.heap.size w4 w5 := (((below_new w4 (.cells (evL m).toArray 37)).mono (by omega)).trans b5)
        have HB5 := Lib.hid (HB4.out.trans (hb5.mono (by omega)))
        have HS5 := Lib.hid (StM.keep HS4.out (hb5.block p hlp) (hb5.block bd hld) (hb5.block bn hln))
        have HO5 : Hid (w5.ownsRow w1.heap.size 37 20 v' (okS (ms.take (k + 1))).length ((okS (ms.take (k + 1))).flatMap evL)) := Lib.hid (by (show w5.ownsRow w1.heap.size 37 20 v' (okS (ms.take (k + 1))).length ((okS (ms.take (k + 1))).flatMap evL)); rw [HOK1.out, List.length_append, List.length_singleton, List.flatMap_append, List.flatMap_singleton]; exact o5)
        have hsz5 : w1.heap.size ≤ w5.heap.size := by have := hb5.size; omega
        go_roundg (ms.length - (k + 1))
        case measure => omega
        case rel => exact ⟨k + 1, by omega, by omega, by go_num, HO5, HS5, HB5, hsz5⟩
      · have HOK1 : Hid (okS (ms.take (k + 1)) = okS (ms.take k)) := Lib.hid (by have := HOK.out; rwa [if_neg hz, List.append_nil] at this)
        have hadd := add_no p bd bn _ _ _ m w2 HGM2.out HFM.out (HE0.out.below HB2.out) HS2.out hz (chkE_rng _)
        have hev := fun W hg hE => evCheck_any m W hg HFM.out hE
        have hz12 := chkE_rng m.e
        obtain ⟨v, hv⟩ : ∃ q, chkE m.e = q := ⟨_, rfl⟩
        rw [hv] at hev hadd hz hz12 ⊢
        have hvb : ((v : Int) == 0) = false := by simp; omega
        have HEV := Lib.hid hev
        clear hev hz hv HOK
        go_wp2_with (first | refine wpList_load_mid rfl 37 _ rfl b (o + k * 20) rfl (evL m) _ HC2.out Tryd.underlying37 rfl (by rw [evL_length]; exact ev_size) ?_)
        refine hadd.mono ?_; rintro e w3 ⟨rfl, hs3, b3⟩
        have HB3 := Lib.hid (HB2.out.tr b3)
        have HC3 := Lib.hid (range_below HC0.out HB3.out)
        have HO3 := Lib.hid (own_below HO2.out b3)
        have HS3 : Hid (StE w3 p bd bn (okS (ms.take (k + 1)))) := Lib.hid (by (show StE w3 p bd bn (okS (ms.take (k + 1)))); rw [HOK1.out]; exact hs3)
        have hev := HEV.out w3 (HG0.out.below HB3.out) (HE0.out.below HB3.out)
        have hsz3 : w2.heap.size ≤ w3.heap.size := b3.size
        clear hadd b3 hs3 HS2 HO2 HC2 HGM2 HB2 HEV HFM HLOW
        go_wp2_with (first | refine wpList_load_mid_g (by rfl) 37 _ rfl b (o + k * 20) rfl (evL m) _ HC3.out Tryd.underlying37 rfl (by rw [evL_length]; exact ev_size) ?_)
        refine hev.mono ?_; rintro e w4 ⟨rfl, b4⟩
        have HB4 := Lib.hid (HB3.out.tr b4)
        have HO4 : Hid (w4.ownsRow w1.heap.size 37 20 u6 (okS (ms.take (k + 1))).length ((okS (ms.take (k + 1))).flatMap evL)) := Lib.hid (by (show w4.ownsRow w1.heap.size 37 20 u6 (okS (ms.take (k + 1))).length ((okS (ms.take (k + 1))).flatMap evL)); rw [HOK1.out]; exact own_below HO3.out b4)
        have HS4 := Lib.hid (StM.below HS3.out b4)
        have hsz4 : w1.heap.size ≤ w4.heap.size := by have := b4.size; omega
        clear hev b4 HB3 HC3 HO3 HS3
        go_wp2_with fail
        go_roundg (ms.length - (k + 1))
        case measure => omega
        case rel => exact ⟨k + 1, by omega, by omega, by go_num, HO4, HS4, HB4, hsz4⟩
    · obtain rfl : k = ms.length := by omega
      rw [List.take_length] at HO HS
      have HOO := Lib.hid HO.out
      obtain ⟨A2, c2, rfl⟩ := own2_slice HO.out
      go_wp2_with fail
      refine bodyPost_ret (v := .tuple #[.pointer (some ⟨p, 0, none⟩), .slice A2 (okS ms).length c2, .bool true]) (by simp [results, Tryd.results7, go_sem]) rfl ?_
      refine ⟨p, bd, bn, A2, c2, rfl, HS.out, RdE.of_own HO.out fun m hm => (H.out.good m (List.mem_filter.1 hm).1).below HB.out, own2_le HO.out, own2_cap HO.out, HB.out, ⟨hp0, hp1, hp2⟩, fun a ha => ?_⟩
      have := (HO.out.lt a.block (by rw [ha]; rfl)).1
      omega
end Go.Proofs.YthgefcoaaommkaaDoor
