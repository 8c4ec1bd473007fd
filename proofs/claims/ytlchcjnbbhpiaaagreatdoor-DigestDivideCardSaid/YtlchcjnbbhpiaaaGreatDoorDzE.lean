/- Contract: the program's Divide. -/
import Derived.Test.YtlchcjnbbhpiaaaGreatDoorDzC
namespace Go.Dg
open Go.Lib
theorem divL_step (d : Dg) (m bs : Nat) (k : Nat) {rest : List It} (h : rest ≠ []) {n : Nat} (hn : fitN d k bs rest (min m rest.length) 0 = n) :
  divL d m bs rest.length k rest = if n = 0 then none else (divL d m bs (rest.drop n).length (k + 1) (rest.drop n)).map (part d k (rest.take n) :: ·) := by
 cases rest with
 | nil => exact absurd rfl h
 | cons x r =>
  subst hn
  rw [List.length_cons, divL]
  simp only [List.length_cons]
  by_cases h0 : fitN d k bs (x :: r) (min m (r.length + 1)) 0 = 0
  ·rw [if_pos h0, if_pos h0]
  ·rw [if_neg h0, if_neg h0, divL_fuel d m bs r.length (k + 1) _ (by rw [List.length_drop, List.length_cons]; omega)]
/-- Where the parts stand: those that are done, the items left. -/
structure DiK (d : Dg) (m bs : Nat) (ps : List Dg) (rest : List It) : Prop where
 eq : divL d m bs d.its.length 0 d.its = (divL d m bs rest.length ps.length rest).map (ps ++ ·)
theorem DiK.zero (d : Dg) (m bs : Nat) : DiK d m bs [] d.its := ⟨by rw [List.length_nil]; cases divL d m bs d.its.length 0 d.its <;> simp⟩
theorem DiK.none {d : Dg} {m bs : Nat} {ps : List Dg} {rest : List It} (h : DiK d m bs ps rest) (hr : rest ≠ []) (hn : fitN d ps.length bs rest (min m rest.length) 0 = 0) : divL d m bs d.its.length 0 d.its = none := by
 rw [h.eq, divL_step d m bs _ hr hn, if_pos rfl]
 rfl
theorem DiK.next {d : Dg} {m bs : Nat} {ps : List Dg} {rest : List It} (h : DiK d m bs ps rest) (hr : rest ≠ []) {n : Nat} (hn : fitN d ps.length bs rest (min m rest.length) 0 = n) (h0 : n ≠ 0) : DiK d m bs (ps ++ [part d ps.length (rest.take n)]) (rest.drop n) :=
 ⟨by
  rw [h.eq, divL_step d m bs _ hr hn, if_neg h0, List.length_append, List.length_singleton]
  cases divL d m bs (rest.drop n).length (ps.length + 1) (rest.drop n) <;> simp⟩
theorem DiK.end {d : Dg} {m bs : Nat} {ps : List Dg} (h : DiK d m bs ps []) : divL d m bs d.its.length 0 d.its = some ps := by
 rw [h.eq]
 simp [divL]
theorem divF_bad {d : Dg} {items bytes : Int} {z : Int} (e : chkD d = z) (h : z ≠ 0) : divF d items bytes = ([], z) := by unfold divF; rw [e, if_pos h]
theorem divF_rng {d : Dg} {items bytes : Int} (h : chkD d = 0) (hr : (items < 1 ∨ 200 < items) ∨ (bytes < 1 ∨ 1048576 < bytes)) : divF d items bytes = ([], 2) := by
 unfold divF
 rw [h, if_neg (by decide), if_pos hr]
def divO (d : Dg) : Option (List Dg) → List Dg × Int
 | none => ([], 5)
 | some l => if d.ie + l.length - 1 > 1000000 then ([], 2) else (l, 0)
theorem divF_div {d : Dg} {items bytes : Int} (h : chkD d = 0) (hr : ¬ ((items < 1 ∨ 200 < items) ∨ (bytes < 1 ∨ 1048576 < bytes))) : divF d items bytes = divO d (divL d items.toNat bytes.toNat d.its.length 0 d.its) := by
 unfold divF divO
 rw [h, if_neg (by decide), if_neg hr]
 cases divL d items.toNat bytes.toNat d.its.length 0 d.its <;> rfl
end Go.Dg
namespace Go.Proofs.YtlchcjnbbhpiaaaGreatDoor
open Go.RowKit Go.Shelf Go.Dg Go.Maps
/-- A part of a digest that passes its check can be written. -/
theorem part_ok {w : World} {d : Dg} {A : Option Addr} {c : Nat} (h : DgIn w d A c) (h0 : chkD d = 0) {k : Nat} (hk : k ≤ 1000) {l : List It} (hl : l.length ≤ 200) (hm : ∀ x ∈ l, x ∈ d.its) :
  DgOk (Go.Dg.part d k l) ∧ (∀ x ∈ (Go.Dg.part d k l).its, x.su.length ≤ 10000) ∧ (textD (Go.Dg.part d k l)).length ≤ 100000000000000 := by
 obtain ⟨q1, q2, q3, q4, -, q6, q7, q8⟩ := chkD_zero h0
 unfold titleB at q1
 unfold ordB at q2 q3
 simp only [Bool.and_eq_true, decide_eq_true_eq] at q1 q2 q3
 have hs : ∀ x ∈ l, minB x.dt = true ∧ x.fr.length ≤ 1000 ∧ x.su.length ≤ 1000 := fun x hx => by
  obtain ⟨a, e, b, _⟩ := chkI_zero.1 (chkL_each d.its [] q7 x (hm x hx))
  unfold fromB at a
  unfold subjB at b
  simp only [Bool.and_eq_true, decide_eq_true_eq] at a b
  exact ⟨e, by omega, by omega⟩
 have hb : ∀ x ∈ l, x.ky.length = 32 ∧ x.bo.length ≤ 1000000000 := fun x hx => ⟨h.rd.ky x (hm x hx), (h.it x (hm x hx)).2.2⟩
 refine ⟨⟨by (show l.length ≤ _); omega, by (show d.ti.length ≤ _); omega, by (show 0 ≤ d.vo ∧ d.vo ≤ _); omega, by (show 0 ≤ d.ie + (k : Int) ∧ d.ie + (k : Int) ≤ _); omega, q4, fun x hx => ⟨(hs x hx).1, (hb x hx).1, Nat.le_trans (hs x hx).2.2 (by omega), (hb x hx).2⟩⟩, fun x hx => Nat.le_trans (hs x hx).2.2 (by decide), ?_⟩
 exact text_bound2 hl (by (show d.ti.length ≤ _); omega) (by (show d.vo ≤ _); omega) (by (show d.ie + (k : Int) ≤ _); omega) q4 (fun x hx => ⟨(hs x hx).1, (hs x hx).2.1, (hs x hx).2.2, (hb x hx).1, (hb x hx).2⟩) (fun s => nums_join (by (show l.length ≤ _); omega) s) (subj_len l)
/-- Where the inner loop stands: the part under way lies in the first block behind u. -/
structure DiP (u W : World) (d : Dg) (ie : Int) (V : Value) : Prop where
 bel : Below u.heap.size u W
 blk : W.heap[u.heap.size]? = some (.cells #[enS d.ti, i64 d.vo, i64 ie, i64 d.da, V] 32 (0, 0))
theorem DiP.below {u W W' : World} {d : Dg} {ie : Int} {V : Value} (h : DiP u W d ie V) (hb : Below W.heap.size W W') : DiP u W' d ie V := ⟨h.bel.tr hb, blk_below hb h.blk⟩
theorem DiP.set {u W : World} {d : Dg} {ie : Int} {V : Value} (h : DiP u W d ie V) (V' : Value) : DiP u (W.setCell ⟨u.heap.size, 4, none⟩ V') d ie V' := by
 have hk : But u.heap.size W (W.setCell ⟨u.heap.size, 4, none⟩ V') := (But.refl _ _).setCell _
 exact ⟨h.bel.trans (but_lowJ hk (Nat.le_refl _) h.bel.size), blk_set h.blk 4 V'⟩
theorem addr_addN36 (b o n : Nat) : Option.map (fun x : Addr => x.add (n * 36)) (some ⟨b, o, none⟩) = some ⟨b, o + n * 36, none⟩ := by
 simp [Addr.add]
theorem RdI.drop {w : World} {A : Option Addr} {xs : List It} (h : RdI w A xs) {n c : Nat} (hc : xs.length ≤ c) : RdI w (if c = n then A else A.map fun x => x.add (n * 36)) (xs.drop n) := by
 refine ⟨fun hp => ?_, fun x hx => h.ky x (List.mem_of_mem_drop hx)⟩
 rw [List.length_drop] at hp
 obtain ⟨b, o, e, hlt, hr⟩ := h.rd (by omega)
 rw [if_neg (by omega), e]
 refine ⟨b, o + n * 36, addr_addN36 b o n, hlt, fun j x hj => ?_⟩
 rw [List.getElem?_drop] at hj
 have := hr _ x hj
 rwa [show o + n * 36 + j * 36 = o + (n + j) * 36 by omega]
set_option maxRecDepth 100000 in
set_option maxHeartbeats 32000000 in
theorem divide_any (d : Dg) (A : Option Addr) (c : Nat) (items bytes : Int) (w : World) (hr : RdI w A d.its) (hc : d.its.length ≤ c) (ht : Tab w) (hn : d.its.length ≤ 1000000) (hti : d.ti.length ≤ 1000000000) (hx : ∀ x ∈ d.its, x.fr.length ≤ 1000000000 ∧ x.su.length ≤ 1000000000 ∧ x.bo.length ≤ 1000000000) :
  Calls Tryz.prog 40 #[dgA d A c, i64 items, i64 bytes] w fun e w' => (∃ (A' : Option Addr) (c' : Nat) (l : List DgX), e = .returned (.tuple #[.slice A' l.length c', i64 (divF d items bytes).2]) ∧ l.map (·.1) = (divF d items bytes).1 ∧ RdG w' A' l ∧ l.length ≤ c') ∧ Below w.heap.size w w' := by
 have HFB := Lib.hid (fun (z : Int) (e : chkD d = z) (h : z ≠ 0) => divF_bad (items := items) (bytes := bytes) e h)
 have HFR := Lib.hid (fun (h : chkD d = 0) hr => divF_rng (items := items) (bytes := bytes) h hr)
 have HFD := Lib.hid (fun (h : chkD d = 0) hr => divF_div (items := items) (bytes := bytes) h hr)
 obtain ⟨F, hF⟩ : ∃ q, divF d items bytes = q := ⟨_, rfl⟩
 rw [hF] at HFB HFR HFD ⊢
 clear hF
 have HR := Lib.hid hr
 have HT := Lib.hid ht
 have HX := Lib.hid hx
 have HTI := Lib.hid hti
 have B1 := Lib.hid (below_new w (.cells #[enS d.ti, i64 d.vo, i64 d.ie, i64 d.da, .slice A d.its.length c] 32))
 have D1 := Lib.hid (blk_new w (.cells #[enS d.ti, i64 d.vo, i64 d.ie, i64 d.da, .slice A d.its.length c] 32))
 clear hr ht hx hti
 go_enter Tryz.func40, Tryz.ntmps40
 go_upto_region 1 with fail
 generalize w.alloc (.cells #[enS d.ti, i64 d.vo, i64 d.ie, i64 d.da, .slice A d.its.length c] 32) = w1 at *
 have HIN : Hid (∀ W, Below w1.heap.size w1 W → DgIn W d A c) := Lib.hid fun W hb => ⟨HR.out.below (B1.out.tr hb), hc, HT.out.below (B1.out.tr hb), by omega, HTI.out, HX.out⟩
 have RD := Lib.hid (range_blk (cs := [enS d.ti, i64 d.vo, i64 d.ie, i64 d.da, .slice A d.its.length c]) D1.out)
 go_wp2_with (refine wpList_load_mid rfl 32 _ rfl w.heap.size 0 rfl [enS d.ti, i64 d.vo, i64 d.ie, i64 d.da, .slice A d.its.length c] _ RD.out Tryz.underlying32 rfl (by kernel_rfl) ?_)
 refine ((HIN.out w1 (Below.refl _ _)).check).mono ?_; rintro e w2 ⟨rfl, b2⟩
 have B2 := Lib.hid b2
 clear b2 RD HR HT HX HTI
 obtain ⟨ec, hec⟩ : ∃ z, chkD d = z := ⟨_, rfl⟩
 rw [hec]
 have HEC := Lib.hid hec
 clear hec
 by_cases he : ec = 0
 case neg =>
  have HVE := Lib.hid (HFB.out ec HEC.out he)
  have hq : (ec != 0) = true := by simpa using he
  clear he
  go_wp2_with fail
  go_ret2
  exact ⟨⟨none, 0, [], by rw [HVE.out]; rfl, by rw [HVE.out]; rfl, RdG.nil, Nat.le_refl _⟩, B1.out.tr B2.out⟩
 subst he
 by_cases hrg : (items < 1 ∨ 200 < items) ∨ (bytes < 1 ∨ 1048576 < bytes)
 ·have HVE := Lib.hid (HFR.out HEC.out hrg)
  have hz : (decide (items < 1) || decide (200 < items) || decide (bytes < 1) || decide (1048576 < bytes)) = true := by
   simp only [Bool.or_eq_true, decide_eq_true_eq]; omega
  clear hrg
  go_wp2_with fail
  all_goals go_ret2
  all_goals exact ⟨⟨none, 0, [], by rw [HVE.out]; rfl, by rw [HVE.out]; rfl, RdG.nil, Nat.le_refl _⟩, B1.out.tr B2.out⟩
 have hz1 : decide (items < 1) = false := by simp only [decide_eq_false_iff_not]; omega
 have hz2 : decide (200 < items) = false := by simp only [decide_eq_false_iff_not]; omega
 have hz3 : decide (bytes < 1) = false := by simp only [decide_eq_false_iff_not]; omega
 have hz4 : decide (1048576 < bytes) = false := by simp only [decide_eq_false_iff_not]; omega
 have HV := Lib.hid (HFD.out HEC.out hrg)
 obtain ⟨m, rfl⟩ : ∃ m : Nat, items = m := ⟨items.toNat, by omega⟩
 obtain ⟨bs, rfl⟩ : ∃ m : Nat, bytes = m := ⟨bytes.toNat, by omega⟩
 rw [Int.toNat_natCast, Int.toNat_natCast] at HV
 have HM := Lib.hid (show 1 ≤ m ∧ m ≤ 200 by omega)
 have HN := Lib.hid (chkD_zero HEC.out)
 clear HFB HFR HFD hrg
 go_upto_region 6 with fail
 clear hz1 hz2 hz3 hz4
 have c4 := blk_cell (blk_below B2.out D1.out) 4
 have L0 : Hid (LjS w1 w2 (.slice none 0 0) []) := Lib.hid ⟨B2.out, own2_nil _ _ _ _, fun g e => (by cases e), by simp⟩
 have R0 : Hid (RdI w1 A d.its ∧ d.its.length ≤ c ∧ ∀ x ∈ d.its, x ∈ d.its) := Lib.hid ⟨(HIN.out w1 (Below.refl _ _)).rd, hc, fun _ h => h⟩
 have K0 : Hid (DiK d m bs (([] : List DgX).map (·.1)) d.its) := Lib.hid (DiK.zero d m bs)
 have LN0 : Hid (([] : List DgX).length + d.its.length ≤ d.its.length) := Lib.hid (by (show _ ≤ _); simp)
 go_upto_block 0 with fail
 clear c4
 go_cut [9] (fun v wx => ∃ l : List DgX, Hid (LjS w1 wx v l) ∧ Hid (DiK d m bs (l.map (·.1)) []))
 case first =>
  go_wp2_with fail
  go_loopg [9, 10] d.its.length (fun gg v rv wr => ∃ (l : List DgX) (rest : List It) (A' : Option Addr) (c' : Nat), rest.length ≤ gg ∧ rv = .slice A' rest.length c' ∧ Hid (LjS w1 wr v l) ∧ Hid (DiK d m bs (l.map (·.1)) rest) ∧ Hid (RdI w1 A' rest ∧ rest.length ≤ c' ∧ ∀ x ∈ rest, x ∈ d.its) ∧ Hid (l.length + rest.length ≤ d.its.length))
  case atStart => exact ⟨[], d.its, A, c, Nat.le_refl _, rfl, L0, K0, R0, LN0⟩
  case round =>
   obtain ⟨l, rest, A', c', hgg, rfl, LW, KW, RW, LN⟩ := hrel
   clear L0 K0 R0 LN0
   by_cases hlt : 0 < rest.length
   case neg =>
    obtain rfl : rest = [] := List.eq_nil_of_length_eq_zero (by omega)
    go_wp2_with fail
    go_meet
    exact ⟨l, LW, KW⟩
   obtain ⟨A3, c3, rfl⟩ := own2_slice LW.out.ow
   have src := blk_below LW.out.bel D1.out
   have e0 := blk_cell src 0
   have e1 := blk_cell src 1
   have e2 := blk_cell src 2
   have e3 := blk_cell src 3
   have hie := HN.out.2.2.1
   unfold ordB at hie
   simp only [Bool.and_eq_true, decide_eq_true_eq] at hie
   have hwr : wrap64 (d.ie + l.length) = d.ie + l.length := by
    have h2 := LN.out
    have h3 := HN.out.2.2.2.2.2.1
    unfold wrap64
    omega
   clear hie src
   go_upto_region 10 with fail
   generalize hw1 : World.alloc wr _ = wp
   have P0 : Hid (DiP wr wp d (d.ie + l.length) (.slice none 0 0)) := Lib.hid ⟨hw1 ▸ below_new _ _, hw1 ▸ blk_new _ _⟩
   clear hw1 e0 e1 e2 e3 hwr
   generalize wr = u at *
   go_upto_block 2 with fail
   go_cut [12] (fun nv wx => ∃ n : Nat, nv = i64 n ∧ n ≤ min m rest.length ∧ Hid (fitN d l.length bs rest (min m rest.length) 0 = n) ∧ Hid (∃ V, DiP u wx d (d.ie + l.length) V))
   case first =>
    go_wp2_with fail
    go_loopg [12] (min m rest.length) (fun gg nv wr => ∃ n : Nat, n ≤ min m rest.length ∧ min m rest.length - n ≤ gg ∧ nv = i64 n ∧ Hid (fitN d l.length bs rest (min m rest.length) 0 = fitN d l.length bs rest (min m rest.length - n) n) ∧ Hid (∃ V, DiP u wr d (d.ie + l.length) V))
    case atStart => exact ⟨0, Nat.zero_le _, by omega, rfl, Lib.hid rfl, Lib.hid ⟨_, P0.out⟩⟩
    case round =>
     obtain ⟨n, hn2, hgg2, rfl, HF, HP⟩ := hrel
     clear P0
     by_cases hlt2 : n < min m rest.length
     case neg =>
      obtain rfl : n = min m rest.length := by omega
      go_wp2_with fail
      go_meet
      exact ⟨_, rfl, Nat.le_refl _, Lib.hid (by (show _ = _); rw [HF.out, Nat.sub_self]; rfl), HP⟩
     obtain ⟨V, P⟩ := HP.out
     have b4 := blk_cell P.blk 4
     have f4 := blk_free P.blk 4
     have hrl : rest.length ≤ d.its.length := by have := LN.out; omega
     have hwn : wrap64 ((n : Int) + 1) = (n : Int) + 1 := by unfold wrap64; omega
     have htn : ((n : Int) + 1).toNat = n + 1 := by omega
     have hcl : n + 1 ≤ c' := by have := RW.out.2.1; omega
     go_upto_region 13 with fail
     have PS := Lib.hid (P.set (.slice A' (n + 1) c'))
     have hl1 : (rest.take (n + 1)).length = n + 1 := by rw [List.length_take]; omega
     have HS : Hid (∀ W, Below u.heap.size u W → Calls Tryz.prog 59 #[.agg #[enS d.ti, i64 d.vo, i64 (d.ie + l.length), i64 d.da, .slice A' (n + 1) c']] W fun e w' => e = .returned (i64 (szD (Go.Dg.part d l.length (rest.take (n + 1))))) ∧ Below W.heap.size W w') := Lib.hid fun W hb => by
      obtain ⟨p1, p2, p3⟩ := part_ok (HIN.out u LW.out.bel) HEC.out (k := l.length) (by have := LN.out; have := HN.out.2.2.2.2.2.1; omega) (l := rest.take (n + 1)) (by rw [hl1]; have := HM.out; omega) (fun x hx => RW.out.2.2 x (List.mem_of_mem_take hx))
      have h := size_any (Go.Dg.part d l.length (rest.take (n + 1))) A' c' W ((RW.out.1.take (n + 1)).below (LW.out.bel.tr hb)) (by (show (rest.take (n + 1)).length ≤ c'); rw [hl1]; exact hcl) (HIN.out W (LW.out.bel.tr hb)).tab p1 p2 p3
      have e : dgA (Go.Dg.part d l.length (rest.take (n + 1))) A' c' = .agg #[enS d.ti, i64 d.vo, i64 (d.ie + l.length), i64 d.da, .slice A' (n + 1) c'] := by
       (show Value.agg #[enS d.ti, i64 d.vo, i64 (d.ie + l.length), i64 d.da, .slice A' (rest.take (n + 1)).length c'] = _)
       rw [hl1]
      rw [e] at h
      exact h
     clear b4 f4 hl1 P HP hrl hcl htn
     obtain ⟨L, hL⟩ : ∃ q, szD (Go.Dg.part d l.length (rest.take (n + 1))) = q := ⟨_, rfl⟩
     rw [hL] at HS
     have HFN := Lib.hid (show fitN d l.length bs rest (min m rest.length) 0 = if bs < L then n else fitN d l.length bs rest (min m rest.length - (n + 1)) (n + 1) by
      rw [HF.out, show min m rest.length - n = (min m rest.length - (n + 1)) + 1 by omega, fitN, hL])
     clear hL HF
     generalize World.setCell wr _ _ = w3 at *
     have RG := Lib.hid (range_blk (cs := [enS d.ti, i64 d.vo, i64 (d.ie + l.length), i64 d.da, .slice A' (n + 1) c']) PS.out.blk)
     go_wp2_with (refine wpList_load_mid rfl 32 _ rfl u.heap.size 0 rfl [enS d.ti, i64 d.vo, i64 (d.ie + l.length), i64 d.da, .slice A' (n + 1) c'] _ RG.out Tryz.underlying32 rfl (by kernel_rfl) ?_)
     refine (HS.out w3 PS.out.bel).mono ?_; rintro e w4 ⟨rfl, b4⟩
     have P4 := Lib.hid (PS.out.below b4)
     clear b4 PS RG HS
     by_cases hL2 : bs < L
     ·have hq : decide (bs < L) = true := by simp only [decide_eq_true_eq]; omega
      rw [if_pos hL2] at HFN
      go_wp2_with fail
      go_meet
      exact ⟨n, rfl, hn2, HFN, Lib.hid ⟨_, P4.out⟩⟩
     ·have hq : decide (bs < L) = false := by simp only [decide_eq_false_iff_not]; omega
      rw [if_neg hL2] at HFN
      go_wp2_with fail
      go_roundg (min m rest.length - (n + 1))
      case measure => omega
      case rel => exact ⟨n + 1, by omega, by omega, by rw [hwn]; rfl, HFN, Lib.hid ⟨_, P4.out⟩⟩
   obtain ⟨n, rfl, hn2, HF, HP⟩ := hcut
   obtain ⟨V, P⟩ := HP.out
   generalize wc = w3 at *
   have P3 := Lib.hid P
   have hrne : rest ≠ [] := fun e => by rw [e] at hlt; exact absurd hlt (by decide)
   clear HP P P0
   by_cases hn0 : n = 0
   ·subst hn0
    have HVE : Hid (F = ([], 5)) := Lib.hid (by
     (show _ = _)
     rw [HV.out, KW.out.none hrne (by rw [List.length_map]; exact HF.out)]; rfl)
    go_wp2_with fail
    go_ret2
    exact ⟨⟨none, 0, [], by rw [HVE.out]; rfl, by rw [HVE.out]; rfl, RdG.nil, Nat.le_refl _⟩, B1.out.tr (LW.out.bel.tr P3.out.bel)⟩
   have hnz : ((n : Int) == 0) = false := by simpa using hn0
   have HNK := Lib.hid (KW.out.next hrne (by rw [List.length_map]; exact HF.out) hn0)
   rw [List.length_map] at HNK
   have hnr : n ≤ rest.length := by omega
   have hncl : n ≤ c' := by have := RW.out.2.1; omega
   have hln : (rest.take n).length = n := by rw [List.length_take]; omega
   have HCL := Lib.hid (cloneIt_any A' c' (rest.take n) w3 ((RW.out.1.take n).below (LW.out.bel.tr P3.out.bel)).cells (by have := LN.out; omega))
   rw [hln] at HCL
   have HN0 := Lib.hid hn0
   clear HF hn0 KW
   go_upto_region 17 with fail
   go_wp2_with fail
   refine HCL.out.mono ?_; rintro e w4 ⟨A4, c4, rfl, o4, b4⟩
   have P4 := Lib.hid (P3.out.below b4)
   have d4 := blk_cell P4.out.blk 4
   have f4 := blk_free P4.out.blk 4
   go_upto_region 18 with fail
   have P5 := Lib.hid (P4.out.set (.slice A4 n c4))
   have O5 := Lib.hid (own_but o4 (show u.heap.size < w3.heap.size from blk_lt P3.out.blk) ((But.refl u.heap.size w4).setCell (.slice A4 n c4) (o := 4)))
   have HB3 := Lib.hid (blk_lt P3.out.blk)
   clear d4 f4 o4 b4 P4 P3 HCL
   generalize World.setCell w4 _ _ = w5 at *
   have L5 := Lib.hid (LW.out.below P5.out.bel)
   have hev : Value.agg #[enS d.ti, i64 d.vo, i64 (d.ie + l.length), i64 d.da, .slice A4 n c4] = dgA (Go.Dg.part d l.length (rest.take n)) A4 c4 := by
    (show _ = Value.agg #[enS d.ti, i64 d.vo, i64 (d.ie + l.length), i64 d.da, .slice A4 (rest.take n).length c4])
    rw [hln]
   have HEV := Lib.hid hev
   have K5 : Hid (RdI w5 A4 (rest.take n) ∧ (rest.take n).length ≤ c4 ∧ (∀ p, A4 = some p → (Value.slice A3 l.length c3).ownBlock ≠ some p.block)) := Lib.hid ⟨RdI.of_own O5.out (fun x hx => (RW.out.1.take n).ky x hx), by rw [hln]; exact own2_le O5.out, fun p hp e => by
    have h1 := own2_from O5.out p hp
    have h2 := own_lt LW.out.ow e
    have h3 := HB3.out
    omega⟩
   have hll : l.length ≤ 1000000 := by have := LN.out; omega
   have RG := Lib.hid (range_blk (cs := [enS d.ti, i64 d.vo, i64 (d.ie + l.length), i64 d.da, .slice A4 n c4]) P5.out.blk)
   clear hev O5 LW HB3
   go_upto_region 19 with (first | refine wpList_load_mid rfl 32 _ rfl u.heap.size 0 rfl [enS d.ti, i64 d.vo, i64 (d.ie + l.length), i64 d.da, .slice A4 n c4] _ RG.out Tryz.underlying32 rfl (by kernel_rfl) ?_ | refine wpList_one_dg rfl _ rfl (Go.Dg.part d l.length (rest.take n)) A4 c4 HEV.out ?_ | (at_builtin; refine wpList_app_dg rfl _ _ rfl _ l rfl (own_below L5.out.ow (below_new _ _)) w5.heap.size (Go.Dg.part d l.length (rest.take n), A4, c4) rfl (range_blk (blk_new w5 (.cells (dgxL (Go.Dg.part d l.length (rest.take n), A4, c4)).toArray 32))) hll ?_; intro v9 w9 o9 g9 f9))
   have bn := below_new w5 (.cells (dgxL (Go.Dg.part d l.length (rest.take n), A4, c4)).toArray 32)
   have L9 := Lib.hid ((L5.out.below bn).app (y := (Go.Dg.part d l.length (rest.take n), A4, c4)) ⟨K5.out.1.below bn, K5.out.2.1⟩ (fun _ p hp => K5.out.2.2 p hp) o9 g9 f9)
   have RD9 := Lib.hid (RW.out.1.drop (n := n) RW.out.2.1)
   have LN9 : Hid ((l ++ [((Go.Dg.part d l.length (rest.take n), A4, c4) : DgX)]).length + (rest.drop n).length ≤ d.its.length) := Lib.hid (by
    (show _ ≤ _)
    have := LN.out
    have := HN0.out
    rw [List.length_append, List.length_singleton, List.length_drop]
    omega)
   clear bn o9 g9 f9 L5 K5 RG P5 HEV
   have hnr' : (n : Int) ≤ rest.length := by omega
   go_wp2_with fail
   case inl hcn =>
    go_roundg (rest.length - n)
    case measure => have := HN0.out; omega
    case rel => exact ⟨l ++ [(Go.Dg.part d l.length (rest.take n), A4, c4)], rest.drop n, A', 0, by have := HN0.out; rw [List.length_drop]; omega, by rw [List.length_drop], L9, Lib.hid (by (show DiK _ _ _ _ _); rw [List.map_append]; exact HNK.out), Lib.hid ⟨by have h := RD9.out; rwa [if_pos (by first | exact hcn | omega)] at h, by have := RW.out.2.1; rw [List.length_drop]; omega, fun x hx => RW.out.2.2 x (List.mem_of_mem_drop hx)⟩, LN9⟩
   case inr hcn =>
    go_roundg (rest.length - n)
    case measure => have := HN0.out; omega
    case rel => exact ⟨l ++ [(Go.Dg.part d l.length (rest.take n), A4, c4)], rest.drop n, A'.map (fun x => x.add (n * 36)), c' - n, by have := HN0.out; rw [List.length_drop]; omega, by rw [List.length_drop], L9, Lib.hid (by (show DiK _ _ _ _ _); rw [List.map_append]; exact HNK.out), Lib.hid ⟨by have h := RD9.out; rwa [if_neg (by first | exact hcn | omega)] at h, by have := RW.out.2.1; rw [List.length_drop]; omega, fun x hx => RW.out.2.2 x (List.mem_of_mem_drop hx)⟩, LN9⟩
 obtain ⟨l, LX, KX⟩ := hcut
 clear L0 K0 R0 LN0
 generalize wc = w3 at *
 have HE := KX.out.end
 obtain ⟨-, hpt, hlen, hne⟩ := divL_parts d m bs d.its.length 0 d.its _ (Nat.le_refl _) HE
 rw [List.length_map] at hlen
 have hpos : 0 < l.length := by
  cases l with
  | nil => exact absurd rfl (hne HN.out.2.2.2.2.1)
  | cons => exact Nat.succ_pos _
 have HVE : Hid (F = if d.ie + l.length - 1 > 1000000 then ([], 2) else (l.map (·.1), 0)) := Lib.hid (by
  (show _ = _)
  rw [HV.out, HE]
  (show (if d.ie + (l.map (·.1)).length - 1 > 1000000 then _ else _) = _)
  rw [List.length_map])
 obtain ⟨A3, c3, rfl⟩ := own2_slice LX.out.ow
 have RG3 := Lib.hid (RdG.of_own LX.out.ow fun x hx => (LX.out.ok x hx).1)
 have hcl := own2_le LX.out.ow
 obtain ⟨b, o, x, rfl, hbl, hx, hrg, -⟩ := RG3.out.at_ (show l.length - 1 < l.length by omega)
 have hxi : x.1.ie = d.ie + l.length - 1 := by
  have h := (hpt (l.length - 1) x.1 (by rw [List.getElem?_map, hx]; rfl)).1
  rw [h]
  (show d.ie + ((0 + (l.length - 1) : Nat) : Int) = _)
  omega
 have B3 := Lib.hid LX.out.bel
 have hll : l.length ≤ 1000000 := by omega
 have t0 : w3.cell? ⟨b, o + (l.length - 1) * 5 + 2, none⟩ = some (i64 x.1.ie) := hrg 2 _ rfl
 have hws : wrap64 ((l.length : Int) - 1) = ((l.length - 1 : Nat) : Int) := by unfold wrap64; omega
 have hz : ((l.length : Int) - 1).toNat = l.length - 1 := by omega
 clear HE hpt hlen hne KX hrg hx LX HV
 have hi1 := HN.out.2.2.1
 unfold ordB at hi1
 simp only [Bool.and_eq_true, decide_eq_true_eq] at hi1
 have HI1 := Lib.hid hi1
 clear hi1
 go_wp2_with fail
 refine (isOrdinal_any _ w3).mono ?_; rintro e w4 ⟨rfl, rfl⟩
 clear t0 hws hz hxi
 by_cases hlate : d.ie + l.length - 1 > 1000000
 ·rw [if_pos hlate] at HVE
  have hq : ordB (d.ie + l.length - 1) = false := by
   unfold ordB
   rw [Bool.and_eq_false_iff]
   exact .inr (decide_eq_false (by omega))
  rw [hq]
  clear hlate hq
  go_wp2_with fail
  go_ret2
  exact ⟨⟨none, 0, [], by rw [HVE.out]; rfl, by rw [HVE.out]; rfl, RdG.nil, Nat.le_refl _⟩, B1.out.tr B3.out⟩
 ·rw [if_neg hlate] at HVE
  have hq : ordB (d.ie + l.length - 1) = true := by
   have := HI1.out
   unfold ordB
   rw [Bool.and_eq_true]
   exact ⟨decide_eq_true (by omega), decide_eq_true (by omega)⟩
  rw [hq]
  clear hlate hq
  go_wp2_with fail
  go_ret2
  exact ⟨⟨_, c3, l, by rw [HVE.out]; rfl, by rw [HVE.out], RG3.out, hcl⟩, B1.out.tr B3.out⟩
end Go.Proofs.YtlchcjnbbhpiaaaGreatDoor
