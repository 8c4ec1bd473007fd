/- The walk of the statement DigestJoin, the program's Join as a contract. -/
import Derived.Test.YtlchcjnbbhpiaaaGreatDoorZx
import Derived.Test.YtlchcjnbbhpiaaaGreatDoorZv
import Derived.Test.YtlchcjnbbhpiaaaGreatDoorDzB
import Derived.Test.YtlchcjnbbhpiaaaGreatDoorYad
namespace Go.Dg
theorem joinF_len {l : List Dg} (h : ∀ d ∈ l, d.its.length ≤ 1000) (hn : l.length ≤ 1000) : (joinF l).1.its.length ≤ 1000000 := by
 cases l with
 | nil => exact Nat.zero_le _
 | cons d r =>
  obtain ⟨z, hz⟩ : ∃ z, joinE d.ti d.vo [] (d :: r) = z := ⟨_, rfl⟩
  by_cases h0 : z = 0
  ·subst h0
   rw [joinF_good hz]
   split
   ·exact Nat.zero_le _
   ·show ((sortD (d :: r)).flatMap (·.its)).length ≤ _
    have h1 := its_len (sortD (d :: r)) (fun x hx => h x ((sortD_perm _).mem_iff.1 hx))
    rw [(sortD_perm _).length_eq] at h1
    have : (d :: r).length * 1000 ≤ 1000 * 1000 := Nat.mul_le_mul_right _ hn
    omega
  ·rw [joinF_bad hz h0]
   exact Nat.zero_le _
end Go.Dg
namespace Go.Proofs.YtlchcjnbbhpiaaaGreatDoor
open Go.RowKit Go.Shelf Go.Dg Go.Maps
theorem joinR_all (A : Option Addr) (c : Nat) (xs : List DgX) (w : World) (h : RdG w A xs) (hc : xs.length ≤ c) (hn : xs.length ≤ 1000) (hs : ∀ x ∈ xs, SrX x) :
  Calls Tryz.prog 39 #[.slice A xs.length c] w fun e w' => (∃ A' c', e = .returned (.tuple #[dgA (joinF (xs.map (·.1))).1 A' c', i64 (joinF (xs.map (·.1))).2]) ∧ RdI w' A' (joinF (xs.map (·.1))).1.its ∧ (joinF (xs.map (·.1))).1.its.length ≤ c') ∧ Below w.heap.size w w' := by
 cases xs with
 | nil => exact joinR_nil A c w
 | cons x0 xr => exact joinR_any A c x0 xr w h hc hn hs
section
variable {ops : Array Oper} {rest : List Oper} {o : Oper} {a : Act} {w : World} {Q : Exit → Act → World → Prop}
set_option maxRecDepth 100000 in
theorem wpList_one_dg (hg : o.guard = none) (X : Operand) (ho : o.op = .buildSlice 83 1 #[(0, X)]) (d : Dg) (A : Option Addr) (c : Nat) (hx : a.eval X = dgA d A c)
  (h : wpList Tryz.prog ops Q rest (a.put o.dst (.slice (some ⟨w.heap.size, 0, none⟩) 1 1)) (w.alloc (.cells (dgxL (d, A, c)).toArray 32))) : wpList Tryz.prog ops Q (o :: rest) a w := by
 obtain ⟨i0, hi, hz0, hz1, hz2⟩ := info_parts dg_info
 refine wpList_buildSlice hg _ _ 1 _ ho (dgxL (d, A, c)).toArray i0 _ Tryz.underlying83 hi hz0 (by rw [hz1]; omega) (by rw [hz1]; omega) ?_ h
 rw [hz1]
 have h2 := Great.fill_whole (s := 5) (by decide) [dgA d A c] ((Array.range (1 * 5)).map ((Value.agg #[enS [], i64 0, i64 0, i64 0, .slice none 0 0]).cells[· % (Value.agg #[enS [], i64 0, i64 0, i64 0, .slice none 0 0]).cells.size]!)) (fun v hv => by
  obtain rfl := List.mem_singleton.1 hv
  rfl) (by simp)
 have e1 : ((#[(0, X)] : Array (Nat × Operand)).map fun (i, y) => (i, a.eval y)).toList = [(0, dgA d A c)] := by
  simp [hx]
 rw [e1]
 refine Eq.trans h2 ?_
 show some (List.flatMap (fun v => v.cells.toList) [dgA d A c]).toArray = _
 rw [List.flatMap_cons, List.flatMap_nil, List.append_nil]
 rfl
theorem wpList_app_dg (hgd : o.guard = none) (s x : Operand) (ho : o.op = .call { callee := .builtin .append, args := #[s, x], argTypes := #[83, 83] })
  (v : Value) (l : List DgX) (hs : a.eval s = v) (hown : w.ownsRow 0 32 5 v l.length (l.flatMap dgxL)) (b : Nat) (y : DgX) (hx : a.eval x = .slice (some ⟨b, 0, none⟩) 1 1) (hr : w.rangeAt b 0 (dgxL y)) (hlen : l.length ≤ 1000000)
  (h : ∀ v' w', w'.ownsRow 0 32 5 v' (l.length + 1) (l.flatMap dgxL ++ dgxL y) → w.grownBy w' v.ownBlock → (v'.ownBlock = v.ownBlock ∨ ∃ g, v'.ownBlock = some g ∧ w.heap.size ≤ g) → wpList Tryz.prog ops Q rest (a.put o.dst v') w') : wpList Tryz.prog ops Q (o :: rest) a w := by
 obtain ⟨i0, hi, hz0, hz1, hz2⟩ := info_parts dg_info
 refine wpList_append_far w hgd s x 83 ho 32 i0 _ 5 64 Tryz.underlying83 hi hz0 hz1 hz2 rfl (by decide) v l.length _ hs hown ⟨b, 0, none⟩ 1 1 (dgxL y) hx (by rw [dgxL_length]) (fun j u hu => ?_) (one_dgxL y) (by unfold maxLen; omega) (by omega) h
 rw [addr_addN]
 exact hr j u hu
end
/-- The digests that the law has laid in its own row. -/
structure LjS (w W : World) (v : Value) (l : List DgX) : Prop where
 bel : Below w.heap.size w W
 ow : W.ownsRow 0 32 5 v l.length (l.flatMap dgxL)
 lw : ∀ g, v.ownBlock = some g → w.heap.size ≤ g
 ok : ∀ x ∈ l, OkX W x ∧ (0 < x.1.its.length → ∀ p, x.2.1 = some p → v.ownBlock ≠ some p.block)
section
variable {w W W' : World} {v v' : Value} {l : List DgX}
theorem LjS.below (h : LjS w W v l) (hb : Below W.heap.size W W') : LjS w W' v l :=
 ⟨h.bel.tr hb, own_below h.ow hb, h.lw, fun x hx => ⟨(h.ok x hx).1.below hb, (h.ok x hx).2⟩⟩
theorem OkX.grown {x : DgX} {row : Option Nat} (h : OkX W x) (hg : W.grownBy W' row) (hn : 0 < x.1.its.length → ∀ p, x.2.1 = some p → row ≠ some p.block) : OkX W' x :=
 ⟨⟨fun hp => by
  obtain ⟨b, o, e, hlt, hc⟩ := h.rd.rd hp
  have hk := hg.block b hlt (fun e2 => hn hp _ e e2.symm)
  exact ⟨b, o, e, Nat.lt_of_lt_of_le hlt hg.size, fun j x hj i u hu => by rw [World.cell?_of_block hk]; exact hc j x hj i u hu⟩, h.rd.ky⟩, h.cap⟩
theorem LjS.app (h : LjS w W v l) {y : DgX} (hy : OkX W y) (hf : 0 < y.1.its.length → ∀ p, y.2.1 = some p → v.ownBlock ≠ some p.block) (ho : W'.ownsRow 0 32 5 v' (l.length + 1) (l.flatMap dgxL ++ dgxL y)) (hg : W.grownBy W' v.ownBlock) (hv : v'.ownBlock = v.ownBlock ∨ ∃ g, v'.ownBlock = some g ∧ W.heap.size ≤ g) : LjS w W' v' (l ++ [y]) := by
 have hs := h.bel.size
 refine ⟨h.bel.trans ((Below.refl w.heap.size W).grown hg hs fun k hk => h.lw k hk), ?_, fun g e => ?_, fun x hx => ?_⟩
 ·rw [List.length_append, List.flatMap_append, List.flatMap_cons, List.flatMap_nil, List.append_nil]; exact ho
 ·rcases hv with hv | ⟨g', e', hl⟩
  ·exact h.lw g (hv ▸ e)
  ·rw [e'] at e; cases e; omega
 ·have hx2 : OkX W x ∧ (0 < x.1.its.length → ∀ p, x.2.1 = some p → v.ownBlock ≠ some p.block) := by
   rcases List.mem_append.1 hx with hx | hx
   ·exact h.ok x hx
   ·rw [List.mem_singleton.1 hx]; exact ⟨hy, hf⟩
  refine ⟨hx2.1.grown hg hx2.2, fun hp p e => ?_⟩
  rcases hv with hv | ⟨g', e', hl⟩
  ·rw [hv]; exact hx2.2 hp p e
  ·obtain ⟨b, o, e2, hlt, _⟩ := hx2.1.rd.rd hp
   rw [e2] at e; cases e
   rw [e']
   intro e3
   have e4 : g' = b := Option.some.inj e3
   omega
end
/-- A small digest. -/
def SmD (x : DgX) : Prop := (∀ y ∈ x.1.its, okS y) ∧ x.1.ti.length ≤ 200 ∧ x.1.its.length ≤ 12
set_option maxRecDepth 100000 in
set_option maxHeartbeats 16000000 in
theorem digestJoin_of (A : Option Addr) (c : Nat) (xs : List DgX) (w : World) (hr : RdG w A xs) (hc : xs.length ≤ c) (_hcm : c ≤ maxLen) (hx : ∀ x ∈ xs, x.2.2 ≤ maxLen ∧ x.1.ti.length ≤ maxLen ∧ ∀ y ∈ x.1.its, LenI y) (hg : GlD w)
  (HJN : Hid (∀ (A : Option Addr) (c : Nat) (xs : List DgX) (w : World), RdG w A xs → xs.length ≤ c → xs.length ≤ 1000 → Tab w → (∀ x ∈ xs, SmX x) →
   Calls Tryz.prog 38 #[.slice A xs.length c] w fun e w' => (∃ A' c', e = .returned (.tuple #[dgA (joinF (xs.map (·.1))).1 A' c', i64 (joinF (xs.map (·.1))).2]) ∧ RdI w' A' (joinF (xs.map (·.1))).1.its ∧ (joinF (xs.map (·.1))).1.its.length ≤ c') ∧ Below w.heap.size w w')) :
  Calls Tryz.prog 10 #[.slice A xs.length c] w fun e w' => e = .returned (.bool true) ∧ Below w.heap.size w w' := by
 have HK := Lib.hid (fun W (hb : Below w.heap.size w W) => known_any W (hg.below hb))
 have HG := Lib.hid hg
 have HR := Lib.hid hr
 have HC := Lib.hid hc
 have HX := Lib.hid hx
 clear hg hr hc hx
 go_enter Tryz.func10, Tryz.ntmps10
 go_wp2_with fail
 refine (HK.out _ (Below.refl _ _)).mono ?_; rintro e w2 ⟨rfl, B2⟩
 by_cases h4 : 4 < xs.length
 ·have hq : decide ((4 : Int) < xs.length) = true := by simp; omega
  clear h4
  have B2 := Lib.hid B2
  go_wp2_with fail
  refine (HK.out _ B2.out).mono ?_; rintro e w4 ⟨rfl, b4⟩
  have B4 := Lib.hid (B2.out.tr b4); clear b4
  go_wp2_with fail
  go_ret
  exact ⟨rfl, B4.out⟩
 have hq : decide ((4 : Int) < xs.length) = false := by simp; omega
 have H4 := Lib.hid (show xs.length ≤ 4 by omega)
 have L2 : Hid (LjS w w2 (.slice none 0 0) []) := Lib.hid ⟨B2, own2_nil _ _ _ _, fun g e => (by cases e), by simp⟩
 clear B2 h4
 go_upto_block 0 with fail
 go_cut [3] (fun v wx => ∃ l : List DgX, l.map (·.1) = xs.map (·.1) ∧ Hid (LjS w wx v l) ∧ Hid (∀ x ∈ xs, SmD x))
 case first =>
  clear hq
  go_wp2_with fail
  go_loopg [3, 4] xs.length (fun gg av iv wr => ∃ (i : Nat) (l : List DgX) (v : Value), i ≤ xs.length ∧ xs.length - i ≤ gg ∧ iv = i64 i ∧ v = av ∧ l.map (·.1) = (xs.map (·.1)).take i ∧ Hid (LjS w wr v l) ∧ Hid (∀ x ∈ xs.take i, SmD x))
  case atStart => exact ⟨0, [], _, Nat.zero_le _, by omega, rfl, rfl, rfl, L2, Lib.hid (by simp)⟩
  case round =>
   obtain ⟨i, l, v, hi, hgg, rfl, rfl, hl, LW, SW⟩ := hrel
   clear L2
   have h4 := H4.out
   by_cases hlt : i < xs.length
   case neg =>
    obtain rfl : i = xs.length := by omega
    rw [List.take_of_length_le (by rw [List.length_map]; omega)] at hl
    rw [List.take_of_length_le (by omega)] at SW
    go_wp2_with fail
    go_meet
    exact ⟨l, hl, LW, SW⟩
   obtain ⟨b, o, x, hA, hbl, hx, hrg, hok⟩ := HR.out.at_ hlt
   subst hA
   obtain ⟨m1, m2, m3⟩ := HX.out x (List.mem_of_getElem? hx)
   obtain ⟨d, A1, c1⟩ := x
   simp only at m1 m2 m3
   have HS := Lib.hid (fun W (hb : Below w.heap.size w W) => small_any d A1 c1 W (hok.rd.below hb) hok.cap m1 m2 m3)
   have HO := Lib.hid (fun W (hb : Below w.heap.size w W) => ownD_new d A1 c1 W (hok.rd.below hb) hok.cap)
   have HRG : Hid (∀ W, Below w.heap.size w W → W.rangeAt b (o + i * 5) [enS d.ti, i64 d.vo, i64 d.ie, i64 d.da, .slice A1 d.its.length c1]) := Lib.hid (fun W hb => range_below hrg hb)
   have HD : Hid (xs[i]? = some (d, A1, c1)) := Lib.hid hx
   clear m1 m2 m3 hx hrg hok hbl
   have r1 := HRG.out wr LW.out.bel
   go_wp2_with (refine wpList_load_mid rfl 24 _ rfl b (o + i * 5) rfl [enS d.ti, i64 d.vo, i64 d.ie, i64 d.da, .slice A1 d.its.length c1] _ r1 Tryz.underlying24 rfl (by kernel_rfl) ?_)
   clear r1
   refine (HS.out wr LW.out.bel).mono ?_; rintro e w3 ⟨hres, b3⟩
   have L3 := Lib.hid (LW.out.below b3)
   clear b3 LW HS
   rcases hres with ⟨rfl, s1, s2, s3⟩ | rfl
   case inr =>
    go_wp2_with fail
    go_ret
    exact ⟨rfl, L3.out.bel⟩
   have hlen : l.length ≤ 1000000 := by
    have := congrArg List.length hl
    rw [List.length_map, List.length_take, List.length_map] at this
    have := H4.out
    omega
   have HLE := Lib.hid hlen
   have HOO := Lib.hid (HO.out w3 L3.out.bel (by omega))
   have r2 := HRG.out w3 L3.out.bel
   have hl2 : Hid ((l ++ [((d, none, 0) : DgX)]).map (·.1) = (xs.map (·.1)).take (i + 1)) := Lib.hid (by
    (show _ = _)
    rw [List.map_append, hl, List.take_add_one, List.getElem?_map, HD.out]; rfl)
   have S2 : Hid (∀ x ∈ xs.take (i + 1), SmD x) := Lib.hid (fun x hx => by
    rw [List.take_add_one, HD.out] at hx
    rcases List.mem_append.1 hx with hx | hx
    ·exact SW.out x hx
    ·simp at hx; rw [hx]; exact ⟨s1, s2, s3⟩)
   clear s1 s2 s3 hl hlen HO HD SW
   go_wp2_with (refine wpList_load_mid rfl 24 _ rfl b (o + i * 5) rfl [enS d.ti, i64 d.vo, i64 d.ie, i64 d.da, .slice A1 d.its.length c1] _ r2 Tryz.underlying24 rfl (by kernel_rfl) ?_)
   clear r2
   refine HOO.out.mono ?_; rintro e w4 ⟨⟨A4, c4, rfl, r4, l4, f4⟩, b4⟩
   have L4 := Lib.hid (L3.out.below b4)
   have HF : Hid (∀ p, A4 = some p → v.ownBlock ≠ some p.block) := Lib.hid (fun p hp e => by
    have h1 := f4 p hp
    have h2 := own_lt L3.out.ow e
    omega)
   have R4 := Lib.hid r4
   have C4 := Lib.hid l4
   clear b4 r4 l4 f4 L3 HOO
   go_wp2_with (first | refine wpList_one_dg rfl _ rfl d A4 c4 rfl ?_ | (at_builtin; refine wpList_app_dg rfl _ _ rfl _ l rfl (own_below L4.out.ow (below_new _ _)) w4.heap.size (d, A4, c4) rfl (range_blk (blk_new w4 (.cells (dgxL (d, A4, c4)).toArray 32))) HLE.out ?_; intro v9 w9 o9 g9 f9))
   have bn := below_new w4 (.cells (dgxL (d, A4, c4)).toArray 32)
   have LX := Lib.hid ((L4.out.below bn).app (y := (d, A4, c4)) ⟨R4.out.below bn, C4.out⟩ (fun _ p hp => HF.out p hp) o9 g9 f9)
   clear bn o9 g9 f9 L4 R4 C4 HF
   go_wp2_with fail
   go_roundg (xs.length - (i + 1))
   case measure => omega
   case rel => exact ⟨i + 1, l ++ [(d, A4, c4)], v9, by omega, by omega, by simp, rfl, by rw [← hl2.out]; simp, LX, S2⟩
 obtain ⟨l, hl, LX, SX⟩ := hcut
 clear L2 hq
 generalize wc = w3 at *
 obtain ⟨A3, c3, rfl⟩ := own2_slice LX.out.ow
 have hll : l.length = xs.length := by have := congrArg List.length hl; rwa [List.length_map, List.length_map] at this
 have HJ := Lib.hid (HJN.out A3 c3 l w3 (RdG.of_own LX.out.ow fun x hx => (LX.out.ok x hx).1) (own2_le LX.out.ow) (by have := H4.out; omega) (HG.out.below LX.out.bel).tab (fun x hx => by
  have : x.1 ∈ xs.map (·.1) := by rw [← hl]; exact List.mem_map.2 ⟨x, hx, rfl⟩
  obtain ⟨y, hy, e⟩ := List.mem_map.1 this
  obtain ⟨s1, s2, s3⟩ := SX.out y hy
  rw [e] at s1 s2 s3
  exact ⟨by omega, by omega, fun z hz => by obtain ⟨t1, t2, t3⟩ := s1 z hz; exact ⟨by omega, by omega, by omega⟩⟩))
 have HR2 := Lib.hid (fun W (hb : Below w.heap.size w W) => joinR_all A c xs W (HR.out.below hb) HC.out (by have := H4.out; omega) (fun x hx => by
  obtain ⟨s1, s2, s3⟩ := SX.out x hx
  exact ⟨by omega, by omega, fun z hz => by obtain ⟨t1, t2, t3⟩ := s1 z hz; exact ⟨by omega, by omega, by omega⟩⟩))
 have HLN : Hid ((joinF (xs.map (·.1))).1.its.length ≤ 1000000) := Lib.hid (joinF_len (fun d hd => by
  obtain ⟨y, hy, rfl⟩ := List.mem_map.1 hd
  have := (SX.out y hy).2.2
  omega) (by rw [List.length_map]; have := H4.out; omega))
 rw [hl, hll] at HJ
 rw [hll]
 obtain ⟨F, hF⟩ : ∃ q, joinF (xs.map (·.1)) = q := ⟨_, rfl⟩
 rw [hF] at HJ HR2 HLN
 have B3 := Lib.hid LX.out.bel
 obtain ⟨D, z⟩ := F
 simp only at HJ HR2 HLN
 clear hF hl hll LX SX H4 HX HC HR HJN HK
 go_wp2_with fail
 refine HJ.out.mono ?_; rintro e w4 ⟨⟨A4, c4, rfl, r4, l4⟩, b4⟩
 have bn := below_new w4 (.cells #[enS D.ti, i64 D.vo, i64 D.ie, i64 D.da, .slice A4 D.its.length c4] 32)
 have Y5 := Lib.hid (blk_new w4 (.cells #[enS D.ti, i64 D.vo, i64 D.ie, i64 D.da, .slice A4 D.its.length c4] 32))
 have B5 := Lib.hid ((B3.out.tr b4).tr bn)
 have R5 := Lib.hid (r4.below bn)
 have C5 := Lib.hid l4
 clear b4 r4 l4 B3 HJ bn
 go_upto_region 11 with fail
 obtain ⟨nb, hnb⟩ : ∃ q, w4.heap.size = q := ⟨_, rfl⟩
 rw [hnb] at Y5 ⊢
 clear hnb
 generalize w4.alloc (.cells #[enS D.ti, i64 D.vo, i64 D.ie, i64 D.da, .slice A4 D.its.length c4] 32) = w5 at *
 go_wp2_with fail
 refine (HR2.out w5 B5.out).mono ?_; rintro e w6 ⟨⟨A6, c6, rfl, r6, l6⟩, b6⟩
 have bn := below_new w6 (.cells #[enS D.ti, i64 D.vo, i64 D.ie, i64 D.da, .slice A6 D.its.length c6] 24)
 have X7 := Lib.hid (blk_new w6 (.cells #[enS D.ti, i64 D.vo, i64 D.ie, i64 D.da, .slice A6 D.its.length c6] 24))
 have Y7 := Lib.hid (blk_below bn (blk_below b6 Y5.out))
 have B7 := Lib.hid ((B5.out.tr b6).tr bn)
 have R7 := Lib.hid ((R5.out.below b6).below bn)
 have Q7 := Lib.hid (r6.below bn)
 have C7 := Lib.hid l6
 clear b6 r6 l6 bn HR2 Y5 B5 R5
 go_upto_region 12 with fail
 obtain ⟨xb, hxb⟩ : ∃ q, w6.heap.size = q := ⟨_, rfl⟩
 rw [hxb] at X7 ⊢
 clear hxb
 generalize w6.alloc (.cells #[enS D.ti, i64 D.vo, i64 D.ie, i64 D.da, .slice A6 D.its.length c6] 24) = w7 at *
 have bd := (Below.refl w7.heap.size w7).drew
 refine Flow.wp_region_segs Flow.Later Flow.Later.refl Flow.Later.trans [([0, 2], 1), ([], 3)] [4, 5, 6, 7, 8, 9] (by kernel_rfl) (by kernel_rfl) ?_
 have X8 := Lib.hid (blk_below bd X7.out)
 have Y8 := Lib.hid (blk_below bd Y7.out)
 have B8 := Lib.hid (B7.out.tr bd)
 have R8 := Lib.hid (R7.out.below bd)
 have Q8 := Lib.hid (Q7.out.below bd)
 clear bd X7 Y7 B7 R7 Q7
 generalize World.drew _ = w8 at *
 have qX : ∀ t : Flow.Cls (Flow.Later w8), t.val.rangeAt xb 0 [enS D.ti, i64 D.vo, i64 D.ie, i64 D.da, .slice A6 D.its.length c6] := fun t => range_blk (cs := [enS D.ti, i64 D.vo, i64 D.ie, i64 D.da, .slice A6 D.its.length c6]) (blk_below t.ok X8.out)
 have qY : ∀ t : Flow.Cls (Flow.Later w8), t.val.rangeAt nb 0 [enS D.ti, i64 D.vo, i64 D.ie, i64 D.da, .slice A4 D.its.length c4] := fun t => range_blk (cs := [enS D.ti, i64 D.vo, i64 D.ie, i64 D.da, .slice A4 D.its.length c4]) (blk_below t.ok Y8.out)
 haveI nonE := Flow.cls_nonempty w8
 rw [Flow.wpSegs_cons]
 simp only [Flow.pick, List.getElem?_toArray, List.getElem?_cons_succ, List.getElem?_cons_zero]
 refine BigFrame.wpQuiet_want rfl (fun K hK => quiet_load_mid 32 _ rfl nb 0 rfl [enS D.ti, i64 D.vo, i64 D.ie, i64 D.da, .slice A4 D.its.length c4] _ (fun _ he => by obtain ⟨t, rfl⟩ := he; exact qY t) Tryz.underlying32 rfl (by kernel_rfl) (hK _ ?_))
 clear hK K
 simp only [Act.put, List.setIfInBounds_toArray, List.set_cons_succ, List.set_cons_zero]
 refine BigFrame.wpQuiet_want rfl (fun K hK => quiet_load_mid 24 _ rfl xb 0 rfl [enS D.ti, i64 D.vo, i64 D.ie, i64 D.da, .slice A6 D.its.length c6] _ (fun _ he => by obtain ⟨t, rfl⟩ := he; exact qX t) Tryz.underlying24 rfl (by kernel_rfl) (hK _ ?_))
 clear hK K
 simp only [Act.put, List.setIfInBounds_toArray, List.set_cons_succ, List.set_cons_zero]
 refine wpQuiet_nil ?_
 clear nonE qX qY
 rw [Flow.callAt_eq]
 simp only [List.getElem?_toArray, List.getElem?_cons_succ, List.getElem?_cons_zero]
 rw [if_pos (by rfl)]
 refine Flow.wp_behind (fun K0 hK => ?_)
 go_wp2_with fail
 refine (back_any D A4 c4 _ R8.out C5.out HLN.out).mono ?_; rintro e w9 ⟨⟨A9, c9, rfl, r9, l9⟩, b9⟩
 refine hK.out _ _ ⟨b9, ?_⟩
 clear hK K0
 have B9 := Lib.hid (B8.out.tr b9)
 have HSA := Lib.hid (same_any D A9 A6 c9 c6 w9 r9 (Q8.out.below b9) l9 C7.out HLN.out)
 clear b9 r9 l9 B8 X8 Y8 R8 Q8
 haveI nonE := Flow.cls_nonempty w9
 rw [Flow.wpSegs_cons]
 simp only [Flow.pick]
 refine wpQuiet_nil ?_
 clear nonE
 rw [Flow.callAt_eq]
 simp only [List.getElem?_toArray, List.getElem?_cons_succ, List.getElem?_cons_zero]
 rw [if_pos (by rfl)]
 refine Flow.wp_behind (fun K0 hK => ?_)
 go_wp2_with fail
 refine HSA.out.mono ?_; rintro e w10 ⟨rfl, b10⟩
 refine hK.out _ _ ⟨b10, ?_⟩
 clear hK K0
 have B10 := Lib.hid (B9.out.tr b10)
 clear b10 B9 HSA
 have hzz : (z == z) = true := by simp
 haveI nonE := Flow.cls_nonempty w10
 rw [Flow.wpSegs_nil]
 simp only [Flow.pick, List.getElem?_toArray, List.getElem?_cons_succ, List.getElem?_cons_zero]
 repeat go_big_quiet_step (fail)
 refine wpQuiet_nil ?_
 clear nonE
 go_wp2_with fail
 go_ret
 exact ⟨rfl, B10.out⟩
end Go.Proofs.YtlchcjnbbhpiaaaGreatDoor
