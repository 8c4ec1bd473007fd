/- Contract: the program's Parse. -/
import Derived.Test.YthgefcoaaommkaaGreatDoorSyI
import Derived.Test.YthgefcoaaommkaaGreatDoorSyK
import Derived.Test.YthgefcoaaommkaaGreatDoorSyN
import Derived.Test.YthgefcoaaommkaaGreatDoorZc
namespace Go.Proofs.YthgefcoaaommkaaGreatDoor
open Go.RowKit Go.Gn Go.Sr Go.Maps Go.Nr

theorem cutnl_none (s : List UInt8) (h : s.dropWhile nl = []) (w : World) (hE : Env w) (hl : s.length ≤ 1000000000) :
    Calls Tryz.prog 69 #[enS s, .string ⟨#[10]⟩] w fun e w' => e = .returned (.tuple #[enS s, enS [], .bool false]) ∧ Below w.heap.size w w' := by
  obtain ⟨m, hm⟩ := hE
  have hc := Tryz.strings_Cut ⟨s.toArray⟩ ⟨#[10]⟩ m w (by show s.toArray.size < _; simp; omega) hm
  have e : Lib.cut (⟨s.toArray⟩ : ByteArray).data.toList (⟨#[10]⟩ : ByteArray).data.toList = (s, [], false) := by
    have e1 : (⟨s.toArray⟩ : ByteArray).data.toList = s := by simp
    rw [e1]
    have := cut_nl s
    rw [h] at this; exact this
  rw [e] at hc
  exact hc.mono fun _ _ ⟨h1, n, h2⟩ => ⟨h1, by rw [h2]; exact (Below.refl _ _).drewN n⟩
theorem cutnl_some (s : List UInt8) {c : UInt8} {rest : List UInt8} (h : s.dropWhile nl = c :: rest) (w : World) (hE : Env w) (hl : s.length ≤ 1000000000) :
    Calls Tryz.prog 69 #[enS s, .string ⟨#[10]⟩] w fun e w' => e = .returned (.tuple #[enS (s.takeWhile nl), enS rest, .bool true]) ∧ Below w.heap.size w w' := by
  obtain ⟨m, hm⟩ := hE
  have hc := Tryz.strings_Cut ⟨s.toArray⟩ ⟨#[10]⟩ m w (by show s.toArray.size < _; simp; omega) hm
  have e : Lib.cut (⟨s.toArray⟩ : ByteArray).data.toList (⟨#[10]⟩ : ByteArray).data.toList = (s.takeWhile nl, rest, true) := by
    have e1 : (⟨s.toArray⟩ : ByteArray).data.toList = s := by simp
    rw [e1]
    have := cut_nl s
    rw [h] at this; exact this
  rw [e] at hc
  exact hc.mono fun _ _ ⟨h1, n, h2⟩ => ⟨h1, by rw [h2]; exact (Below.refl _ _).drewN n⟩
theorem wf_int {d : Int} (h0 : -1000000000 ≤ d) (h1 : d ≤ 1000000000) : (Lit.int .i64 d).wf = true := by
  have em : IntKind.i64.min = -9223372036854775808 := by decide
  have eM : IntKind.i64.max = 9223372036854775807 := by decide
  simp [Lit.wf, em, eM]; omega
/-- What Parse answers. -/
def PRes (w : World) (R : Sx ⊕ (Nat × Nat)) (e : Ending) (w' : World) : Prop := match R with
  | .inl st => ∃ p bd bn, e = .returned (.tuple #[.pointer (some ⟨p, 0, none⟩), i64 0, i64 0]) ∧ StM w' p bd bn st.ds st.ns st.zs ∧ (w.heap.size ≤ p ∧ w.heap.size ≤ bd ∧ w.heap.size ≤ bn) ∧ Below w.heap.size w w'
  | .inr (n, f) => e = .returned (.tuple #[.pointer none, i64 n, i64 f]) ∧ Below w.heap.size w w'
/-- Statistics and the row before, in memory. -/
structure PP (w wr : World) (p bd bn pv : Nat) (st : Sx) : Prop where
  sm : StM wr p bd bn st.ds st.ns st.zs
  pb : wr.heap[pv]? = some (.cells #[i64 st.prev.sort, enS st.prev.name, i64 st.prev.first, i64 st.prev.c.1, i64 st.prev.c.2] 121 (0, 0))
  lo : w.heap.size ≤ p ∧ w.heap.size ≤ bd ∧ w.heap.size ≤ bn ∧ w.heap.size ≤ pv
  ne : pv ≠ p ∧ pv ≠ bd ∧ pv ≠ bn
  bel : Below w.heap.size w wr
section
variable {w wr wr' : World} {p bd bn pv : Nat} {st : Sx}
theorem PP.below (h : PP w wr p bd bn pv st) (hb : Below wr.heap.size wr wr') : PP w wr' p bd bn pv st := ⟨h.sm.below hb, blk_below hb h.pb, h.lo, h.ne, h.bel.tr hb⟩
theorem PP.putD (h : PP w wr p bd bn pv st) {ds' : List (Int × C)} (hm : MapA dayK wr' bd ds') (hg : wr.grownBy wr' (some bd)) : PP w wr' p bd bn pv ⟨st.day, st.prev, ds', st.ns, st.zs⟩ :=
  ⟨h.sm.putD hm hg, (hg.block pv (blk_lt h.pb) (fun e => by injection e with e; exact h.ne.2.1 e)).trans h.pb, h.lo, h.ne, h.bel.grown hg h.bel.size (fun k e => by cases e; exact h.lo.2.1)⟩
theorem PP.putN (h : PP w wr p bd bn pv st) {ns' : List (Ky × C)} (hm : MapA nameK wr' bn ns') (hg : wr.grownBy wr' (some bn)) : PP w wr' p bd bn pv ⟨st.day, st.prev, st.ds, ns', st.zs⟩ :=
  ⟨h.sm.putN hm hg, (hg.block pv (blk_lt h.pb) (fun e => by injection e with e; exact h.ne.2.2 e)).trans h.pb, h.lo, h.ne, h.bel.grown hg h.bel.size (fun k e => by cases e; exact h.lo.2.2.1)⟩
theorem PP.putZ (h : PP w wr p bd bn pv st) {k : Nat} (hk : k < 18) (a : Int) : PP w (wr.setCell ⟨p, 2 + k, none⟩ (i64 a)) p bd bn pv ⟨st.day, st.prev, st.ds, st.ns, st.zs.set k a⟩ :=
  ⟨h.sm.putZ hk a, by rw [blk_set_ne _ _ h.ne.1]; exact h.pb, h.lo, h.ne, h.bel.setCell (p := ⟨p, 2 + k, none⟩) h.lo.1 _⟩
theorem PP.day (h : PP w wr p bd bn pv st) (d : Int) : PP w wr p bd bn pv ⟨d, st.prev, st.ds, st.ns, st.zs⟩ := ⟨h.sm, h.pb, h.lo, h.ne, h.bel⟩
theorem PP.putP (h : PP w wr p bd bn pv st) (x : Rw) : PP w (((((wr.setCell ⟨pv, 0, none⟩ (i64 x.sort)).setCell ⟨pv, 1, none⟩ (enS x.name)).setCell ⟨pv, 2, none⟩ (i64 x.first)).setCell ⟨pv, 3, none⟩ (i64 x.c.1)).setCell ⟨pv, 4, none⟩ (i64 x.c.2)) p bd bn pv ⟨st.day, x, st.ds, st.ns, st.zs⟩ := by
  have hlo := h.lo.2.2.2
  refine ⟨h.sm.keep ?_ ?_ ?_, ?_, h.lo, h.ne, ?_⟩
  · rw [blk_set_ne _ _ h.ne.1.symm, blk_set_ne _ _ h.ne.1.symm, blk_set_ne _ _ h.ne.1.symm, blk_set_ne _ _ h.ne.1.symm, blk_set_ne _ _ h.ne.1.symm]
  · rw [blk_set_ne _ _ h.ne.2.1.symm, blk_set_ne _ _ h.ne.2.1.symm, blk_set_ne _ _ h.ne.2.1.symm, blk_set_ne _ _ h.ne.2.1.symm, blk_set_ne _ _ h.ne.2.1.symm]
  · rw [blk_set_ne _ _ h.ne.2.2.symm, blk_set_ne _ _ h.ne.2.2.symm, blk_set_ne _ _ h.ne.2.2.symm, blk_set_ne _ _ h.ne.2.2.symm, blk_set_ne _ _ h.ne.2.2.symm]
  · rw [blk_set (blk_set (blk_set (blk_set (blk_set h.pb 0 (i64 x.sort)) 1 (enS x.name)) 2 (i64 x.first)) 3 (i64 x.c.1)) 4 (i64 x.c.2)]; rfl
  · exact ((((h.bel.setCell (p := ⟨pv, 0, none⟩) hlo _).setCell (p := ⟨pv, 1, none⟩) hlo _).setCell (p := ⟨pv, 2, none⟩) hlo _).setCell (p := ⟨pv, 3, none⟩) hlo _).setCell (p := ⟨pv, 4, none⟩) hlo _
end
set_option maxRecDepth 100000 in
set_option maxHeartbeats 32000000 in
theorem parse_any (t : List UInt8) (w : World) (hE : Env w) (hT : Tab w) (hl : t.length ≤ 16777216) : Calls Tryz.prog 26 #[enS t] w (PRes w (parseP vN t)) := by
  have HEv := Lib.hid hE
  have HTb := Lib.hid hT
  clear hE hT
  have HP := Lib.hid (show parseP vN t = match parseL vN st0 0 t with
    | .inr r => .inr r
    | .inl (st, line) => if sumZ st.zs ≠ totalD st.ds then .inr (line, 3) else if 1000000 < totalD st.ds then .inr (line, 9) else .inl st from rfl)
  obtain ⟨R, hR⟩ : ∃ z, parseP vN t = z := ⟨_, rfl⟩
  rw [hR] at HP ⊢
  clear hR
  obtain ⟨RL, hRL⟩ : ∃ z, parseL vN st0 0 t = z := ⟨_, rfl⟩
  have HRL := Lib.hid hRL
  rw [hRL] at HP
  clear hRL
  go_enter Tryz.func26, Tryz.ntmps26
  go_wp2_with fail
  refine (new_any w).mono ?_; rintro e w1 ⟨p, bd, bn, rfl, sm1, b1, lp, ld, ln⟩
  have P0 : Hid (PP w (w1.alloc (.cells #[i64 (-1), enS [], i64 0, i64 0, i64 0] 121)) p bd bn w1.heap.size st0) := Lib.hid (by
    have b2 := below_new w1 (.cells #[i64 (-1), enS [], i64 0, i64 0, i64 0] 121)
    exact ⟨sm1.below b2, blk_new w1 (.cells #[i64 (-1), enS [], i64 0, i64 0, i64 0] 121), ⟨lp, ld, ln, b1.size⟩, ⟨fun e => by have := sm1.lp; omega, fun e => by have := sm1.ld; omega, fun e => by have := sm1.ln; omega⟩, b1.tr b2⟩)
  clear sm1 b1 lp ld ln
  go_upto_block 0 with fail
  generalize w1.alloc (.cells #[i64 (-1), enS [], i64 0, i64 0, i64 0] 121) = w2 at *
  generalize w1.heap.size = pv at *
  go_wp2_with fail
  go_loopg [0, 2, 3, 6] t.length (fun gg tv pv2 nv dv wr => ∃ (s : List UInt8) (n : Nat) (st : Sx), s.length ≤ gg ∧ n + s.length ≤ t.length ∧ tv = enS s ∧ pv2 = .pointer (some ⟨p, 0, none⟩) ∧ nv = i64 n ∧ dv = i64 st.day ∧ Hid (PP w wr p bd bn pv st) ∧ Hid (BdS vN t.length st n) ∧ Hid (∃ T, InvX st T) ∧ Hid (parseL vN st n s = RL))
  case atStart => exact ⟨t, 0, st0, by omega, by omega, rfl, rfl, rfl, rfl, P0, Lib.hid (BdS.start _ _), Lib.hid ⟨[], InvX.start⟩, HRL⟩
  case round =>
    obtain ⟨s, n, st, hgs, hns, rfl, rfl, rfl, rfl, K, BD, HI, HL⟩ := hrel
    clear HRL P0
    by_cases hs : s = []
    case pos =>
      subst hs
      have V : Hid (RL = .inl (st, n)) := Lib.hid (by (show RL = .inl (st, n)); rw [← HL.out, pL_nil])
      rw [V.out] at HP
      have HP0 := Lib.hid (show R = if sumZ st.zs ≠ totalD st.ds then .inr (n, 3) else if 1000000 < totalD st.ds then .inr (n, 9) else .inl st from HP.out)
      clear HP
      have HP := HP0
      clear HP0
      have hzl := BD.out.zl
      have HSB := Lib.hid (sumZ_bnd BD.out.zs)
      have HRZ := Lib.hid K.out.sm.rz
      obtain ⟨Z, hZ⟩ : ∃ Z, (st.zs.map i64).toArray = Z := ⟨_, rfl⟩
      have HZ := Lib.hid hZ
      clear hZ
      have hsz : (st.zs.map i64).length = 18 := by rw [List.length_map]; exact hzl
      have HS : Hid ((Tryz.prog.info? 63).map (·.size) = some 18) := Lib.hid (by kernel_rfl)
      have hpl := K.out.sm.lp
      clear V HL
      go_wp2_with (refine wpList_load_mid rfl 63 _ rfl p 2 rfl (st.zs.map i64) _ HRZ.out Tryz.underlying63 rfl (by rw [hsz]; exact HS.out) ?_)
      rw [show (st.zs.map i64).toArray = Z from HZ.out]
      have HZs : Hid (Z.size = 18) := Lib.hid (by (show _ = _); rw [← HZ.out]; simpa using hzl)
      go_loopg [12, 91] 18 (fun gg sv kv wr2 => ∃ k : Nat, k ≤ 18 ∧ 18 - k ≤ gg ∧ kv = i64 k ∧ sv = i64 (sumZ (st.zs.take k)) ∧ wr2 = wr)
      case atStart => exact ⟨0, by omega, by omega, rfl, rfl, rfl⟩
      case round =>
        obtain ⟨k, hk, hgk, rfl, rfl, rfl⟩ := hrel
        have hb := HSB.out k (by omega)
        by_cases hlt : k < 18
        · have hst := sumZ_take (zs := st.zs) (k := k) (by omega)
          have hzk := BD.out.zs k
          have HZx : Hid (Z[k]? = some (i64 (st.zs.getD k 0))) := Lib.hid (by
            (show _ = _); rw [← HZ.out, List.getElem?_toArray, List.getElem?_map, List.getElem?_eq_getElem (by omega), List.getD_eq_getElem?_getD, List.getElem?_eq_getElem (by omega)]; rfl)
          have HST := Lib.hid hst
          clear hst
          generalize st.zs.getD k 0 = z at *
          generalize sumZ (st.zs.take k) = sk at *
          go_wp2_with (refine wpList_index18 rfl _ _ rfl Z HZs.out k hlt (i64 z) HZx.out rfl rfl ?_)
          go_roundg (18 - (k + 1))
          case measure => omega
          case rel => exact ⟨k + 1, by omega, by omega, by go_num, by rw [HST.out], rfl⟩
        · obtain rfl : k = 18 := by omega
          rw [List.take_of_length_le (by omega)] at hb ⊢
          have hfew := HI.out.elim fun T ht => days_few BD.out ht
          have HTo := Lib.hid (total_any p bd bn st.ds st.ns st.zs wr K.out.sm (fun q hq => by have := BD.out.ds q hq; unfold NumR at this; unfold smallC; omega) hfew)
          have htd : (sumC (st.ds.map (·.2))).1 = totalD st.ds := rfl
          have HTD := Lib.hid htd
          have hsm := sumC_small (st.ds.map (·.2)) (fun c hc => by
            obtain ⟨q, hq, rfl⟩ := List.mem_map.1 hc
            have := BD.out.ds q hq; unfold NumR at this; unfold smallC; omega)
          rw [List.length_map] at hsm
          have hsm1 : 0 ≤ (sumC (st.ds.map (·.2))).1 ∧ (sumC (st.ds.map (·.2))).1 ≤ 100000 * 1000000000000 := ⟨hsm.1, by have := hsm.2.1; omega⟩
          clear hsm htd
          obtain ⟨⟨T1, T2⟩, hT12⟩ : ∃ z, sumC (st.ds.map (·.2)) = z := ⟨_, rfl⟩
          rw [hT12] at HTo HTD hsm1
          simp only [cV] at HTo
          have hfd : ∀ (a b : Int) (u : World), (Instr.field 34 (.agg #[i64 a, i64 b]) 0).run Tryz.prog u = .ok (i64 a) u := fun _ _ _ => by kernel_rfl
          clear hT12
          simp only at hsm1 HTD
          obtain ⟨h1a, h1b⟩ := hsm1
          rw [show totalD st.ds = T1 from HTD.out.symm] at HP
          clear HTD
          generalize sumZ st.zs = S at *
          have K2 := Lib.hid K.out
          go_wp2_with fail
          refine HTo.out.mono ?_; rintro e w3 ⟨rfl, b3⟩
          have K3 := Lib.hid (K2.out.below b3)
          clear b3 K K2 HTo
          by_cases e1 : S = T1
          case neg =>
            have bx : (S != T1) = true := by simpa using e1
            have V : Hid (R = .inr (n, 3)) := Lib.hid (by (show R = _); rw [HP.out, if_pos e1])
            clear HP e1
            go_wp2_with fail
            go_ret3
            rw [V.out]
            exact ⟨rfl, K3.out.bel⟩
          have bx : (S != T1) = false := by simpa using e1
          by_cases e2 : 1000000 < T1
          case pos =>
            have V : Hid (R = .inr (n, 9)) := Lib.hid (by (show R = _); rw [HP.out, if_neg (fun q => q e1), if_pos e2])
            clear HP e1
            go_wp2_with fail
            go_ret3
            rw [V.out]
            exact ⟨rfl, K3.out.bel⟩
          have V : Hid (R = .inl st) := Lib.hid (by (show R = _); rw [HP.out, if_neg (fun q => q e1), if_neg e2])
          clear HP e1
          go_wp2_with fail
          go_ret3
          rw [V.out]
          exact ⟨p, bd, bn, rfl, K3.out.sm, ⟨K3.out.lo.1, K3.out.lo.2.1, K3.out.lo.2.2.1⟩, K3.out.bel⟩
    have bs : (s != []) = true := by simpa using hs
    have bs2 : s.isEmpty = false := by simpa using hs
    cases hd : s.dropWhile nl with
    | nil =>
      have V : Hid (R = .inr (n + 1, 4)) := Lib.hid (by (show R = _); rw [HP.out, ← HL.out, pL_none hs hd])
      have HC := Lib.hid (cutnl_none s hd wr (HEv.out.below K.out.bel) (by omega))
      clear HP HL hs hd HI BD
      go_wp2_with fail
      refine HC.out.mono ?_; rintro e w3 ⟨rfl, b3⟩
      have K3 := Lib.hid (K.out.below b3)
      clear b3 K
      go_wp2_with fail
      go_ret3
      rw [V.out]
      exact ⟨by go_num, K3.out.bel⟩
    | cons c rest =>
      have HC := Lib.hid (cutnl_some s hd wr (HEv.out.below K.out.bel) (by omega))
      have hlen : (s.takeWhile nl).length + rest.length + 1 = s.length := by
        have := congrArg List.length (List.takeWhile_append_dropWhile (p := nl) (l := s))
        rw [hd] at this
        simp only [List.length_append, List.length_cons] at this
        omega
      have HEr := Lib.hid (fun q (h : rowP vN (s.takeWhile nl) = .inr q) => show R = .inr (n + 1, q) by rw [HP.out, ← HL.out, pL_err hd h])
      have HSq := Lib.hid (fun x (h : rowP vN (s.takeWhile nl) = .inl x) (hf : ¬ follows x st.prev st.day = true) => show R = .inr (n + 1, 30) by rw [HP.out, ← HL.out, pL_seq hd h hf])
      have HGo := Lib.hid (fun x (h : rowP vN (s.takeWhile nl) = .inl x) (hf : follows x st.prev st.day = true) => show parseL vN (putX st x) (n + 1) rest = RL by rw [← HL.out, pL_go hd h hf])
      generalize s.takeWhile nl = ln at *
      clear hs hd HL
      go_wp2_with fail
      refine HC.out.mono ?_; rintro e w3 ⟨rfl, b3⟩
      have K3 := Lib.hid (K.out.below b3)
      clear b3 K HC
      go_wp2_with fail
      refine (parseRow_any ln w3 (HEv.out.below K3.out.bel) (HTb.out.below K3.out.bel) (by omega)).mono ?_; rintro e w4 ⟨x, er, rfl, hres, b4⟩
      have K4 := Lib.hid (K3.out.below b4)
      clear b4 K3
      obtain ⟨xs, xn, xf, xa, xb⟩ := x
      unfold rwV
      have KX := Lib.hid (blk_new w4 (.cells #[i64 xs, enS xn, i64 xf, i64 xa, i64 xb] 121))
      have K5 := Lib.hid (K4.out.below (below_new w4 (.cells #[i64 xs, enS xn, i64 xf, i64 xa, i64 xb] 121)))
      have hxb : w4.heap.size ≠ p ∧ w4.heap.size ≠ bd ∧ w4.heap.size ≠ bn ∧ w4.heap.size ≠ pv := ⟨fun e => by have := K4.out.sm.lp; omega, fun e => by have := K4.out.sm.ld; omega, fun e => by have := K4.out.sm.ln; omega, fun e => by have := blk_lt K4.out.pb; omega⟩
      have y0 := blk_cell K4.out.pb 0
      have y1 := blk_cell K4.out.pb 1
      have y2 := blk_cell K4.out.pb 2
      have y3 := blk_cell K4.out.pb 3
      have y4 := blk_cell K4.out.pb 4
      have hpv4 := blk_lt K4.out.pb
      clear K4
      by_cases hz : er = 0
      case neg =>
        have bz : (er != 0) = true := by simpa using hz
        obtain ⟨q, hq⟩ : ∃ q : Nat, er = q := by
          rcases hres with ⟨_, h⟩ | ⟨q, _, h, _⟩
          · exact absurd h hz
          · exact ⟨q, h⟩
        have V : Hid (R = .inr (n + 1, q)) := Lib.hid (by
          rcases hres with ⟨_, h⟩ | ⟨q', h1, h2, _⟩
          · exact absurd h hz
          · have : q' = q := by omega
            rw [← this]; exact HEr.out q' h1)
        subst hq
        clear HP HEr HSq HGo hres HI BD hz
        go_wp2_with fail
        go_ret3
        rw [V.out]
        exact ⟨by go_num, K5.out.bel⟩
      subst hz
      have hrow : rowP vN ln = .inl ⟨xs, xn, xf, (xa, xb)⟩ := by
        rcases hres with ⟨h, _⟩ | ⟨q, _, h2, h3⟩
        · exact h
        · exact absurd (by omega) h3
      clear hres HEr
      have HM := rowP_more hrow
      have BD2 := Lib.hid (BD.out.put hrow (by omega))
      have HSq2 := Lib.hid (HSq.out _ hrow)
      have HGo2 := Lib.hid (HGo.out _ hrow)
      have HI2 := Lib.hid (fun (hf : follows ⟨xs, xn, xf, (xa, xb)⟩ st.prev st.day = true) => HI.out.imp' (fun T => T ++ (ln ++ [10])) fun _ ht => ht.step hrow hf)
      have HFo := Lib.hid (fun u => follows_any ⟨xs, xn, xf, (xa, xb)⟩ st.prev st.day u)
      obtain ⟨⟨hs0, hs4⟩, hf0, hfd, hfz, hnum, -, hnl⟩ := HM
      simp only at hs0 hs4 hf0 hfd hfz hnl
      have hdn := BD.out.dn
      have hnn := BD.out.nn
      have hday := BD.out.day
      clear hnum hrow HSq HGo HI BD
      obtain ⟨day, prv, ds, ns, zs⟩ := st
      obtain ⟨ps, pn, pf, pa, pb⟩ := prv
      simp only at hdn hnn hday
      unfold rwV at HFo
      go_wp2_with fail
      refine (HFo.out _).mono ?_; rintro e w6 ⟨rfl, b6⟩
      have K6 := Lib.hid (K5.out.below b6)
      have KX6 := Lib.hid (blk_below b6 KX.out)
      clear b6 K5 KX y0 y1 y2 y3 y4 hpv4 HFo
      generalize w4.heap.size = xb' at *
      have x0 := blk_cell KX6.out 0
      obtain ⟨fo, hfo⟩ : ∃ z, follows ⟨xs, xn, xf, (xa, xb)⟩ ⟨ps, pn, pf, (pa, pb)⟩ day = z := ⟨_, rfl⟩
      rw [hfo] at HSq2 HGo2 HI2 ⊢
      clear hfo
      cases fo with
      | false =>
        have V := Lib.hid (HSq2.out Bool.false_ne_true)
        clear HP HSq2 HGo2 HI2 BD2
        go_wp2_with fail
        go_ret3
        rw [V.out]
        exact ⟨by go_num, K6.out.bel⟩
      | true =>
        have HG := Lib.hid (HGo2.out rfl)
        have HI3 := Lib.hid (HI2.out rfl)
        clear HSq2 HGo2 HI2
        by_cases s0 : xs = 0
        · subst s0
          have hfd1 := hfd rfl
          clear hfd hfz
          have x2 := blk_cell KX6.out 2
          go_wp2_with fail
          have K7 := Lib.hid (K6.out.below (Below.refl _ _).drew)
          have KX7 := Lib.hid (blk_below (Below.refl _ _).drew KX6.out)
          clear K6 KX6 x0 x2
          refine Flow.wp_region_pre Flow.Later Flow.Later.refl Flow.Later.trans [7] (.held [0, 1, 2, 3, 4, 5, 6] (.tail (.step [] 7 (.done [])))) (by kernel_rfl) (by kernel_rfl) ?_
          generalize World.drew _ = wd at *
          have qp : ∀ t : Flow.Cls (Flow.Later wd), t.val.cell? ⟨p, 0, none⟩ = some (.map (some bd)) := fun t => Flow.cls_cell K7.out.sm.c0 t
          have q0 : ∀ t : Flow.Cls (Flow.Later wd), t.val.cell? ⟨xb', 0, none⟩ = some (i64 0) := fun t => Flow.cls_cell (blk_cell KX7.out 0) t
          have q1 : ∀ t : Flow.Cls (Flow.Later wd), t.val.cell? ⟨xb', 1, none⟩ = some (enS xn) := fun t => Flow.cls_cell (blk_cell KX7.out 1) t
          have q2 : ∀ t : Flow.Cls (Flow.Later wd), t.val.cell? ⟨xb', 2, none⟩ = some (i64 xf) := fun t => Flow.cls_cell (blk_cell KX7.out 2) t
          have q3 : ∀ t : Flow.Cls (Flow.Later wd), t.val.cell? ⟨xb', 3, none⟩ = some (i64 xa) := fun t => Flow.cls_cell (blk_cell KX7.out 3) t
          have q4 : ∀ t : Flow.Cls (Flow.Later wd), t.val.cell? ⟨xb', 4, none⟩ = some (i64 xb) := fun t => Flow.cls_cell (blk_cell KX7.out 4) t
          haveI nonE := Flow.cls_nonempty wd
          rw [Flow.wpPre_held]
          simp only [Flow.pick, List.getElem?_toArray, List.getElem?_cons_succ, List.getElem?_cons_zero]
          repeat go_big_quiet_step (fail)
          refine wpQuiet_nil ?_
          clear nonE qp q0 q1 q2 q3 q4
          rw [Flow.wpPre_tail, Flow.wpSched_step]
          simp only [Flow.pick]
          refine wpQuiet_nil ?_
          rw [Flow.callAt_eq]
          simp only [List.getElem?_toArray, List.getElem?_cons_succ, List.getElem?_cons_zero]
          rw [if_pos (by rfl)]
          refine Flow.wp_behind (fun K0 hK => ?_)
          refine wp_mapUpdate_a wd _ _ _ 69 rfl dayK 34 Tryz.underlying69 bd ds rfl K7.out.sm.md (by unfold maxLen; omega) xf (wf_int (by omega) (by omega)) (xa, xb) rfl rfl ?_
          intro w8 hm2 hg2
          refine hK.out _ _ ⟨trivial, ?_⟩
          clear hK K0
          have K8 := Lib.hid ((K7.out.putD hm2 hg2).day xf)
          have KX8 := Lib.hid ((hg2.block _ (blk_lt KX7.out) (fun e => by injection e with e; exact hxb.2.1 e)).trans KX7.out)
          clear hm2 hg2 K7 KX7
          rw [Flow.wpSched_done]
          simp only [Flow.pick, Act.put]
          refine wpQuiet_nil ?_
          have x0 := blk_cell KX8.out 0
          have x1 := blk_cell KX8.out 1
          have x2 := blk_cell KX8.out 2
          have x3 := blk_cell KX8.out 3
          have x4 := blk_cell KX8.out 4
          have f0 := blk_free K8.out.pb 0
          have f1 := blk_free K8.out.pb 1
          have f2 := blk_free K8.out.pb 2
          have f3 := blk_free K8.out.pb 3
          have f4 := blk_free K8.out.pb 4
          have r0 := blk_cell K8.out.pb 0
          have r1 := blk_cell K8.out.pb 1
          have r2 := blk_cell K8.out.pb 2
          have r3 := blk_cell K8.out.pb 3
          have r4 := blk_cell K8.out.pb 4
          have hpvl := blk_lt K8.out.pb
          have K9 := Lib.hid (K8.out.putP ⟨0, xn, xf, (xa, xb)⟩)
          go_wp2_with fail
          go_roundg rest.length
          case measure => omega
          case rel => exact ⟨rest, n + 1, _, by omega, by omega, rfl, rfl, by go_num, rfl, K9, BD2, HI3, HG⟩
        have bs0 : (xs == 0) = false := by simpa using s0
        by_cases s4 : xs = 4
        · subst s4
          have hfz1 := hfz rfl
          clear hfd hfz
          go_wp2_with fail
          obtain ⟨kf, hkf⟩ : ∃ k : Nat, xf = k := ⟨xf.toNat, by omega⟩
          subst hkf
          have hk18 : kf < 18 := by omega
          have K7 := Lib.hid (K6.out.below (Below.refl _ _).drew)
          have KX7 := Lib.hid (blk_below (Below.refl _ _).drew KX6.out)
          clear K6 KX6 x0
          refine Flow.wp_region_pre Flow.Later Flow.Later.refl Flow.Later.trans [9] (.held [0, 1, 2, 3, 4, 5] (.call 6 (.pure [7] (.held [8] (.tail (.step [] 9 (.done []))))))) (by kernel_rfl) (by kernel_rfl) ?_
          generalize World.drew _ = wd at *
          have q0 : ∀ t : Flow.Cls (Flow.Later wd), t.val.cell? ⟨xb', 0, none⟩ = some (i64 4) := fun t => Flow.cls_cell (blk_cell KX7.out 0) t
          have q1 : ∀ t : Flow.Cls (Flow.Later wd), t.val.cell? ⟨xb', 1, none⟩ = some (enS xn) := fun t => Flow.cls_cell (blk_cell KX7.out 1) t
          have q2 : ∀ t : Flow.Cls (Flow.Later wd), t.val.cell? ⟨xb', 2, none⟩ = some (i64 kf) := fun t => Flow.cls_cell (blk_cell KX7.out 2) t
          have q3 : ∀ t : Flow.Cls (Flow.Later wd), t.val.cell? ⟨xb', 3, none⟩ = some (i64 xa) := fun t => Flow.cls_cell (blk_cell KX7.out 3) t
          have q4 : ∀ t : Flow.Cls (Flow.Later wd), t.val.cell? ⟨xb', 4, none⟩ = some (i64 xb) := fun t => Flow.cls_cell (blk_cell KX7.out 4) t
          have hpl := K7.out.sm.lp
          haveI nonE := Flow.cls_nonempty wd
          rw [Flow.wpPre_held]
          simp only [Flow.pick, List.getElem?_toArray, List.getElem?_cons_succ, List.getElem?_cons_zero]
          repeat go_big_quiet_step (fail)
          refine wpQuiet_nil ?_
          clear nonE q0 q1 q2 q3 q4
          rw [Flow.wpPre_call, Flow.callAt_eq]
          simp only [List.getElem?_toArray, List.getElem?_cons_succ, List.getElem?_cons_zero]
          rw [if_pos (by rfl)]
          refine Flow.wp_behind (fun K0 hK => ?_)
          go_wp2_with fail
          refine hK.out _ _ ⟨Below.refl _ _, ?_⟩
          clear hK K0
          haveI nonE := Flow.cls_nonempty_true
          rw [Flow.wpPre_pure]
          simp only [Flow.pick, List.getElem?_toArray, List.getElem?_cons_succ, List.getElem?_cons_zero]
          repeat go_big_quiet_step (fail)
          refine wpQuiet_nil ?_
          clear nonE
          haveI nonE := Flow.cls_nonempty wd
          rw [Flow.wpPre_held]
          simp only [Flow.pick, List.getElem?_toArray, List.getElem?_cons_succ, List.getElem?_cons_zero]
          repeat go_big_quiet_step (fail)
          refine wpQuiet_nil ?_
          clear nonE
          rw [Flow.wpPre_tail, Flow.wpSched_step]
          simp only [Flow.pick]
          refine wpQuiet_nil ?_
          rw [Flow.callAt_eq]
          simp only [List.getElem?_toArray, List.getElem?_cons_succ, List.getElem?_cons_zero]
          rw [if_pos (by rfl)]
          refine Flow.wp_behind (fun K0 hK => ?_)
          have hfz2 := K7.out.sm.fz (2 + kf)
          have hcz := K7.out.sm.cz hk18
          go_wp2_with fail
          refine hK.out _ _ ⟨trivial, ?_⟩
          clear hK K0
          have K8 := Lib.hid (K7.out.putZ hk18 xa)
          have KX8 := Lib.hid ((blk_set_ne (2 + kf) (i64 xa) hxb.1).trans KX7.out)
          clear K7 KX7 hfz2 hcz
          rw [Flow.wpSched_done]
          simp only [Flow.pick]
          refine wpQuiet_nil ?_
          have x0 := blk_cell KX8.out 0
          have x1 := blk_cell KX8.out 1
          have x2 := blk_cell KX8.out 2
          have x3 := blk_cell KX8.out 3
          have x4 := blk_cell KX8.out 4
          have f0 := blk_free K8.out.pb 0
          have f1 := blk_free K8.out.pb 1
          have f2 := blk_free K8.out.pb 2
          have f3 := blk_free K8.out.pb 3
          have f4 := blk_free K8.out.pb 4
          have r0 := blk_cell K8.out.pb 0
          have r1 := blk_cell K8.out.pb 1
          have r2 := blk_cell K8.out.pb 2
          have r3 := blk_cell K8.out.pb 3
          have r4 := blk_cell K8.out.pb 4
          have hpvl := blk_lt K8.out.pb
          have K9 := Lib.hid (K8.out.putP ⟨4, xn, kf, (xa, xb)⟩)
          go_wp2_with fail
          go_roundg rest.length
          case measure => omega
          case rel => exact ⟨rest, n + 1, _, by omega, by omega, rfl, rfl, by go_num, rfl, K9, BD2, HI3, HG⟩
        have bs4 : (xs == 4) = false := by simpa using s4
        have EP := Lib.hid (show putX ⟨day, ⟨ps, pn, pf, (pa, pb)⟩, ds, ns, zs⟩ ⟨xs, xn, xf, (xa, xb)⟩ = ⟨day, ⟨xs, xn, xf, (xa, xb)⟩, ds, putA ns (day, xs, xn) (xa, xb), zs⟩ by simp [putX, s0, s4])
        rw [EP.out] at BD2 HI3 HG
        clear EP
        go_wp2_with fail
        have K7 := Lib.hid (K6.out.below (Below.refl _ _).drew)
        have KX7 := Lib.hid (blk_below (Below.refl _ _).drew KX6.out)
        clear K6 KX6 x0
        refine Flow.wp_region_pre Flow.Later Flow.Later.refl Flow.Later.trans [12] (.held [0, 1, 2, 3, 4, 5, 6, 7, 8, 9, 10, 11] (.tail (.step [] 12 (.done [])))) (by kernel_rfl) (by kernel_rfl) ?_
        generalize World.drew _ = wd at *
        have qp : ∀ t : Flow.Cls (Flow.Later wd), t.val.cell? ⟨p, 1, none⟩ = some (.map (some bn)) := fun t => Flow.cls_cell K7.out.sm.c1 t
        have q0 : ∀ t : Flow.Cls (Flow.Later wd), t.val.cell? ⟨xb', 0, none⟩ = some (i64 xs) := fun t => Flow.cls_cell (blk_cell KX7.out 0) t
        have q1 : ∀ t : Flow.Cls (Flow.Later wd), t.val.cell? ⟨xb', 1, none⟩ = some (enS xn) := fun t => Flow.cls_cell (blk_cell KX7.out 1) t
        have q2 : ∀ t : Flow.Cls (Flow.Later wd), t.val.cell? ⟨xb', 2, none⟩ = some (i64 xf) := fun t => Flow.cls_cell (blk_cell KX7.out 2) t
        have q3 : ∀ t : Flow.Cls (Flow.Later wd), t.val.cell? ⟨xb', 3, none⟩ = some (i64 xa) := fun t => Flow.cls_cell (blk_cell KX7.out 3) t
        have q4 : ∀ t : Flow.Cls (Flow.Later wd), t.val.cell? ⟨xb', 4, none⟩ = some (i64 xb) := fun t => Flow.cls_cell (blk_cell KX7.out 4) t
        haveI nonE := Flow.cls_nonempty wd
        rw [Flow.wpPre_held]
        simp only [Flow.pick, List.getElem?_toArray, List.getElem?_cons_succ, List.getElem?_cons_zero]
        repeat go_big_quiet_step (fail)
        refine wpQuiet_nil ?_
        clear nonE qp q0 q1 q2 q3 q4
        rw [Flow.wpPre_tail, Flow.wpSched_step]
        simp only [Flow.pick]
        refine wpQuiet_nil ?_
        rw [Flow.callAt_eq]
        simp only [List.getElem?_toArray, List.getElem?_cons_succ, List.getElem?_cons_zero]
        rw [if_pos (by rfl)]
        refine Flow.wp_behind (fun K0 hK => ?_)
        refine wp_mapUpdate_a wd _ _ _ 70 rfl nameK 34 Tryz.underlying70 bn ns rfl K7.out.sm.mn (by unfold maxLen; omega) (day, xs, xn) ⟨wf_int (by simp only; omega) (by simp only; omega), wf_int (by simp only; omega) (by simp only; omega), by unfold maxLen; simp only; omega⟩ (xa, xb) rfl rfl ?_
        intro w8 hm2 hg2
        refine hK.out _ _ ⟨trivial, ?_⟩
        clear hK K0
        have K8 := Lib.hid (K7.out.putN hm2 hg2)
        have KX8 := Lib.hid ((hg2.block _ (blk_lt KX7.out) (fun e => by injection e with e; exact hxb.2.2.1 e)).trans KX7.out)
        clear hm2 hg2 K7 KX7
        rw [Flow.wpSched_done]
        simp only [Flow.pick, Act.put]
        refine wpQuiet_nil ?_
        have x0 := blk_cell KX8.out 0
        have x1 := blk_cell KX8.out 1
        have x2 := blk_cell KX8.out 2
        have x3 := blk_cell KX8.out 3
        have x4 := blk_cell KX8.out 4
        have f0 := blk_free K8.out.pb 0
        have f1 := blk_free K8.out.pb 1
        have f2 := blk_free K8.out.pb 2
        have f3 := blk_free K8.out.pb 3
        have f4 := blk_free K8.out.pb 4
        have r0 := blk_cell K8.out.pb 0
        have r1 := blk_cell K8.out.pb 1
        have r2 := blk_cell K8.out.pb 2
        have r3 := blk_cell K8.out.pb 3
        have r4 := blk_cell K8.out.pb 4
        have hpvl := blk_lt K8.out.pb
        have K9 := Lib.hid (K8.out.putP ⟨xs, xn, xf, (xa, xb)⟩)
        go_wp2_with fail
        go_roundg rest.length
        case measure => omega
        case rel => exact ⟨rest, n + 1, _, by omega, by omega, rfl, rfl, by go_num, rfl, K9, BD2, HI3, HG⟩
end Go.Proofs.YthgefcoaaommkaaGreatDoor
