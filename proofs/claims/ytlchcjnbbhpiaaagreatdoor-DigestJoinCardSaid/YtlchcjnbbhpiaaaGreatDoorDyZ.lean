/- Contract: the reference's Join. -/
import Derived.Test.YtlchcjnbbhpiaaaGreatDoorDyX
import Derived.Test.YtlchcjnbbhpiaaaGreatDoorYac
import Derived.Test.YtlchcjnbbhpiaaaGreatDoorYae
namespace Go.Dg
/-- The issue behind which the reference looks for the next. -/
def lastIe (S : List Dg) : Int := match S.getLast? with | none => 0 | some d => d.ie
/-- The best index so far. -/
def Best (ds : List Dg) (last : Int) (i : Nat) (best : Int) : Prop :=
 (best = -1 ∧ ∀ (j : Nat) (d : Dg), j < i → ds[j]? = some d → d.ie ≤ last) ∨
 (∃ (b : Nat) (y : Dg), best = b ∧ b < i ∧ ds[b]? = some y ∧ last < y.ie ∧ ∀ (j : Nat) (d : Dg), j < i → ds[j]? = some d → last < d.ie → y.ie ≤ d.ie)
theorem Best.zero (ds : List Dg) (last : Int) : Best ds last 0 (-1) := .inl ⟨rfl, fun j d h => by omega⟩
theorem Best.no {ds : List Dg} {last best : Int} {i : Nat} {d : Dg} (h : Best ds last i best) (hd : ds[i]? = some d) (hn : ¬ (last < d.ie ∧ (best < 0 ∨ ∃ (b : Nat) (y : Dg), best = b ∧ ds[b]? = some y ∧ d.ie < y.ie))) : Best ds last (i + 1) best := by
 rcases h with ⟨h1, h2⟩ | ⟨b, y, h1, h2, h3, h4, h5⟩
 ·refine .inl ⟨h1, fun j e hj he => ?_⟩
  rcases Nat.lt_or_ge j i with hji | hji
  ·exact h2 j e hji he
  ·obtain rfl : j = i := by omega
   rw [hd] at he; cases he
   false_or_by_contra
   exact hn ⟨by omega, .inl (by omega)⟩
 ·refine .inr ⟨b, y, h1, by omega, h3, h4, fun j e hj he hl => ?_⟩
  rcases Nat.lt_or_ge j i with hji | hji
  ·exact h5 j e hji he hl
  ·obtain rfl : j = i := by omega
   rw [hd] at he; cases he
   false_or_by_contra
   exact hn ⟨hl, .inr ⟨b, y, h1, h3, by omega⟩⟩
theorem Best.yes {ds : List Dg} {last best : Int} {i : Nat} {d : Dg} (h : Best ds last i best) (hd : ds[i]? = some d) (hl : last < d.ie) (hy : best < 0 ∨ ∃ (b : Nat) (y : Dg), best = b ∧ ds[b]? = some y ∧ d.ie < y.ie) : Best ds last (i + 1) i := by
 refine .inr ⟨i, d, rfl, by omega, hd, hl, fun j e hj he hle => ?_⟩
 rcases Nat.lt_or_ge j i with hji | hji
 ·rcases h with ⟨h1, h2⟩ | ⟨b, y, h1, h2, h3, h4, h5⟩
  ·have := h2 j e hji he; omega
  ·have h6 := h5 j e hji he hle
   rcases hy with hy | ⟨b', y', e1, e2, e3⟩
   ·omega
   ·have : b = b' := by omega
    subst this
    rw [h3] at e2; cases e2
    omega
 ·obtain rfl : j = i := by omega
  rw [hd] at he; cases he
  exact Int.le_refl _
theorem lastIe_lt {S : List Dg} (hs : SrtD S) (_hp : ∀ d ∈ S, 0 < d.ie) (t : Nat) (z : Int) (hz : 0 < z) : (∀ x ∈ S.take t, x.ie < z) ↔ lastIe (S.take t) < z := by
 unfold lastIe
 cases hl : (S.take t).getLast? with
 | none =>
  rw [List.getLast?_eq_none_iff] at hl
  rw [hl]
  simp [hz]
 | some y =>
  simp only
  obtain ⟨r, e⟩ := List.getLast?_eq_some_iff.1 hl
  constructor
  ·intro h; exact h y (by rw [e]; simp)
  ·intro h x hx
   have hst : SrtD (S.take t) := List.Pairwise.take hs
   rw [e] at hst hx
   unfold SrtD at hst
   rw [List.pairwise_append] at hst
   rcases List.mem_append.1 hx with hx | hx
   ·have := hst.2.2 x hx y (by simp); omega
   ·rw [List.mem_singleton.1 hx]; exact h
/-- Behind all of the list the best is the sorted list's next. -/
theorem Best.next {ds : List Dg} {best : Int} {t : Nat} (hn : (ds.map (·.ie)).Nodup) (hp : ∀ d ∈ ds, 0 < d.ie) (ht : t < ds.length) (h : Best ds (lastIe ((sortD ds).take t)) ds.length best) :
  ∃ (b : Nat) (y : Dg), best = b ∧ b < ds.length ∧ ds[b]? = some y ∧ (sortD ds)[t]? = some y := by
 have hsrt := sortD_srt ds hn
 have hpS : ∀ d ∈ sortD ds, 0 < d.ie := fun d hd => hp d ((sortD_perm ds).mem_iff.1 hd)
 have hlen := (sortD_perm ds).length_eq
 rcases h with ⟨h1, h2⟩ | ⟨b, y, h1, h2, h3, h4, h5⟩
 ·exfalso
  have hts : t < (sortD ds).length := by omega
  have hz : (sortD ds)[t]? = some (sortD ds)[t] := List.getElem?_eq_getElem hts
  have hzm : (sortD ds)[t] ∈ ds := (sortD_perm ds).mem_iff.1 (List.getElem_mem hts)
  obtain ⟨j, hj⟩ := List.mem_iff_getElem?.1 hzm
  have h6 := h2 j _ (List.getElem?_eq_some_iff.1 hj).1 hj
  have h7 : ∀ x ∈ (sortD ds).take t, x.ie < (sortD ds)[t].ie := fun x hx => by
   obtain ⟨i, hi⟩ := List.mem_iff_getElem?.1 hx
   rw [List.getElem?_take] at hi
   split at hi
   ·next hit =>
    obtain ⟨hil, e⟩ := List.getElem?_eq_some_iff.1 hi
    unfold SrtD at hsrt
    rw [List.pairwise_iff_getElem] at hsrt
    rw [← e]
    exact hsrt i t hil hts hit
   ·cases hi
  have := (lastIe_lt hsrt hpS t _ (hpS _ (List.getElem_mem hts))).1 h7
  omega
 ·refine ⟨b, y, h1, h2, h3, pick_next hn (List.mem_of_getElem? h3) ?_ ?_⟩
  ·exact (lastIe_lt hsrt hpS t _ (hp y (List.mem_of_getElem? h3))).2 h4
  ·intro z hz hlt
   obtain ⟨j, hj⟩ := List.mem_iff_getElem?.1 hz
   exact h5 j z (List.getElem?_eq_some_iff.1 hj).1 hj ((lastIe_lt hsrt hpS t _ (hp z hz)).1 hlt)
theorem step_next {S : List Dg} {t : Nat} {y : Dg} (hy : S[t]? = some y) (hp : ∀ d ∈ S, 0 < d.ie) :
  lastIe (S.take (t + 1)) = y.ie ∧ headIe (S.take (t + 1)) = (if headIe (S.take t) = 0 then y.ie else headIe (S.take t)) ∧ maxDa (S.take (t + 1)) = max (maxDa (S.take t)) y.da ∧ (S.take (t + 1)).flatMap (·.its) = (S.take t).flatMap (·.its) ++ y.its := by
 have e : S.take (t + 1) = S.take t ++ [y] := by rw [List.take_add_one, hy]; rfl
 refine ⟨?_, ?_, ?_, ?_⟩
 ·rw [e]; unfold lastIe; rw [List.getLast?_append]; rfl
 ·cases t with
  | zero => rw [e]; rfl
  | succ n =>
   cases S with
   | nil => cases hy
   | cons d r =>
    have := hp d (by simp)
    rw [List.take_succ_cons, List.take_succ_cons]
    show d.ie = if d.ie = 0 then y.ie else d.ie
    rw [if_neg (by omega)]
 ·rw [e]; unfold maxDa; rw [List.foldl_append]; rfl
 ·rw [e, List.flatMap_append, List.flatMap_cons, List.flatMap_nil, List.append_nil]
end Go.Dg
namespace Go.Proofs.YtlchcjnbbhpiaaaGreatDoor
open Go.RowKit Go.Shelf Go.Dg Go.Maps
/-- Where the reference's Join stands: the digest that is put together in block jb. -/
structure JrS (W0 W : World) (jb : Nat) (t : List UInt8) (v ie da : Int) (A : Option Addr) (c : Nat) (its : List It) : Prop where
 bel : Below W0.heap.size W0 W
 blk : W.heap[jb]? = some (.cells #[enS t, i64 v, i64 ie, i64 da, .slice A its.length c] 24 (0, 0))
 own : W.ownsRow (jb + 1) 53 36 (.slice A its.length c) its.length (its.flatMap itL)
 hj : W0.heap.size ≤ jb
 sz : jb < W.heap.size
theorem JrS.below {W0 W W' : World} {jb : Nat} {t : List UInt8} {v ie da : Int} {A : Option Addr} {c : Nat} {its : List It} (h : JrS W0 W jb t v ie da A c its) (hb : Below W.heap.size W W') : JrS W0 W' jb t v ie da A c its :=
 ⟨h.bel.tr hb, blk_below hb h.blk, own_below h.own hb, h.hj, Nat.lt_of_lt_of_le h.sz hb.size⟩
theorem JrS.issue {W0 W : World} {jb : Nat} {t : List UInt8} {v ie da : Int} {A : Option Addr} {c : Nat} {its : List It} (h : JrS W0 W jb t v ie da A c its) (z : Int) : JrS W0 (W.setCell ⟨jb, 2, none⟩ (i64 z)) jb t v z da A c its := by
 have hk : But jb W (W.setCell ⟨jb, 2, none⟩ (i64 z)) := (But.refl _ _).setCell _
 exact ⟨h.bel.trans (but_lowJ hk h.hj h.bel.size), blk_set h.blk 2 (i64 z), own_but h.own (Nat.lt_succ_self _) hk, h.hj, Nat.lt_of_lt_of_le h.sz hk.size⟩
theorem JrS.date {W0 W : World} {jb : Nat} {t : List UInt8} {v ie da : Int} {A : Option Addr} {c : Nat} {its : List It} (h : JrS W0 W jb t v ie da A c its) (z : Int) : JrS W0 (W.setCell ⟨jb, 3, none⟩ (i64 z)) jb t v ie z A c its := by
 have hk : But jb W (W.setCell ⟨jb, 3, none⟩ (i64 z)) := (But.refl _ _).setCell _
 exact ⟨h.bel.trans (but_lowJ hk h.hj h.bel.size), blk_set h.blk 3 (i64 z), own_but h.own (Nat.lt_succ_self _) hk, h.hj, Nat.lt_of_lt_of_le h.sz hk.size⟩
theorem JrS.app {W0 W W' : World} {jb : Nat} {t : List UInt8} {v ie da : Int} {A A' : Option Addr} {c c' : Nat} {its more : List It} (h : JrS W0 W jb t v ie da A c its) (ho : W'.ownsRow (jb + 1) 53 36 (.slice A' (its.length + more.length) c') (its.length + more.length) (its.flatMap itL ++ more.flatMap itL)) (hb : Below (jb + 1) W W') :
  JrS W0 (W'.setCell ⟨jb, 4, none⟩ (.slice A' (its.length + more.length) c')) jb t v ie da A' c' (its ++ more) := by
 have hk : But jb W' (W'.setCell ⟨jb, 4, none⟩ (.slice A' (its.length + more.length) c')) := (But.refl _ _).setCell _
 have hsz := Nat.lt_of_lt_of_le h.sz hb.size
 have hw := h.bel.size
 have hj := h.hj
 refine ⟨(h.bel.trans (hb.mono (by omega))).trans (but_lowJ hk h.hj (by omega)), ?_, ?_, h.hj, Nat.lt_of_lt_of_le hsz hk.size⟩
 ·rw [List.length_append]
  exact blk_set ((hb.block jb (by omega)).trans h.blk) 4 _
 ·rw [List.length_append, List.flatMap_append]
  exact own_but ho (Nat.lt_succ_self _) hk
/-- The result's block stands as it was laid. -/
structure JrR (w W : World) : Prop where
 bel : Below w.heap.size w W
 res : W.heap[w.heap.size]? = some (.cells #[enS [], i64 0, i64 0, i64 0, .slice none 0 0] 24 (0, 0))
theorem JrR.below {w W W' : World} (h : JrR w W) (hb : Below W.heap.size W W') : JrR w W' := ⟨h.bel.tr hb, blk_below hb h.res⟩
/-- What is asked of the digests that the reference's Join is handed. -/
def SrX (x : DgX) : Prop := x.1.its.length ≤ 1000 ∧ x.1.ti.length ≤ 1000000000 ∧ ∀ y ∈ x.1.its, y.fr.length ≤ 1000000000 ∧ y.su.length ≤ 1000000000 ∧ y.bo.length ≤ 100000000
set_option maxRecDepth 100000 in
set_option maxHeartbeats 32000000 in
theorem joinR_any (A : Option Addr) (c : Nat) (x0 : DgX) (xr : List DgX) (w : World) (h : RdG w A (x0 :: xr)) (_hc : (x0 :: xr).length ≤ c) (hn : (x0 :: xr).length ≤ 1000) (hs : ∀ x ∈ x0 :: xr, SrX x) :
  Calls Tryz.prog 39 #[.slice A (x0 :: xr).length c] w fun e w' => (∃ A' c', e = .returned (.tuple #[dgA (joinF ((x0 :: xr).map (·.1))).1 A' c', i64 (joinF ((x0 :: xr).map (·.1))).2]) ∧ RdI w' A' (joinF ((x0 :: xr).map (·.1))).1.its ∧ (joinF ((x0 :: xr).map (·.1))).1.its.length ≤ c') ∧ Below w.heap.size w w' := by
 have HJB := Lib.hid (fun z (e : joinE x0.1.ti x0.1.vo [] ((x0 :: xr).map (·.1)) = z) (hz : z ≠ 0) => (show joinF ((x0 :: xr).map (·.1)) = (zD, z) from joinF_bad e hz))
 have HJG := Lib.hid (fun (e : joinE x0.1.ti x0.1.vo [] ((x0 :: xr).map (·.1)) = 0) => (show joinF ((x0 :: xr).map (·.1)) = if chkD (joined x0.1.ti x0.1.vo (sortD ((x0 :: xr).map (·.1)))) ≠ 0 then (zD, chkD (joined x0.1.ti x0.1.vo (sortD ((x0 :: xr).map (·.1))))) else ((joined x0.1.ti x0.1.vo (sortD ((x0 :: xr).map (·.1)))), 0) from joinF_good e))
 have HX0 := Lib.hid (show (x0 :: xr)[0]? = some x0 from rfl)
 have hpos : 0 < (x0 :: xr).length := by simp
 obtain ⟨xs, hxs⟩ : ∃ q, x0 :: xr = q := ⟨_, rfl⟩
 rw [hxs] at h _hc hn hs HJB HJG HX0 hpos ⊢
 clear hxs
 obtain ⟨J, hJ⟩ : ∃ q, joinF (xs.map (·.1)) = q := ⟨_, rfl⟩
 rw [hJ] at HJB HJG ⊢
 clear hJ
 have H := Lib.hid h
 have HS := Lib.hid hs
 have hz0 : ((xs.length : Int) == 0) = false := by simp; intro e; rw [e] at hpos; simp at hpos
 obtain ⟨b, o, x0', hA, hbl, hx0, hrg0, _⟩ := h.at_ hpos
 rw [HX0.out] at hx0
 obtain rfl := Option.some.inj hx0
 subst hA
 rw [Nat.zero_mul, Nat.add_zero] at hrg0
 have HRA : Hid (∀ W, Below w.heap.size w W → ∀ (k : Nat) (x : DgX), xs[k]? = some x → W.rangeAt b (o + k * 5) (dgxL x)) := Lib.hid fun W hb k x hx => by
  obtain ⟨b1, o1, e, hl, hc⟩ := h.rd hpos
  obtain ⟨rfl, rfl⟩ : b = b1 ∧ o = o1 := by injection e with e; injection e with e1 e2; exact ⟨e1, e2⟩
  exact range_below (hc k x hx) (hb.mono (Nat.le_refl _))
 have HR0 : Hid (∀ W, Below w.heap.size w W → W.rangeAt b o [enS x0.1.ti, i64 x0.1.vo, i64 x0.1.ie, i64 x0.1.da, .slice x0.2.1 x0.1.its.length x0.2.2]) := Lib.hid fun W hb => range_below hrg0 hb
 clear h hs hx0 hrg0
 go_enter Tryz.func39, Tryz.ntmps39
 go_upto_region 3 with fail
 have J1 : Hid (JrR w (w.alloc (.cells #[enS [], i64 0, i64 0, i64 0, .slice none 0 0] 24))) := Lib.hid ⟨below_new _ _, blk_new _ _⟩
 generalize w.alloc (.cells #[enS [], i64 0, i64 0, i64 0, .slice none 0 0] 24) = w1 at *
 have K1 : Hid (JoK x0.1.ti x0.1.vo (xs.map (·.1)) 0) := Lib.hid ⟨by rw [List.take_zero, List.drop_zero]; rfl, by simp⟩
 go_upto_block 0 with fail
 go_cut [] (fun wx => Hid (JrR w wx) ∧ Hid (JoK x0.1.ti x0.1.vo (xs.map (·.1)) xs.length))
 case first =>
  go_wp2_with fail
  go_loopg [4] xs.length (fun gg kv wr => ∃ k : Nat, k ≤ xs.length ∧ xs.length - k ≤ gg ∧ kv = i64 k ∧ Hid (JrR w wr) ∧ Hid (JoK x0.1.ti x0.1.vo (xs.map (·.1)) k))
  case atStart => exact ⟨0, Nat.zero_le _, by omega, rfl, J1, K1⟩
  case round =>
   obtain ⟨k, hk, hgg, rfl, JW, KW⟩ := hrel
   clear J1 K1
   by_cases hlt : k < xs.length
   case neg =>
    obtain rfl : k = xs.length := by omega
    go_wp2_with fail
    go_meet
    exact ⟨JW, KW⟩
   obtain ⟨x, hx⟩ : ∃ x, xs[k]? = some x := ⟨_, List.getElem?_eq_getElem hlt⟩
   obtain ⟨s1, s2, s3⟩ := HS.out x (List.mem_of_getElem? hx)
   have hok := H.out.ok x (List.mem_of_getElem? hx)
   have HRG := Lib.hid (fun W (hb : Below w.heap.size w W) => HRA.out W hb k x hx)
   obtain ⟨d, A1, c1⟩ := x
   simp only at hok s1 s2 s3
   have HD : Hid ((xs.map (·.1))[k]? = some d) := Lib.hid (by (show _ = _); rw [List.getElem?_map, hx]; rfl)
   have HRG : Hid (∀ W, Below w.heap.size w W → W.rangeAt b (o + k * 5) [enS d.ti, i64 d.vo, i64 d.ie, i64 d.da, .slice A1 d.its.length c1]) := HRG
   have HCK := Lib.hid (fun u (hb : Below w.heap.size w u) => check_ref d A1 c1 u (hok.rd.below hb) hok.cap (by omega) s2 s3)
   clear hx hok s1 s2 s3
   have r1 := HRG.out wr JW.out.bel
   go_wp2_with (refine wpList_load_mid rfl 24 _ rfl b (o + k * 5) rfl [enS d.ti, i64 d.vo, i64 d.ie, i64 d.da, .slice A1 d.its.length c1] _ r1 Tryz.underlying24 rfl (by kernel_rfl) ?_)
   clear r1
   refine (HCK.out wr JW.out.bel).mono ?_; rintro e w3 ⟨rfl, b3⟩
   have J3 := Lib.hid (JW.out.below b3)
   clear b3 JW HCK
   have HE := Lib.hid (KW.out.eq.trans (joinE_at HD.out))
   have HNX := Lib.hid (fun h1 h2 h3 => KW.out.next HD.out h1 h2 h3)
   obtain ⟨ec, hec⟩ : ∃ z, chkD d = z := ⟨_, rfl⟩
   rw [hec] at HE ⊢
   have HEC := Lib.hid hec
   clear hec KW
   by_cases he : ec = 0
   case neg =>
    rw [if_pos he] at HE
    have HVE := Lib.hid (HJB.out ec HE.out he)
    have hq : (ec != 0) = true := by simpa using he
    have hq2 : (ec == 0) = false := by simpa using he
    clear he HNX HE HEC
    have HRS := Lib.hid J3.out.res
    have HBL := Lib.hid J3.out.bel
    go_wp2_with (refine wpList_store_mid rfl 24 _ _ rfl w.heap.size 0 #[enS [], i64 0, i64 0, i64 0, .slice none 0 0] rfl rfl (there_at HRS.out (Nat.le_refl 5)) (by kernel_rfl) (one_dg [] 0 0 0 none 0 0) ?_)
    have ZS := dg_storeT HRS.out (enS []) (i64 0) (i64 0) (i64 0) (.slice none 0 0)
    have hb2 : But w.heap.size w3 (w3.setCells w.heap.size 0 dg0L) := but_setCells _ _ _
    have hload := run_loadVar_mid (P := Tryz.prog) _ w.heap.size 0 24 dg0L _ (range_blk (cs := dg0L) ZS) Tryz.underlying24 rfl (by kernel_rfl)
    have hbl := hb2.tail HBL.out (Nat.le_refl _)
    exact bodyPost_ret (v := .tuple #[dg0, i64 ec]) (results_cell2 (a := 2) (i := 3) rfl rfl hload rfl) rfl ⟨⟨none, 0, by rw [HVE.out]; rfl, by rw [HVE.out]; exact RdI.nil, by rw [HVE.out]; exact Nat.le_refl _⟩, hbl⟩
   subst he
   rw [if_neg (by decide)] at HE
   have c0 : w3.cell? ⟨b, o + k * 5, none⟩ = some (enS d.ti) := HRG.out w3 J3.out.bel 0 _ rfl
   have c1' : w3.cell? ⟨b, o + k * 5 + 1, none⟩ = some (i64 d.vo) := HRG.out w3 J3.out.bel 1 _ rfl
   have t0 : w3.cell? ⟨b, o, none⟩ = some (enS x0.1.ti) := by have := HR0.out w3 J3.out.bel 0 _ rfl; exact this
   have t1 : w3.cell? ⟨b, o + 1, none⟩ = some (i64 x0.1.vo) := HR0.out w3 J3.out.bel 1 _ rfl
   have hn0 : (0 : Int) < xs.length := by omega
   go_upto_region 9 with fail
   go_cut [52] (fun t52 wx => t52 = .bool (decide (d.ti ≠ x0.1.ti ∨ d.vo ≠ x0.1.vo)) ∧ Hid (Below w3.heap.size w3 wx))
   case first =>
    have bd := (Below.refl w3.heap.size w3).drew
    have BD := Lib.hid bd
    refine Flow.wp_region_segs Flow.Later Flow.Later.refl Flow.Later.trans [] [0, 1, 2, 3, 4, 5, 6, 7, 8, 9, 10, 11, 12, 13, 14, 15, 16, 17, 18, 19, 20, 21] (by kernel_rfl) (by kernel_rfl) ?_
    have e0 := bd.cellv c0
    have e1 := bd.cellv c1'
    have e2 := bd.cellv t0
    have e3 := bd.cellv t1
    clear bd c0 c1' t0 t1
    generalize World.drew _ = wd at *
    have q0 := fun t : Flow.Cls (Flow.Later wd) => Flow.cls_cell e0 t
    have q1 := fun t : Flow.Cls (Flow.Later wd) => Flow.cls_cell e1 t
    have q2 := fun t : Flow.Cls (Flow.Later wd) => Flow.cls_cell e2 t
    have q3 := fun t : Flow.Cls (Flow.Later wd) => Flow.cls_cell e3 t
    haveI nonE := Flow.cls_nonempty wd
    rw [Flow.wpSegs_nil]
    simp only [Flow.pick, List.getElem?_toArray, List.getElem?_cons_succ, List.getElem?_cons_zero]
    by_cases e5 : d.ti = x0.1.ti
    ·have hq : (d.ti == x0.1.ti) = true := by simpa using e5
     by_cases e6 : d.vo = x0.1.vo
     ·have hv : (d.vo != x0.1.vo) = false := by simpa using e6
      have TT := Lib.hid (show false = decide (d.ti ≠ x0.1.ti ∨ d.vo ≠ x0.1.vo) by rw [decide_eq_false]; simp [e5, e6])
      clear e5 e6
      repeat go_big_quiet_step (fail)
      refine wpQuiet_nil ?_
      clear nonE q0 q1 q2 q3
      go_wp2_with fail
      go_meet
      exact ⟨by rw [TT.out], BD⟩
     ·have hv : (d.vo != x0.1.vo) = true := by simpa using e6
      have TT := Lib.hid (show true = decide (d.ti ≠ x0.1.ti ∨ d.vo ≠ x0.1.vo) by rw [decide_eq_true]; simp [e6])
      clear e5 e6
      repeat go_big_quiet_step (fail)
      refine wpQuiet_nil ?_
      clear nonE q0 q1 q2 q3
      go_wp2_with fail
      go_meet
      exact ⟨by rw [TT.out], BD⟩
    ·have hq : (d.ti == x0.1.ti) = false := by simpa using e5
     have TT := Lib.hid (show true = decide (d.ti ≠ x0.1.ti ∨ d.vo ≠ x0.1.vo) by rw [decide_eq_true]; simp [e5])
     clear e5
     repeat go_big_quiet_step (fail)
     refine wpQuiet_nil ?_
     clear nonE q0 q1 q2 q3
     go_wp2_with fail
     go_meet
     exact ⟨by rw [TT.out], BD⟩
   obtain ⟨rfl, BX⟩ := hcut
   have J4 := Lib.hid (J3.out.below BX.out)
   clear J3 BX c0 c1' t0 t1
   by_cases h12 : d.ti ≠ x0.1.ti ∨ d.vo ≠ x0.1.vo
   ·rw [if_pos h12] at HE
    have HVE := Lib.hid (HJB.out 12 HE.out (by decide))
    rw [decide_eq_true h12]
    clear h12 HNX HE HEC
    have HRS := Lib.hid J4.out.res
    have HBL := Lib.hid J4.out.bel
    go_wp2_with (refine wpList_store_mid rfl 24 _ _ rfl w.heap.size 0 #[enS [], i64 0, i64 0, i64 0, .slice none 0 0] rfl rfl (there_at HRS.out (Nat.le_refl 5)) (by kernel_rfl) (one_dg [] 0 0 0 none 0 0) ?_)
    have ZS := dg_storeT HRS.out (enS []) (i64 0) (i64 0) (i64 0) (.slice none 0 0)
    have hb2 : But w.heap.size wc (wc.setCells w.heap.size 0 dg0L) := but_setCells _ _ _
    have hload := run_loadVar_mid (P := Tryz.prog) _ w.heap.size 0 24 dg0L _ (range_blk (cs := dg0L) ZS) Tryz.underlying24 rfl (by kernel_rfl)
    have hbl := hb2.tail HBL.out (Nat.le_refl _)
    exact bodyPost_ret (v := .tuple #[dg0, i64 12]) (results_cell2 (a := 2) (i := 3) rfl rfl hload rfl) rfl ⟨⟨none, 0, by rw [HVE.out]; rfl, by rw [HVE.out]; exact RdI.nil, by rw [HVE.out]; exact Nat.le_refl _⟩, hbl⟩
   rw [if_neg h12] at HE
   rw [decide_eq_false h12]
   have H12 := Lib.hid h12
   clear h12
   generalize wc = w4 at *
   go_wp2_with fail
   go_loopg [6] k (fun gg jv wr2 => ∃ j : Nat, j ≤ k ∧ k - j ≤ gg ∧ jv = i64 j ∧ Hid (JrR w wr2) ∧ Hid (d.ie ∉ ((xs.map (·.1)).take j).map (·.ie)))
   case atStart => exact ⟨0, Nat.zero_le _, by omega, rfl, J4, Lib.hid (by simp)⟩
   case round =>
    obtain ⟨j, hj, hgj, rfl, JJ, NJ⟩ := hrel
    clear J4
    by_cases hjk : j < k
    ·obtain ⟨y, hy⟩ : ∃ y, xs[j]? = some y := ⟨_, List.getElem?_eq_getElem (by omega)⟩
     have HYR := Lib.hid (fun W (hb : Below w.heap.size w W) => HRA.out W hb j y hy)
     have HY : Hid ((xs.map (·.1))[j]? = some y.1) := Lib.hid (by (show _ = _); rw [List.getElem?_map, hy]; rfl)
     clear hy
     go_upto_region 14 with fail
     have bd := (Below.refl wr.heap.size wr).drew
     refine Flow.wp_region_segs Flow.Later Flow.Later.refl Flow.Later.trans [] [0, 1, 2, 3, 4, 5, 6, 7, 8, 9, 10] (by kernel_rfl) (by kernel_rfl) ?_
     have J5 := Lib.hid (JJ.out.below bd)
     clear bd JJ
     generalize World.drew _ = wd at *
     have q0 : ∀ t : Flow.Cls (Flow.Later wd), t.val.cell? ⟨b, o + j * 5 + 2, none⟩ = some (i64 y.1.ie) := fun t => HYR.out t.val (J5.out.bel.tr t.ok) 2 _ rfl
     have q1 : ∀ t : Flow.Cls (Flow.Later wd), t.val.cell? ⟨b, o + k * 5 + 2, none⟩ = some (i64 d.ie) := fun t => HRG.out t.val (J5.out.bel.tr t.ok) 2 _ rfl
     have hm1 : wd.cell? ⟨b, o + j * 5 + 2, none⟩ = some (i64 y.1.ie) := HYR.out wd J5.out.bel 2 _ rfl
     have hm2 : wd.cell? ⟨b, o + k * 5 + 2, none⟩ = some (i64 d.ie) := HRG.out wd J5.out.bel 2 _ rfl
     haveI nonE := Flow.cls_nonempty wd
     rw [Flow.wpSegs_nil]
     simp only [Flow.pick, List.getElem?_toArray, List.getElem?_cons_succ, List.getElem?_cons_zero]
     repeat go_big_quiet_step (fail)
     refine wpQuiet_nil ?_
     clear nonE q0 q1 hm1 hm2
     by_cases heq : y.1.ie = d.ie
     ·have hin : d.ie ∈ ((xs.map (·.1)).take k).map (·.ie) := List.mem_map.2 ⟨y.1, List.mem_of_getElem? (i := j) (by rw [List.getElem?_take_of_lt hjk]; exact HY.out), heq⟩
      rw [if_pos hin] at HE
      have HVE := Lib.hid (HJB.out 7 HE.out (by decide))
      have hq : (y.1.ie == d.ie) = true := by simpa using heq
      rw [hq]
      clear hin heq hq HNX HE HEC
      have HRS := Lib.hid J5.out.res
      have HBL := Lib.hid J5.out.bel
      go_wp2_with (refine wpList_store_mid rfl 24 _ _ rfl w.heap.size 0 #[enS [], i64 0, i64 0, i64 0, .slice none 0 0] rfl rfl (there_at HRS.out (Nat.le_refl 5)) (by kernel_rfl) (one_dg [] 0 0 0 none 0 0) ?_)
      have ZS := dg_storeT HRS.out (enS []) (i64 0) (i64 0) (i64 0) (.slice none 0 0)
      have hb2 : But w.heap.size wd (wd.setCells w.heap.size 0 dg0L) := but_setCells _ _ _
      have hload := run_loadVar_mid (P := Tryz.prog) _ w.heap.size 0 24 dg0L _ (range_blk (cs := dg0L) ZS) Tryz.underlying24 rfl (by kernel_rfl)
      have hbl := hb2.tail HBL.out (Nat.le_refl _)
      exact bodyPost_ret (v := .tuple #[dg0, i64 7]) (results_cell2 (a := 2) (i := 3) rfl rfl hload rfl) rfl ⟨⟨none, 0, by rw [HVE.out]; rfl, by rw [HVE.out]; exact RdI.nil, by rw [HVE.out]; exact Nat.le_refl _⟩, hbl⟩
     ·have hq : (y.1.ie == d.ie) = false := by simpa using heq
      have NX : Hid (d.ie ∉ ((xs.map (·.1)).take (j + 1)).map (·.ie)) := Lib.hid (by
       (show _ ∉ _)
       rw [List.take_add_one, HY.out, Option.toList_some, List.map_append]
       intro hm
       rcases List.mem_append.1 hm with hm | hm
       ·exact NJ.out hm
       ·simp at hm; exact heq hm.symm)
      rw [hq]
      clear heq hq
      go_wp2_with fail
      go_roundg (k - (j + 1))
      case measure => omega
      case rel => exact ⟨j + 1, by omega, by omega, by simp, J5, NX⟩
    ·obtain rfl : j = k := by omega
     have KX := Lib.hid (HNX.out HEC.out H12.out NJ.out)
     clear HNX HE HEC NJ
     go_wp2_with fail
     go_roundg (xs.length - (j + 1))
     case measure => omega
     case rel => exact ⟨j + 1, by omega, by omega, by simp, JJ, KX⟩
 obtain ⟨J2, KK⟩ := hcut
 clear J1 K1
 generalize wc = wb at *
 have HJ := Lib.hid (HJG.out (KK.out.eq.trans (by rw [show (xs.map (·.1)).drop xs.length = [] from List.drop_of_length_le (by simp)]; rfl)))
 have HNZ := Lib.hid ((joinE_zero _ _ _ _).1 (KK.out.eq.trans (by rw [show (xs.map (·.1)).drop xs.length = [] from List.drop_of_length_le (by simp)]; rfl)))
 obtain ⟨S, hS⟩ : ∃ q, sortD (xs.map (·.1)) = q := ⟨_, rfl⟩
 have HPM := Lib.hid (show S.Perm (xs.map (·.1)) from hS ▸ sortD_perm _)
 have HSL : Hid (S.length = xs.length) := Lib.hid (by (show _ = _); rw [HPM.out.length_eq, List.length_map])
 have HSM : Hid (∀ d ∈ S, ∃ x ∈ xs, x.1 = d) := Lib.hid (fun d hd => List.mem_map.1 (HPM.out.mem_iff.1 hd))
 have HXP : Hid (∀ d ∈ xs.map (·.1), 0 < d.ie) := Lib.hid (fun d hd => by
  have := (chkD_zero (HNZ.out.1 d hd).1).2.2.1
  unfold ordB at this
  simp only [Bool.and_eq_true, decide_eq_true_eq] at this
  omega)
 have HSP : Hid (∀ d ∈ S, 0 < d.ie) := Lib.hid (fun d hd => HXP.out d (HPM.out.mem_iff.1 hd))
 have HB : Hid (∀ (t : Nat) (best : Int), t < xs.length → Best (xs.map (·.1)) (lastIe (S.take t)) xs.length best → ∃ (bn : Nat) (x : DgX), best = bn ∧ bn < xs.length ∧ xs[bn]? = some x ∧ S[t]? = some x.1) := Lib.hid (fun t best ht hb => by
  have hl : (xs.map (·.1)).length = xs.length := List.length_map ..
  rw [← hS] at hb ⊢
  rw [← hl] at hb ht
  obtain ⟨bn, y, e1, e2, e3, e4⟩ := Best.next HNZ.out.2 HXP.out ht hb
  rw [List.getElem?_map] at e3
  obtain ⟨x, hx, e⟩ := Option.map_eq_some_iff.1 e3
  exact ⟨bn, x, e1, by omega, hx, by rw [e]; exact e4⟩)
 rw [hS] at HJ
 clear hS HNZ KK HJG HJB HPM HXP
 have HBE := Lib.hid hbl
 obtain ⟨i0, hi, hz0', hz1, hz2⟩ := info_parts ref_info
 have HI := Lib.hid (And.intro hi (And.intro hz0' (And.intro hz1 hz2)))
 clear hi hz0' hz1 hz2
 go_upto_region 16 with fail
 go_cut [7] (fun p7 wx => ∃ jb, p7 = .pointer (some ⟨jb, 0, none⟩) ∧ Hid (wx.heap[jb]? = some (.cells #[enS x0.1.ti, i64 x0.1.vo, i64 0, i64 0, .slice none 0 0] 24 (0, 0))) ∧ Hid (wb.heap.size ≤ jb) ∧ Hid (Below wb.heap.size wb wx))
 case first =>
  have bd : Below wb.heap.size wb wb.drew := (Below.refl _ _).drew
  have X8 := Lib.hid bd
  refine Flow.wp_region_segs (fun u v => Below wb.heap.size u v) (fun _ => Below.refl _ _) (fun _ _ _ h k => h.trans k) [([0, 1, 2, 3, 4, 5, 6, 7, 8], 9), ([], 10)] [] (by kernel_rfl) (by kernel_rfl) ?_
  clear bd
  haveI nonE : Nonempty (Flow.Cls (Below wb.heap.size wb.drew)) := ⟨⟨_, Below.refl _ _⟩⟩
  generalize World.drew _ = wd at *
  have t0 : ∀ t : Flow.Cls (Below wb.heap.size wd), t.val.cell? ⟨b, o, none⟩ = some (enS x0.1.ti) := fun t => HR0.out t.val (J2.out.bel.tr (X8.out.trans t.ok)) 0 _ rfl
  have t1 : ∀ t : Flow.Cls (Below wb.heap.size wd), t.val.cell? ⟨b, o + 1, none⟩ = some (i64 x0.1.vo) := fun t => HR0.out t.val (J2.out.bel.tr (X8.out.trans t.ok)) 1 _ rfl
  have hn0 : (0 : Int) < xs.length := by omega
  rw [Flow.wpSegs_cons]
  simp only [Flow.pick, List.getElem?_toArray, List.getElem?_cons_succ, List.getElem?_cons_zero]
  repeat go_big_quiet_step (fail)
  refine wpQuiet_nil ?_
  clear nonE t0 t1
  rw [Flow.callAt_eq]
  simp only [List.getElem?_toArray, List.getElem?_cons_succ, List.getElem?_cons_zero]
  rw [if_pos (by rfl)]
  refine Flow.wp_behind (fun K hK => ?_)
  go_wp2_with fail
  have bn := below_new wd (.cells #[enS [], i64 0, i64 0, i64 0, .slice none 0 0] 24)
  have HPP : wb.heap.size ≤ wd.heap.size := X8.out.size
  refine hK.out _ _ ⟨bn.mono HPP, ?_⟩
  clear hK K
  have BN := Lib.hid (blk_new wd (.cells #[enS [], i64 0, i64 0, i64 0, .slice none 0 0] 24))
  have CN := Lib.hid (X8.out.trans (bn.mono HPP))
  clear bn
  obtain ⟨jb, hjb⟩ : ∃ z, wd.heap.size = z := ⟨_, rfl⟩
  rw [hjb] at BN HPP ⊢
  clear hjb
  generalize wd.alloc (.cells #[enS [], i64 0, i64 0, i64 0, .slice none 0 0] 24) = wa at *
  rw [Flow.wpSegs_cons]
  simp only [Flow.pick]
  refine wpQuiet_nil ?_
  rw [Flow.callAt_eq]
  simp only [List.getElem?_toArray, List.getElem?_cons_succ, List.getElem?_cons_zero, Act.put]
  rw [if_pos (by rfl)]
  refine Flow.wp_behind (fun K hK => ?_)
  refine wp_store_mid0 24 _ _ rfl rfl jb 0 #[enS x0.1.ti, i64 x0.1.vo, i64 0, i64 0, .slice none 0 0] rfl rfl (there_at BN.out (Nat.le_refl 5)) (by kernel_rfl) (one_dg _ _ _ _ _ _ _) ?_
  have hbt := but_setCells (b := jb) [enS x0.1.ti, i64 x0.1.vo, i64 0, i64 0, .slice none 0 0] 0 wa
  have hkb := but_lowJ hbt HPP CN.out.size
  refine hK.out _ _ ⟨hkb, ?_⟩
  clear hK K
  have DS := Lib.hid (dg_storeT BN.out (enS x0.1.ti) (i64 x0.1.vo) (i64 0) (i64 0) (.slice none 0 0))
  have CS := Lib.hid (CN.out.trans hkb)
  clear hbt hkb
  rw [Flow.wpSegs_nil]
  simp only [Flow.pick]
  refine wpQuiet_nil ?_
  generalize World.setCells wa jb 0 _ = wz at *
  go_wp2_with fail
  go_meet
  exact ⟨jb, rfl, DS, Lib.hid HPP, CS⟩
 obtain ⟨jb, rfl, JD, HJB, BX⟩ := hcut
 generalize wc = w8 at *
 have HJBL : Hid (w.heap.size < jb) := Lib.hid (by have h1 := blk_lt J2.out.res; have h2 := HJB.out; (show w.heap.size < jb); omega)
 have U0 : Hid (JrS wb w8 jb x0.1.ti x0.1.vo 0 0 none 0 []) := Lib.hid ⟨BX.out, JD.out, own2_nil _ _ _ _, HJB.out, blk_lt JD.out⟩
 clear JD BX
 go_upto_block 4 with fail
 go_cut [] (fun wx => ∃ A' c', Hid (JrS wb wx jb x0.1.ti x0.1.vo (headIe S) (maxDa S) A' c' (S.flatMap (·.its))))
 case first =>
  go_wp2_with fail
  go_loopg [8, 82] xs.length (fun gg lv tv wr => ∃ (t : Nat) (A' : Option Addr) (c' : Nat), t ≤ xs.length ∧ xs.length - t ≤ gg ∧ tv = i64 t ∧ lv = i64 (lastIe (S.take t)) ∧ Hid (JrS wb wr jb x0.1.ti x0.1.vo (headIe (S.take t)) (maxDa (S.take t)) A' c' ((S.take t).flatMap (·.its))))
  case atStart => exact ⟨0, none, 0, Nat.zero_le _, by omega, rfl, rfl, U0⟩
  case round =>
   obtain ⟨t, A', c', ht, hgg, rfl, rfl, UW⟩ := hrel
   clear U0
   by_cases hlt : t < xs.length
   case neg =>
    obtain rfl : t = xs.length := by omega
    have UX : Hid (JrS wb wr jb x0.1.ti x0.1.vo (headIe S) (maxDa S) A' c' (S.flatMap (·.its))) := Lib.hid (by
     have h := UW.out
     rwa [List.take_of_length_le (by rw [HSL.out]; exact Nat.le_refl _)] at h)
    go_wp2_with fail
    go_meet
    exact ⟨A', c', UX⟩
   obtain ⟨y, hy⟩ : ∃ y, S[t]? = some y := ⟨_, List.getElem?_eq_getElem (by rw [HSL.out]; exact hlt)⟩
   have HN := Lib.hid (step_next hy HSP.out)
   have HBN := Lib.hid (fun best => HB.out t best hlt)
   have HY := Lib.hid hy
   have HIL : Hid (((S.take t).flatMap (·.its)).length ≤ 1000000) := Lib.hid (by
    have h1 := its_len (S.take t) (fun y hy => by
     obtain ⟨x, hx, rfl⟩ := HSM.out y (List.mem_of_mem_take hy)
     exact (HS.out x hx).1)
    rw [List.length_take] at h1
    have : min t S.length * 1000 ≤ 1000 * 1000 := Nat.mul_le_mul_right _ (by omega)
    (show _ ≤ 1000000)
    omega)
   obtain ⟨last, hl⟩ : ∃ z, lastIe (S.take t) = z := ⟨_, rfl⟩
   obtain ⟨ie, hie⟩ : ∃ z, headIe (S.take t) = z := ⟨_, rfl⟩
   obtain ⟨da, hda⟩ : ∃ z, maxDa (S.take t) = z := ⟨_, rfl⟩
   obtain ⟨its, hits⟩ : ∃ z, (S.take t).flatMap (·.its) = z := ⟨_, rfl⟩
   rw [hie, hda, hits] at UW HN
   rw [hits] at HIL
   rw [hl] at HBN ⊢
   clear hy hl hie hda hits
   generalize wr = w9 at *
   go_wp2_with fail
   go_loopg [9, 10] xs.length (fun gg bv iv wr2 => ∃ (i : Nat) (best : Int), i ≤ xs.length ∧ xs.length - i ≤ gg ∧ iv = i64 i ∧ bv = i64 best ∧ Hid (JrS wb wr2 jb x0.1.ti x0.1.vo ie da A' c' its) ∧ Hid (Best (xs.map (·.1)) last i best))
   case atStart => exact ⟨0, -1, Nat.zero_le _, by omega, rfl, rfl, UW, Lib.hid (Best.zero _ _)⟩
   case round =>
    obtain ⟨i, best, hi, hgi, rfl, rfl, JJ, BJ⟩ := hrel
    clear UW
    by_cases hil : i < xs.length
    ·obtain ⟨x, hx⟩ : ∃ x, xs[i]? = some x := ⟨_, List.getElem?_eq_getElem hil⟩
     have HXR := Lib.hid (fun W (hb : Below w.heap.size w W) => HRA.out W hb i x hx)
     have HX : Hid ((xs.map (·.1))[i]? = some x.1) := Lib.hid (by (show _ = _); rw [List.getElem?_map, hx]; rfl)
     clear hx
     go_upto_region 24 with fail
     have bd := (Below.refl wr.heap.size wr).drew
     refine Flow.wp_region_segs Flow.Later Flow.Later.refl Flow.Later.trans [] [0, 1, 2, 3, 4, 5, 6, 7, 8, 9, 10, 11, 12, 13, 14, 15, 16, 17, 18, 19, 20, 21, 22, 23] (by kernel_rfl) (by kernel_rfl) ?_
     have J5 := Lib.hid (JJ.out.below bd)
     clear bd JJ
     generalize World.drew _ = wd at *
     have B5 := Lib.hid (J2.out.bel.tr J5.out.bel)
     have q0 : ∀ t : Flow.Cls (Flow.Later wd), t.val.cell? ⟨b, o + i * 5 + 2, none⟩ = some (i64 x.1.ie) := fun t => HXR.out t.val (B5.out.tr t.ok) 2 _ rfl
     haveI nonE := Flow.cls_nonempty wd
     rw [Flow.wpSegs_nil]
     simp only [Flow.pick, List.getElem?_toArray, List.getElem?_cons_succ, List.getElem?_cons_zero]
     by_cases hla : last < x.1.ie
     case neg =>
      have hq : decide (last < x.1.ie) = false := by simpa using hla
      have BB := Lib.hid (BJ.out.no HX.out (fun h => hla h.1))
      clear hla BJ
      repeat go_big_quiet_step (fail)
      refine wpQuiet_nil ?_
      clear nonE q0
      go_wp2_with fail
      go_roundg (xs.length - (i + 1))
      case measure => omega
      case rel => exact ⟨i + 1, best, by omega, by omega, by simp, rfl, J5, BB⟩
     have hq : decide (last < x.1.ie) = true := by simpa using hla
     by_cases hb0 : best < 0
     ·have hq2 : decide (best < 0) = true := by simpa using hb0
      have BB := Lib.hid (BJ.out.yes HX.out hla (.inl hb0))
      clear hla hb0 BJ
      repeat go_big_quiet_step (fail)
      refine wpQuiet_nil ?_
      clear nonE q0
      go_wp2_with fail
      go_roundg (xs.length - (i + 1))
      case measure => omega
      case rel => exact ⟨i + 1, i, by omega, by omega, by simp, rfl, J5, BB⟩
     have hq2 : decide (best < 0) = false := by simpa using hb0
     obtain ⟨bn, z, rfl, hbn, hz, hlz⟩ : ∃ (bn : Nat) (z : DgX), best = bn ∧ bn < xs.length ∧ xs[bn]? = some z ∧ last < z.1.ie := by
      rcases BJ.out with ⟨h1, _⟩ | ⟨bn, z, h1, h2, h3, h4, _⟩
      ·omega
      ·rw [List.getElem?_map] at h3
       obtain ⟨x, hx, e⟩ := Option.map_eq_some_iff.1 h3
       exact ⟨bn, x, h1, by omega, hx, by rw [e]; exact h4⟩
     have HZ : Hid ((xs.map (·.1))[bn]? = some z.1) := Lib.hid (by (show _ = _); rw [List.getElem?_map, hz]; rfl)
     have q1 : ∀ t : Flow.Cls (Flow.Later wd), t.val.cell? ⟨b, o + bn * 5 + 2, none⟩ = some (i64 z.1.ie) := fun t => HRA.out t.val (B5.out.tr t.ok) bn z hz 2 _ rfl
     by_cases hlz : x.1.ie < z.1.ie
     ·have hq3 : decide (x.1.ie < z.1.ie) = true := by simpa using hlz
      have BB := Lib.hid (BJ.out.yes HX.out hla (.inr ⟨bn, z.1, rfl, HZ.out, hlz⟩))
      clear hla hb0 hlz BJ hz
      repeat go_big_quiet_step (fail)
      refine wpQuiet_nil ?_
      clear nonE q0 q1
      go_wp2_with fail
      go_roundg (xs.length - (i + 1))
      case measure => omega
      case rel => exact ⟨i + 1, i, by omega, by omega, by simp, rfl, J5, BB⟩
     ·have hq3 : decide (x.1.ie < z.1.ie) = false := by simpa using hlz
      have BB := Lib.hid (BJ.out.no HX.out (fun h => by
       rcases h.2 with h2 | ⟨b2, y2, e1, e2, e3⟩
       ·omega
       ·have : bn = b2 := by omega
        subst this
        rw [HZ.out] at e2; cases e2
        exact hlz e3))
      clear hla hb0 hlz BJ hz
      repeat go_big_quiet_step (fail)
      refine wpQuiet_nil ?_
      clear nonE q0 q1
      go_wp2_with fail
      go_roundg (xs.length - (i + 1))
      case measure => omega
      case rel => exact ⟨i + 1, bn, by omega, by omega, by simp, rfl, J5, BB⟩
    obtain rfl : i = xs.length := by omega
    obtain ⟨bn, x, rfl, hbn, hx, hxt⟩ := HBN.out best BJ.out
    have hxy : x.1 = y := by rw [HY.out] at hxt; exact (Option.some.inj hxt).symm
    obtain ⟨s1, s2, s3⟩ := HS.out x (List.mem_of_getElem? hx)
    have hok := H.out.ok x (List.mem_of_getElem? hx)
    have HXR := Lib.hid (fun W (hb : Below w.heap.size w W) => HRA.out W hb bn x hx)
    obtain ⟨d, A1, c1⟩ := x
    simp only at hxy s1 hok
    subst hxy
    have HOK := Lib.hid hok
    have HXR : Hid (∀ W, Below w.heap.size w W → W.rangeAt b (o + bn * 5) [enS d.ti, i64 d.vo, i64 d.ie, i64 d.da, .slice A1 d.its.length c1]) := HXR
    have HD1 := Lib.hid s1
    clear hx hxt hok s1 s2 s3 HBN HY BJ
    have c2 : wr.cell? ⟨b, o + bn * 5 + 2, none⟩ = some (i64 d.ie) := HXR.out wr (J2.out.bel.tr JJ.out.bel) 2 _ rfl
    have j2 : wr.cell? ⟨jb, 2, none⟩ = some (i64 ie) := blk_cell JJ.out.blk 2
    have f2 := blk_free JJ.out.blk 2
    go_upto_if 122 with fail
    clear c2
    go_cut [] (fun wx => Hid (JrS wb wx jb x0.1.ti x0.1.vo (if ie = 0 then d.ie else ie) da A' c' its))
    case first =>
     by_cases h0 : ie = 0
     ·have hq : (ie == 0) = true := by simpa using h0
      have JX := Lib.hid (show JrS wb (wr.setCell ⟨jb, 2, none⟩ (i64 d.ie)) jb x0.1.ti x0.1.vo (if ie = 0 then d.ie else ie) da A' c' its by rw [if_pos h0]; exact JJ.out.issue d.ie)
      clear h0
      go_wp2_with fail
      go_meet
      exact JX
     ·have hq : (ie == 0) = false := by simpa using h0
      have JX := Lib.hid (show JrS wb wr jb x0.1.ti x0.1.vo (if ie = 0 then d.ie else ie) da A' c' its by rw [if_neg h0]; exact JJ.out)
      clear h0
      go_wp2_with fail
      go_meet
      exact JX
    have J3 := hcut
    clear JJ j2 f2 hcut
    generalize wc = w3 at *
    rw [← HN.out.2.1] at J3
    go_upto_region 29 with fail
    have bd := (Below.refl w3.heap.size w3).drew
    refine Flow.wp_region_preF (KeepT 0 [jb, b]) (KeepT.refl _ _) (fun _ _ _ h k => h.trans k) [9] (.held [0, 1, 2, 3, 4, 5, 6, 7, 8] (.tail (.step [] 9 (.done [])))) (by kernel_rfl) (by kernel_rfl) ?_
    have J4 := Lib.hid (J3.out.below bd)
    clear bd J3
    generalize World.drew _ = wd at *
    have hj3 : wd.cell? ⟨jb, 3, none⟩ = some (i64 da) := blk_cell J4.out.blk 3
    have hd3 : wd.cell? ⟨b, o + bn * 5 + 3, none⟩ = some (i64 d.da) := HXR.out wd (J2.out.bel.tr J4.out.bel) 3 _ rfl
    have q0 := fun t : Flow.Cls (KeepT 0 [jb, b] wd) => keep0_cell (K := [jb, b]) (k := jb) (by simp) hj3 t
    have q1 := fun t : Flow.Cls (KeepT 0 [jb, b] wd) => keep0_cell (K := [jb, b]) (k := b) (by simp) hd3 t
    haveI nonE := cls_keep (B := 0) (K := [jb, b]) wd
    rw [Flow.wpPreF_held]
    simp only [Flow.pick, List.getElem?_toArray, List.getElem?_cons_succ, List.getElem?_cons_zero]
    repeat go_big_quiet_step (fail)
    refine wpQuiet_nil ?_
    clear nonE q0 q1 hd3
    rw [Flow.wpPreF_tail, Flow.wpSched_step]
    simp only [Flow.pick]
    refine wpQuiet_nil ?_
    rw [Flow.callAt_eq]
    simp only [List.getElem?_toArray, List.getElem?_cons_succ, List.getElem?_cons_zero, Act.put]
    rw [if_pos (by rfl)]
    refine Flow.wp_behind (fun K hK => ?_)
    have ff3 := blk_free J4.out.blk 3
    go_wp2_with fail
    refine hK.out _ _ ⟨trivial, ?_⟩
    clear hK K hj3 ff3
    rw [Flow.wpSched_done]
    simp only [Flow.pick]
    refine wpQuiet_nil ?_
    have J5 := Lib.hid (J4.out.date (max da d.da))
    clear J4
    rw [← HN.out.2.2.1] at J5 ⊢
    generalize wd.setCell ⟨jb, 3, none⟩ (i64 (maxDa (S.take (t + 1)))) = w5 at *
    go_upto_region 30 with fail
    have bd := (Below.refl w5.heap.size w5).drew
    refine Flow.wp_region_preF (KeepT 0 [jb, b]) (KeepT.refl _ _) (fun _ _ _ h k => h.trans k) [9] (.held [0, 1, 2, 3, 4, 5, 6] (.call 7 (.held [8] (.tail (.step [] 9 (.done [])))))) (by kernel_rfl) (by kernel_rfl) ?_
    have J6 := Lib.hid (J5.out.below bd)
    clear bd J5
    generalize World.drew _ = wd at *
    have hj4 : wd.cell? ⟨jb, 4, none⟩ = some (.slice A' its.length c') := blk_cell J6.out.blk 4
    have hd4 : wd.cell? ⟨b, o + bn * 5 + 4, none⟩ = some (.slice A1 d.its.length c1) := HXR.out wd (J2.out.bel.tr J6.out.bel) 4 _ rfl
    have q0 := fun t : Flow.Cls (KeepT 0 [jb, b] wd) => keep0_cell (K := [jb, b]) (k := jb) (by simp) hj4 t
    have q1 := fun t : Flow.Cls (KeepT 0 [jb, b] wd) => keep0_cell (K := [jb, b]) (k := b) (by simp) hd4 t
    haveI nonE := cls_keep (B := 0) (K := [jb, b]) wd
    rw [Flow.wpPreF_held]
    simp only [Flow.pick, List.getElem?_toArray, List.getElem?_cons_succ, List.getElem?_cons_zero]
    repeat go_big_quiet_step (fail)
    refine wpQuiet_nil ?_
    clear nonE q0 q1 hd4 hj4
    rw [Flow.wpPreF_call]
    rw [Flow.callAt_eq]
    simp only [List.getElem?_toArray, List.getElem?_cons_succ, List.getElem?_cons_zero, Act.put, List.setIfInBounds_toArray, List.set_cons_succ, List.set_cons_zero]
    rw [if_pos (by rfl)]
    refine Flow.wp_behind (fun K hK => ?_)
    have hrc := (HOK.out.rd.below (J2.out.bel.tr J6.out.bel)).cells
    have hbs : jb + 1 ≤ wd.heap.size := J6.out.sz
    have hsum : its.length + d.its.length ≤ 1000000000 := by have h1 := HIL.out; have h2 := HD1.out; omega
    have hbj : b < jb := by have h1 := HJBL.out; have h2 := HBE.out; omega
    refine wp_appC Tryz.underlying22 HI.out.1 HI.out.2.1 HI.out.2.2.1 HI.out.2.2.2 rfl (by decide) _ _ rfl (jb + 1) _ its.length _ J6.out.own rfl A1 d.its.length c1 (d.its.flatMap itL) (flatG_len itL itL_length _) hrc rfl (flat_oneG itL one_itL _) hsum (by decide) hbs ?_
    intro v7 v2 o7 g7 b7
    refine hK.out _ _ ⟨⟨b7.mono (Nat.zero_le _), fun k hk => b7.block k (by simp at hk; rcases hk with rfl | rfl <;> omega)⟩, ?_⟩
    clear hK K hrc hbs hsum hbj
    obtain ⟨A7, c7, rfl⟩ := own2_slice o7
    have J7 := Lib.hid (J6.out.app o7 b7)
    have S7 := Lib.hid ((b7.block jb (Nat.lt_succ_self _)).trans J6.out.blk)
    clear J6 o7 g7 b7
    haveI nonE := cls_keep (B := 0) (K := [jb, b]) v2
    rw [Flow.wpPreF_held]
    simp only [Flow.pick, List.getElem?_toArray, List.getElem?_cons_succ, List.getElem?_cons_zero, Act.put, List.setIfInBounds_toArray, List.set_cons_succ, List.set_cons_zero]
    go_big_quiet_step (fail)
    refine wpQuiet_nil ?_
    clear nonE
    rw [Flow.wpPreF_tail, Flow.wpSched_step]
    simp only [Flow.pick]
    refine wpQuiet_nil ?_
    rw [Flow.callAt_eq]
    simp only [List.getElem?_toArray, List.getElem?_cons_succ, List.getElem?_cons_zero, Act.put]
    rw [if_pos (by rfl)]
    refine Flow.wp_behind (fun K hK => ?_)
    have cc4 := blk_cell S7.out 4
    have ff4 := blk_free S7.out 4
    refine wp_storeW _ _ rfl rfl jb 4 A7 (its.length + d.its.length) c7 rfl rfl _ cc4 ff4 ?_
    refine hK.out _ _ ⟨trivial, ?_⟩
    clear hK K cc4 ff4 S7
    rw [Flow.wpSched_done]
    simp only [Flow.pick]
    refine wpQuiet_nil ?_
    generalize v2.setCell ⟨jb, 4, none⟩ (.slice A7 (its.length + d.its.length) c7) = wz at *
    have HL := Lib.hid HN.out.1
    rw [← HN.out.2.2.2] at J7
    clear HN HIL HOK
    go_wp2_with fail
    go_roundg (xs.length - (t + 1))
    case measure => omega
    case rel => exact ⟨t + 1, A7, c7, by omega, by omega, by simp, by rw [HL.out], J7⟩
 obtain ⟨A', c', UX⟩ := hcut
 clear U0 HB HSP
 have hN : Hid ((S.flatMap (·.its)).length ≤ 1000000) := Lib.hid (by
  have h1 := its_len S (fun y hy => by obtain ⟨z, hz, rfl⟩ := HSM.out y hy; exact (HS.out z hz).1)
  rw [HSL.out] at h1
  have : xs.length * 1000 ≤ 1000 * 1000 := Nat.mul_le_mul_right _ (by omega)
  (show _ ≤ 1000000)
  omega)
 have hKY : Hid (∀ y ∈ S.flatMap (·.its), y.ky.length = 32 ∧ y.fr.length ≤ 1000000000 ∧ y.su.length ≤ 1000000000 ∧ y.bo.length ≤ 100000000) := Lib.hid (fun y hy => by
  obtain ⟨d, hd, hyd⟩ := List.mem_flatMap.1 hy
  obtain ⟨x, hx, rfl⟩ := HSM.out d hd
  exact ⟨(H.out.ok x hx).rd.ky y hyd, (HS.out x hx).2.2 y hyd⟩)
 have hTI := Lib.hid (HS.out x0 (List.mem_of_getElem? HX0.out)).2.1
 have HJ2 : Hid (J = if chkD ⟨x0.1.ti, x0.1.vo, headIe S, maxDa S, S.flatMap (·.its)⟩ ≠ 0 then (zD, chkD ⟨x0.1.ti, x0.1.vo, headIe S, maxDa S, S.flatMap (·.its)⟩) else (⟨x0.1.ti, x0.1.vo, headIe S, maxDa S, S.flatMap (·.its)⟩, 0)) := Lib.hid (by
  have h := HJ.out
  unfold joined at h
  exact h)
 clear HJ HSM HSL
 obtain ⟨its, hits⟩ : ∃ z, S.flatMap (·.its) = z := ⟨_, rfl⟩
 obtain ⟨da, hda⟩ : ∃ z, maxDa S = z := ⟨_, rfl⟩
 obtain ⟨ie, hie⟩ : ∃ z, headIe S = z := ⟨_, rfl⟩
 rw [hits] at hN hKY UX HJ2
 rw [hda, hie] at UX HJ2
 clear hits hda hie
 have BY := Lib.hid (J2.out.bel.tr UX.out.bel)
 have RY := Lib.hid (J2.out.below UX.out.bel)
 have HCK := Lib.hid (check_ref ⟨x0.1.ti, x0.1.vo, ie, da, its⟩ A' c' wc (RdI.of_ownT UX.out.own fun y hy => (hKY.out y hy).1) (own2_le UX.out.own) (by have := hN.out; (show its.length ≤ _); omega) hTI.out (fun y hy => (hKY.out y hy).2))
 have JB := Lib.hid UX.out.blk
 have OW := Lib.hid UX.out.own
 have hcap := own2_le UX.out.own
 clear UX J2
 have RG := Lib.hid (range_blk (cs := [enS x0.1.ti, i64 x0.1.vo, i64 ie, i64 da, .slice A' its.length c']) JB.out)
 go_wp2_with (refine wpList_load_mid rfl 24 _ rfl jb 0 rfl [enS x0.1.ti, i64 x0.1.vo, i64 ie, i64 da, .slice A' its.length c'] _ RG.out Tryz.underlying24 rfl (by kernel_rfl) ?_)
 refine HCK.out.mono ?_; rintro e w9 ⟨rfl, b9⟩
 have JB9 := Lib.hid (blk_below b9 JB.out)
 have OW9 := Lib.hid (own_below OW.out b9)
 have J9 := Lib.hid (RY.out.below b9)
 clear b9 JB OW BY RY RG HCK
 obtain ⟨ec, hec⟩ : ∃ z, chkD ⟨x0.1.ti, x0.1.vo, ie, da, its⟩ = z := ⟨_, rfl⟩
 rw [hec] at HJ2 ⊢
 clear hec
 by_cases he : ec = 0
 case neg =>
  rw [if_pos he] at HJ2
  have HVE := Lib.hid HJ2.out
  have hq : (ec != 0) = true := by simpa using he
  have hq2 : (ec == 0) = false := by simpa using he
  clear he HJ2
  have HRS := Lib.hid J9.out.res
  have HBL := Lib.hid J9.out.bel
  go_wp2_with (refine wpList_store_mid rfl 24 _ _ rfl w.heap.size 0 #[enS [], i64 0, i64 0, i64 0, .slice none 0 0] rfl rfl (there_at HRS.out (Nat.le_refl 5)) (by kernel_rfl) (one_dg [] 0 0 0 none 0 0) ?_)
  have ZS := dg_storeT HRS.out (enS []) (i64 0) (i64 0) (i64 0) (.slice none 0 0)
  have hb2 : But w.heap.size w9 (w9.setCells w.heap.size 0 dg0L) := but_setCells _ _ _
  have hload := run_loadVar_mid (P := Tryz.prog) _ w.heap.size 0 24 dg0L _ (range_blk (cs := dg0L) ZS) Tryz.underlying24 rfl (by kernel_rfl)
  have hbl := hb2.tail HBL.out (Nat.le_refl _)
  exact bodyPost_ret (v := .tuple #[dg0, i64 ec]) (results_cell2 (a := 2) (i := 3) rfl rfl hload rfl) rfl ⟨⟨none, 0, by rw [HVE.out]; rfl, by rw [HVE.out]; exact RdI.nil, by rw [HVE.out]; exact Nat.le_refl _⟩, hbl⟩
 subst he
 rw [if_neg (by decide)] at HJ2
 have HRS := Lib.hid J9.out.res
 have HBL := Lib.hid J9.out.bel
 have RG := Lib.hid (range_blk (cs := [enS x0.1.ti, i64 x0.1.vo, i64 ie, i64 da, .slice A' its.length c']) JB9.out)
 go_wp2_with (first | refine wpList_load_mid rfl 24 _ rfl jb 0 rfl [enS x0.1.ti, i64 x0.1.vo, i64 ie, i64 da, .slice A' its.length c'] _ RG.out Tryz.underlying24 rfl (by kernel_rfl) ?_ | refine wpList_store_mid rfl 24 _ _ rfl w.heap.size 0 #[enS x0.1.ti, i64 x0.1.vo, i64 ie, i64 da, .slice A' its.length c'] rfl rfl (there_at HRS.out (Nat.le_refl 5)) (by kernel_rfl) (one_dg _ _ _ _ _ _ _) ?_)
 have ZS := dg_storeT HRS.out (enS x0.1.ti) (i64 x0.1.vo) (i64 ie) (i64 da) (.slice A' its.length c')
 have hb2 : But w.heap.size w9 (w9.setCells w.heap.size 0 [enS x0.1.ti, i64 x0.1.vo, i64 ie, i64 da, .slice A' its.length c']) := but_setCells _ _ _
 have hload := run_loadVar_mid (P := Tryz.prog) _ w.heap.size 0 24 [enS x0.1.ti, i64 x0.1.vo, i64 ie, i64 da, .slice A' its.length c'] _ (range_blk (cs := [enS x0.1.ti, i64 x0.1.vo, i64 ie, i64 da, .slice A' its.length c']) ZS) Tryz.underlying24 rfl (by kernel_rfl)
 have hbl := hb2.tail HBL.out (Nat.le_refl _)
 have hown := own_but OW9.out (show w.heap.size < jb + 1 by have := HJBL.out; omega) hb2
 exact bodyPost_ret (v := .tuple #[dgA ⟨x0.1.ti, x0.1.vo, ie, da, its⟩ A' c', i64 0]) (results_cell2 (a := 2) (i := 3) rfl rfl hload rfl) rfl ⟨⟨A', c', by rw [HJ2.out], by rw [HJ2.out]; exact RdI.of_ownT hown fun y hy => (hKY.out y hy).1, by rw [HJ2.out]; exact hcap⟩, hbl⟩
end Go.Proofs.YtlchcjnbbhpiaaaGreatDoor
