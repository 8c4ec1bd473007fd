/- Contract: the program's Join, where its sort is given as a contract. -/
import Derived.Test.YtlchcjnbbhpiaaaGreatDoorDyW
namespace Go.Dg
theorem joinE_at {ti : List UInt8} {vo : Int} {seen : List Int} {ds : List Dg} {k : Nat} {d : Dg} (hd : ds[k]? = some d) :
  joinE ti vo seen (ds.drop k) = if chkD d ≠ 0 then chkD d else if d.ti ≠ ti ∨ d.vo ≠ vo then 12 else if d.ie ∈ seen then 7 else joinE ti vo (seen ++ [d.ie]) (ds.drop (k + 1)) := by
 obtain ⟨hk, e⟩ := List.getElem?_eq_some_iff.1 hd
 rw [List.drop_eq_getElem_cons hk, e]
 rfl
theorem its_len : ∀ l : List Dg, (∀ d ∈ l, d.its.length ≤ 1000) → (l.flatMap (·.its)).length ≤ l.length * 1000
 | [], _ => by simp
 | d :: l, h => by
  have h1 := h d (by simp)
  have h2 := its_len l fun y hy => h y (by simp [hy])
  rw [List.flatMap_cons, List.length_append, List.length_cons, Nat.add_mul]
  omega
theorem joinF_bad {d0 : Dg} {r : List Dg} {z : Int} (h : joinE d0.ti d0.vo [] (d0 :: r) = z) (hz : z ≠ 0) : joinF (d0 :: r) = (zD, z) := by
 unfold joinF
 simp only
 rw [h, if_pos hz]
theorem joinF_good {d0 : Dg} {r : List Dg} (h : joinE d0.ti d0.vo [] (d0 :: r) = 0) : joinF (d0 :: r) = if chkD (joined d0.ti d0.vo (sortD (d0 :: r))) ≠ 0 then (zD, chkD (joined d0.ti d0.vo (sortD (d0 :: r)))) else (joined d0.ti d0.vo (sortD (d0 :: r)), 0) := by
 unfold joinF
 simp only
 rw [h, if_neg (by decide)]
end Go.Dg
namespace Go.Proofs.YtlchcjnbbhpiaaaGreatDoor
open Go.RowKit Go.Shelf Go.Dg Go.Maps
/-- A map's keys that are numbers. -/
def IntS (w : World) (b : Nat) (ks : List Int) : Prop := MapB Tryz.prog 3 4 w b (ks.map (Lit.int .i64))
theorem int_key (z : Int) : WideAt.IsKeyLit (.int .i64 z) := trivial
theorem keyOf_num {z : Int} (h : 0 ≤ z ∧ z ≤ 1000000) : keyOf Tryz.prog 3 (i64 z) = some (.int .i64 z) := by
 refine keyOf_int_mk Tryz.underlying3 ?_
 have e1 : IntKind.i64.min = -9223372036854775808 := by decide
 have e2 : IntKind.i64.max = 9223372036854775807 := by decide
 simp [Lit.wf, e1, e2]
 omega
theorem IntS.on (ks : List Int) (z : Int) : onL (ks.map (Lit.int .i64)) (.int .i64 z) = decide (z ∈ ks) := by
 rw [Bool.eq_iff_iff, onL_iff (fun x hx => by obtain ⟨y, _, rfl⟩ := List.mem_map.1 hx; exact int_key y), decide_eq_true_eq, List.mem_map]
 exact ⟨fun ⟨y, hy, e⟩ => by injection e with _ e; exact e ▸ hy, fun h => ⟨z, h, rfl⟩⟩
theorem IntS.below {w w' : World} {b : Nat} {ks : List Int} (h : IntS w b ks) (hb : Below w.heap.size w w') : IntS w' b ks := MapB.below h hb
theorem ints_made (w : World) : IntS (w.alloc (.map #[] 0)) w.heap.size [] := MapB.made _ _ _ _
/-- Where the first loop of Join stands. -/
structure JoS (w W : World) (ks : List Int) : Prop where
 bel : Below w.heap.size w W
 res : W.heap[w.heap.size]? = some (.cells #[enS [], i64 0, i64 0, i64 0, .slice none 0 0] 32 (0, 0))
 mp : IntS W (w.heap.size + 1) ks
theorem JoS.below {w W W' : World} {ks : List Int} (h : JoS w W ks) (hb : Below W.heap.size W W') : JoS w W' ks := ⟨h.bel.tr hb, blk_below hb h.res, h.mp.below hb⟩
/-- What the first loop knows of the digests it has seen. -/
structure JoK (t : List UInt8) (v : Int) (ds : List Dg) (k : Nat) : Prop where
 eq : joinE t v [] ds = joinE t v ((ds.take k).map (·.ie)) (ds.drop k)
 ok : ∀ d ∈ ds.take k, 0 ≤ d.ie ∧ d.ie ≤ 1000000
theorem JoK.next {t : List UInt8} {v : Int} {ds : List Dg} {k : Nat} {d : Dg} (h : JoK t v ds k) (hd : ds[k]? = some d) (h1 : chkD d = 0) (h2 : ¬ (d.ti ≠ t ∨ d.vo ≠ v)) (h3 : d.ie ∉ (ds.take k).map (·.ie)) : JoK t v ds (k + 1) := by
 have e : ds.take (k + 1) = ds.take k ++ [d] := by rw [List.take_add_one, hd]; rfl
 refine ⟨?_, fun x hx => ?_⟩
 ·rw [h.eq, joinE_at hd, if_neg (by rw [h1]; decide), if_neg h2, if_neg h3, e, List.map_append]
  rfl
 ·rw [e] at hx
  rcases List.mem_append.1 hx with hx | hx
  ·exact h.ok x hx
  ·rw [List.mem_singleton.1 hx]
   have := (chkD_zero h1).2.2.1
   unfold ordB at this
   simp only [Bool.and_eq_true, decide_eq_true_eq] at this
   omega
/-- What is asked of the digests that Join is handed. -/
def SmX (x : DgX) : Prop := x.1.its.length ≤ 1000 ∧ x.1.ti.length ≤ 1000000000 ∧ ∀ y ∈ x.1.its, y.fr.length ≤ 1000000000 ∧ y.su.length ≤ 1000000000 ∧ y.bo.length ≤ 1000000000
/-- The result's block stands as it was laid. -/
structure JoR (w W : World) : Prop where
 bel : Below w.heap.size w W
 res : W.heap[w.heap.size]? = some (.cells #[enS [], i64 0, i64 0, i64 0, .slice none 0 0] 32 (0, 0))
theorem but_lowJ {b N : Nat} {u v : World} (h : But b u v) (hb : N ≤ b) (hN : N ≤ u.heap.size) : Below N u v := ⟨h.os, h.tape, h.output, h.size, fun k hk => h.block k (by omega) (by omega)⟩
/-- Where the second loop of Join stands: the digest that is put together in block jb. -/
structure JuS (W0 W : World) (jb : Nat) (t : List UInt8) (v ie da : Int) (A : Option Addr) (c : Nat) (its : List It) : Prop where
 bel : Below W0.heap.size W0 W
 blk : W.heap[jb]? = some (.cells #[enS t, i64 v, i64 ie, i64 da, .slice A its.length c] 32 (0, 0))
 own : W.ownsRow (jb + 1) 59 36 (.slice A its.length c) its.length (its.flatMap itL)
 hj : W0.heap.size ≤ jb
 sz : jb < W.heap.size
theorem JuS.below {W0 W W' : World} {jb : Nat} {t : List UInt8} {v ie da : Int} {A : Option Addr} {c : Nat} {its : List It} (h : JuS W0 W jb t v ie da A c its) (hb : Below W.heap.size W W') : JuS W0 W' jb t v ie da A c its :=
 ⟨h.bel.tr hb, blk_below hb h.blk, own_below h.own hb, h.hj, Nat.lt_of_lt_of_le h.sz hb.size⟩
theorem JuS.date {W0 W : World} {jb : Nat} {t : List UInt8} {v ie da : Int} {A : Option Addr} {c : Nat} {its : List It} (h : JuS W0 W jb t v ie da A c its) (z : Int) : JuS W0 (W.setCell ⟨jb, 3, none⟩ (i64 z)) jb t v ie z A c its := by
 have hk : But jb W (W.setCell ⟨jb, 3, none⟩ (i64 z)) := (But.refl _ _).setCell _
 exact ⟨h.bel.trans (but_lowJ hk h.hj h.bel.size), blk_set h.blk 3 (i64 z), own_but h.own (Nat.lt_succ_self _) hk, h.hj, Nat.lt_of_lt_of_le h.sz hk.size⟩
theorem JuS.app {W0 W W' : World} {jb : Nat} {t : List UInt8} {v ie da : Int} {A A' : Option Addr} {c c' : Nat} {its more : List It} (h : JuS W0 W jb t v ie da A c its) (ho : W'.ownsRow (jb + 1) 59 36 (.slice A' (its.length + more.length) c') (its.length + more.length) (its.flatMap itL ++ more.flatMap itL)) (hb : Below (jb + 1) W W') :
  JuS W0 (W'.setCell ⟨jb, 4, none⟩ (.slice A' (its.length + more.length) c')) jb t v ie da A' c' (its ++ more) := by
 have hk : But jb W' (W'.setCell ⟨jb, 4, none⟩ (.slice A' (its.length + more.length) c')) := (But.refl _ _).setCell _
 have hsz := Nat.lt_of_lt_of_le h.sz hb.size
 have hw := h.bel.size
 have hj := h.hj
 refine ⟨(h.bel.trans (hb.mono (by omega))).trans (but_lowJ hk h.hj (by omega)), ?_, ?_, h.hj, Nat.lt_of_lt_of_le hsz hk.size⟩
 ·rw [List.length_append]
  exact blk_set ((hb.block jb (by omega)).trans h.blk) 4 _
 ·rw [List.length_append, List.flatMap_append]
  exact own_but ho (Nat.lt_succ_self _) hk
set_option maxRecDepth 100000 in
set_option maxHeartbeats 32000000 in
theorem join_of (A : Option Addr) (c : Nat) (x0 : DgX) (xr : List DgX) (w : World) (h : RdG w A (x0 :: xr)) (_hc : (x0 :: xr).length ≤ c) (hn : (x0 :: xr).length ≤ 1000) (ht : Tab w) (hs : ∀ x ∈ x0 :: xr, SmX x)
  (HSORT : Hid (∀ (base : Nat) (A : Option Addr) (c : Nat) (l : List DgX) (w : World), w.ownsRow base 32 5 (.slice A l.length c) l.length (l.flatMap dgxL) → l.length ≤ 1000000 →
   Calls Tryz.prog 79 #[.slice A l.length c, .func (.func 80) #[] #[]] w fun e' w' => e' = .returned (.tuple #[]) ∧
    ∃ m : List DgX, m.Perm l ∧ (m.Pairwise fun x y => ¬ y.1.ie < x.1.ie) ∧ w'.ownsRow base 32 5 (.slice A l.length c) l.length (m.flatMap dgxL) ∧ w.grownBy w' (Value.slice A l.length c).ownBlock)) :
  Calls Tryz.prog 38 #[.slice A (x0 :: xr).length c] w fun e w' => (∃ A' c', e = .returned (.tuple #[dgA (joinF ((x0 :: xr).map (·.1))).1 A' c', i64 (joinF ((x0 :: xr).map (·.1))).2]) ∧ RdI w' A' (joinF ((x0 :: xr).map (·.1))).1.its ∧ (joinF ((x0 :: xr).map (·.1))).1.its.length ≤ c') ∧ Below w.heap.size w w' := by
 have HJB := Lib.hid (fun z (e : joinE x0.1.ti x0.1.vo [] ((x0 :: xr).map (·.1)) = z) (hz : z ≠ 0) => (show joinF ((x0 :: xr).map (·.1)) = (zD, z) from joinF_bad e hz))
 have HJG := Lib.hid (fun (e : joinE x0.1.ti x0.1.vo [] ((x0 :: xr).map (·.1)) = 0) => (show joinF ((x0 :: xr).map (·.1)) = if chkD (joined x0.1.ti x0.1.vo (sortD ((x0 :: xr).map (·.1)))) ≠ 0 then (zD, chkD (joined x0.1.ti x0.1.vo (sortD ((x0 :: xr).map (·.1))))) else ((joined x0.1.ti x0.1.vo (sortD ((x0 :: xr).map (·.1)))), 0) from joinF_good e))
 have HX00 := Lib.hid (show (x0 :: xr)[0]? = some x0 from rfl)
 have HX0 := Lib.hid (show (x0 :: xr)[0]? = some x0 from rfl)
 have hpos : 0 < (x0 :: xr).length := by simp
 obtain ⟨xs, hxs⟩ : ∃ q, x0 :: xr = q := ⟨_, rfl⟩
 rw [hxs] at h _hc hn hs HJB HJG HX00 HX0 hpos ⊢
 clear hxs
 obtain ⟨J, hJ⟩ : ∃ q, joinF (xs.map (·.1)) = q := ⟨_, rfl⟩
 rw [hJ] at HJB HJG ⊢
 clear hJ
 have H := Lib.hid h
 have HS := Lib.hid hs
 have HT := Lib.hid ht
 have hz0 : ((xs.length : Int) == 0) = false := by simp; intro e; rw [e] at hpos; simp at hpos
 have hmm := @run_makeMap Tryz.prog
 clear h hs ht
 go_enter Tryz.func38, Tryz.ntmps38
 go_upto_region 4 with fail
 generalize hw1 : World.alloc (World.alloc w _) _ = w1
 have J1 : Hid (JoS w w1 []) := Lib.hid (by
  (show JoS _ _ _)
  rw [← hw1]
  refine ⟨(below_new _ _).tr (below_new _ _), blk_old _ (blk_new w _), ?_⟩
  have h := ints_made (w.alloc (.cells #[enS [], i64 0, i64 0, i64 0, .slice none 0 0] 32))
  rw [World.size_alloc] at h
  exact h)
 clear hw1 hmm
 have K1 : Hid (JoK x0.1.ti x0.1.vo (xs.map (·.1)) 0) := Lib.hid ⟨by rw [List.take_zero, List.drop_zero]; rfl, by simp⟩
 go_upto_block 0 with fail
 go_cut [] (fun wx => ∃ ks, Hid (JoS w wx ks) ∧ Hid (JoK x0.1.ti x0.1.vo (xs.map (·.1)) xs.length))
 case first =>
  go_wp2_with fail
  go_loopg [20] xs.length (fun gg kv wr => ∃ k : Nat, k ≤ xs.length ∧ xs.length - k ≤ gg ∧ kv = i64 k ∧ Hid (JoS w wr (((xs.map (·.1)).take k).map (·.ie))) ∧ Hid (JoK x0.1.ti x0.1.vo (xs.map (·.1)) k))
  case atStart => exact ⟨0, Nat.zero_le _, by omega, rfl, J1, K1⟩
  case round =>
   obtain ⟨k, hk, hgg, rfl, JW, KW⟩ := hrel
   clear J1 K1
   by_cases hlt : k < xs.length
   case neg =>
    obtain rfl : k = xs.length := by omega
    go_wp2_with fail
    go_meet
    exact ⟨_, JW, KW⟩
   obtain ⟨b, o, x, hA, hbl, hx, hrg, hok⟩ := H.out.at_ hlt
   obtain ⟨b', o', x0', hA0, _, hx0, hrg0, _⟩ := H.out.at_ hpos
   rw [HX0.out] at hx0
   obtain rfl := Option.some.inj hx0
   rw [hA] at hA0
   obtain ⟨rfl, rfl⟩ : b = b' ∧ o = o' := by injection hA0 with e; injection e with e1 e2; exact ⟨e1, e2⟩
   subst hA
   rw [Nat.zero_mul, Nat.add_zero] at hrg0
   obtain ⟨s1, s2, s3⟩ := HS.out x (List.mem_of_getElem? hx)
   obtain ⟨d, A1, c1⟩ := x
   simp only at hok s1 s2 s3 hrg
   have HD : Hid ((xs.map (·.1))[k]? = some d) := Lib.hid (by (show _ = _); rw [List.getElem?_map, hx]; rfl)
   have HRG : Hid (∀ W, Below w.heap.size w W → W.rangeAt b (o + k * 5) [enS d.ti, i64 d.vo, i64 d.ie, i64 d.da, .slice A1 d.its.length c1]) := Lib.hid fun W hb j u hj => by
    rw [World.cell?_of_block (hb.block b hbl)]
    exact hrg j u hj
   have HR0 : Hid (∀ W, Below w.heap.size w W → W.rangeAt b o [enS x0.1.ti, i64 x0.1.vo, i64 x0.1.ie, i64 x0.1.da, .slice x0.2.1 x0.1.its.length x0.2.2]) := Lib.hid fun W hb j u hj => by
    rw [World.cell?_of_block (hb.block b hbl)]
    exact hrg0 j u hj
   have HCK := Lib.hid (fun u (hb : Below w.heap.size w u) => check_any d A1 c1 u (hok.rd.below hb) hok.cap (HT.out.below hb) (by omega) s2 s3)
   clear hx hx0 hrg hrg0 hok s1 s2 s3 hA0
   have r1 := HRG.out wr JW.out.bel
   go_upto_region 7 with (refine wpList_load_mid rfl 32 _ rfl b (o + k * 5) rfl [enS d.ti, i64 d.vo, i64 d.ie, i64 d.da, .slice A1 d.its.length c1] _ r1 Tryz.underlying32 rfl (by kernel_rfl) ?_)
   clear r1
   have bn := below_new wr (.cells #[enS d.ti, i64 d.vo, i64 d.ie, i64 d.da, .slice A1 d.its.length c1] 32)
   have J2 := Lib.hid (JW.out.below bn)
   have D2 := Lib.hid (blk_new wr (.cells #[enS d.ti, i64 d.vo, i64 d.ie, i64 d.da, .slice A1 d.its.length c1] 32))
   clear bn JW
   obtain ⟨db, hdb⟩ : ∃ z, wr.heap.size = z := ⟨_, rfl⟩
   rw [hdb] at D2 ⊢
   clear hdb
   generalize wr.alloc (.cells #[enS d.ti, i64 d.vo, i64 d.ie, i64 d.da, .slice A1 d.its.length c1] 32) = w2 at *
   have RD := Lib.hid (range_blk (cs := [enS d.ti, i64 d.vo, i64 d.ie, i64 d.da, .slice A1 d.its.length c1]) D2.out)
   go_wp2_with (refine wpList_load_mid rfl 32 _ rfl db 0 rfl [enS d.ti, i64 d.vo, i64 d.ie, i64 d.da, .slice A1 d.its.length c1] _ RD.out Tryz.underlying32 rfl (by kernel_rfl) ?_)
   refine (HCK.out w2 J2.out.bel).mono ?_; rintro e w3 ⟨rfl, b3⟩
   have J3 := Lib.hid (J2.out.below b3)
   have D3 := Lib.hid (blk_below b3 D2.out)
   clear b3 J2 D2 RD HCK
   have HE := Lib.hid (KW.out.eq.trans (joinE_at HD.out))
   have HNX := Lib.hid (fun h1 h2 h3 => KW.out.next HD.out h1 h2 h3)
   obtain ⟨ec, hec⟩ : ∃ z, chkD d = z := ⟨_, rfl⟩
   rw [hec] at HE ⊢
   have HEC := Lib.hid hec
   clear hec KW
   by_cases he : ec = 0
   case neg =>
    rw [if_pos he] at HE
    have HVE := Lib.hid (HJB.out ec HE.out he)
    have hq : (ec != 0) = true := by simpa using he
    have hq2 : (ec == 0) = false := by simpa using he
    clear he HNX HE HEC
    have HRS := Lib.hid J3.out.res
    have HBL := Lib.hid J3.out.bel
    go_wp2_with (refine wpList_store_mid rfl 32 _ _ rfl w.heap.size 0 #[enS [], i64 0, i64 0, i64 0, .slice none 0 0] rfl rfl (there_at HRS.out (Nat.le_refl 5)) (by kernel_rfl) (one_dg [] 0 0 0 none 0 0) ?_)
    have ZS := dg_store HRS.out (enS []) (i64 0) (i64 0) (i64 0) (.slice none 0 0)
    have hb2 : But w.heap.size w3 (w3.setCells w.heap.size 0 dg0L) := but_setCells _ _ _
    have hload := run_loadVar_mid (P := Tryz.prog) _ w.heap.size 0 32 dg0L _ (range_blk (cs := dg0L) ZS) Tryz.underlying32 rfl (by kernel_rfl)
    have hbl := hb2.tail HBL.out (Nat.le_refl _)
    exact bodyPost_ret (v := .tuple #[dg0, i64 ec]) (results_cell2 (a := 2) (i := 3) rfl rfl hload rfl) rfl ⟨⟨none, 0, by rw [HVE.out]; rfl, by rw [HVE.out]; exact RdI.nil, by rw [HVE.out]; exact Nat.le_refl _⟩, hbl⟩
   subst he
   rw [if_neg (by decide)] at HE
   have c0 := blk_cell D3.out 0
   have c1' := blk_cell D3.out 1
   have t0 : w3.cell? ⟨b, o, none⟩ = some (enS x0.1.ti) := by have := HR0.out w3 J3.out.bel 0 _ rfl; exact this
   have t1 : w3.cell? ⟨b, o + 1, none⟩ = some (i64 x0.1.vo) := HR0.out w3 J3.out.bel 1 _ rfl
   go_upto_region 10 with fail
   go_cut [45] (fun t45 wx => t45 = .bool (decide (d.ti ≠ x0.1.ti ∨ d.vo ≠ x0.1.vo)) ∧ Hid (Below w3.heap.size w3 wx))
   case first =>
    have bd := (Below.refl w3.heap.size w3).drew
    have BD := Lib.hid bd
    refine Flow.wp_region_segs Flow.Later Flow.Later.refl Flow.Later.trans [] [0, 1, 2, 3, 4, 5, 6, 7, 8, 9, 10, 11, 12, 13, 14, 15] (by kernel_rfl) (by kernel_rfl) ?_
    have e0 := bd.cellv c0
    have e1 := bd.cellv c1'
    have e2 := bd.cellv t0
    have e3 := bd.cellv t1
    clear bd c0 c1' t0 t1
    generalize World.drew _ = wd at *
    have q0 := fun t : Flow.Cls (Flow.Later wd) => Flow.cls_cell e0 t
    have q1 := fun t : Flow.Cls (Flow.Later wd) => Flow.cls_cell e1 t
    have q2 := fun t : Flow.Cls (Flow.Later wd) => Flow.cls_cell e2 t
    have q3 := fun t : Flow.Cls (Flow.Later wd) => Flow.cls_cell e3 t
    haveI nonE := Flow.cls_nonempty wd
    rw [Flow.wpSegs_nil]
    simp only [Flow.pick, List.getElem?_toArray, List.getElem?_cons_succ, List.getElem?_cons_zero]
    by_cases e5 : d.ti = x0.1.ti
    ·have hq : (d.ti == x0.1.ti) = true := by simpa using e5
     by_cases e6 : d.vo = x0.1.vo
     ·have hv : (d.vo != x0.1.vo) = false := by simpa using e6
      have TT := Lib.hid (show false = decide (d.ti ≠ x0.1.ti ∨ d.vo ≠ x0.1.vo) by rw [decide_eq_false]; simp [e5, e6])
      clear e5 e6
      iterate 7 go_big_quiet_step (fail)
      repeat go_big_quiet_step (fail)
      refine wpQuiet_nil ?_
      clear nonE q0 q1 q2 q3
      go_wp2_with fail
      go_meet
      exact ⟨by rw [TT.out], BD⟩
     ·have hv : (d.vo != x0.1.vo) = true := by simpa using e6
      have TT := Lib.hid (show true = decide (d.ti ≠ x0.1.ti ∨ d.vo ≠ x0.1.vo) by rw [decide_eq_true]; simp [e6])
      clear e5 e6
      iterate 7 go_big_quiet_step (fail)
      repeat go_big_quiet_step (fail)
      refine wpQuiet_nil ?_
      clear nonE q0 q1 q2 q3
      go_wp2_with fail
      go_meet
      exact ⟨by rw [TT.out], BD⟩
    ·have hq : (d.ti == x0.1.ti) = false := by simpa using e5
     have TT := Lib.hid (show true = decide (d.ti ≠ x0.1.ti ∨ d.vo ≠ x0.1.vo) by rw [decide_eq_true]; simp [e5])
     clear e5
     iterate 7 go_big_quiet_step (fail)
     repeat go_big_quiet_step (fail)
     refine wpQuiet_nil ?_
     clear nonE q0 q1 q2 q3
     go_wp2_with fail
     go_meet
     exact ⟨by rw [TT.out], BD⟩
   obtain ⟨rfl, BX⟩ := hcut
   have J4 := Lib.hid (J3.out.below BX.out)
   have D4 := Lib.hid (blk_below BX.out D3.out)
   clear J3 D3 BX c0 c1' t0 t1
   by_cases h12 : d.ti ≠ x0.1.ti ∨ d.vo ≠ x0.1.vo
   ·rw [if_pos h12] at HE
    have HVE := Lib.hid (HJB.out 12 HE.out (by decide))
    rw [decide_eq_true h12]
    clear h12 HNX HE HEC
    have HRS := Lib.hid J4.out.res
    have HBL := Lib.hid J4.out.bel
    go_wp2_with (refine wpList_store_mid rfl 32 _ _ rfl w.heap.size 0 #[enS [], i64 0, i64 0, i64 0, .slice none 0 0] rfl rfl (there_at HRS.out (Nat.le_refl 5)) (by kernel_rfl) (one_dg [] 0 0 0 none 0 0) ?_)
    have ZS := dg_store HRS.out (enS []) (i64 0) (i64 0) (i64 0) (.slice none 0 0)
    have hb2 : But w.heap.size wc (wc.setCells w.heap.size 0 dg0L) := but_setCells _ _ _
    have hload := run_loadVar_mid (P := Tryz.prog) _ w.heap.size 0 32 dg0L _ (range_blk (cs := dg0L) ZS) Tryz.underlying32 rfl (by kernel_rfl)
    have hbl := hb2.tail HBL.out (Nat.le_refl _)
    exact bodyPost_ret (v := .tuple #[dg0, i64 12]) (results_cell2 (a := 2) (i := 3) rfl rfl hload rfl) rfl ⟨⟨none, 0, by rw [HVE.out]; rfl, by rw [HVE.out]; exact RdI.nil, by rw [HVE.out]; exact Nat.le_refl _⟩, hbl⟩
   rw [if_neg h12] at HE
   rw [decide_eq_false h12]
   have H12 := Lib.hid h12
   clear h12
   have hie : Hid (0 ≤ d.ie ∧ d.ie ≤ 1000000) := Lib.hid (by
    have h := (chkD_zero HEC.out).2.2.1
    unfold ordB at h
    simp only [Bool.and_eq_true, decide_eq_true_eq] at h
    (show 0 ≤ d.ie ∧ d.ie ≤ 1000000)
    omega)
   have c2 := blk_cell D4.out 2
   have hkl : ((((xs.map (·.1)).take k).map (·.ie)).map (Lit.int .i64)).length < maxLen := by
    rw [List.length_map, List.length_map, List.length_take, List.length_map]; unfold maxLen; omega
   have HF := Lib.hid (IntS.on (((xs.map (·.1)).take k).map (·.ie)) d.ie)
   by_cases h7 : d.ie ∈ ((xs.map (·.1)).take k).map (·.ie)
   ·rw [if_pos h7] at HE
    have HVE := Lib.hid (HJB.out 7 HE.out (by decide))
    rw [decide_eq_true h7] at HF
    clear h7 HNX HE HEC
    go_upto_if 50 with (at_lookup; refine wpList_lookup_b _ rfl _ _ 131 rfl 3 4 (int_keyed Tryz.underlying3) Tryz.underlying131 Tryz.underlying4 (zeroBool _) (w.heap.size + 1) _ rfl J4.out.mp _ _ rfl (keyOf_num hie.out) ?_; rw [HF.out])
    clear c2 hkl
    have HRS := Lib.hid J4.out.res
    have HBL := Lib.hid J4.out.bel
    go_wp2_with (refine wpList_store_mid rfl 32 _ _ rfl w.heap.size 0 #[enS [], i64 0, i64 0, i64 0, .slice none 0 0] rfl rfl (there_at HRS.out (Nat.le_refl 5)) (by kernel_rfl) (one_dg [] 0 0 0 none 0 0) ?_)
    have ZS := dg_store HRS.out (enS []) (i64 0) (i64 0) (i64 0) (.slice none 0 0)
    have hb2 : But w.heap.size wc (wc.setCells w.heap.size 0 dg0L) := but_setCells _ _ _
    have hload := run_loadVar_mid (P := Tryz.prog) _ w.heap.size 0 32 dg0L _ (range_blk (cs := dg0L) ZS) Tryz.underlying32 rfl (by kernel_rfl)
    have hbl := hb2.tail HBL.out (Nat.le_refl _)
    exact bodyPost_ret (v := .tuple #[dg0, i64 7]) (results_cell2 (a := 2) (i := 3) rfl rfl hload rfl) rfl ⟨⟨none, 0, by rw [HVE.out]; rfl, by rw [HVE.out]; exact RdI.nil, by rw [HVE.out]; exact Nat.le_refl _⟩, hbl⟩
   rw [if_neg h7] at HE
   rw [decide_eq_false h7] at HF
   have KX := Lib.hid (HNX.out HEC.out H12.out h7)
   clear h7 HNX HE
   go_wp2_with (first | (at_lookup; refine wpList_lookup_b _ rfl _ _ 131 rfl 3 4 (int_keyed Tryz.underlying3) Tryz.underlying131 Tryz.underlying4 (zeroBool _) (w.heap.size + 1) _ rfl J4.out.mp _ _ rfl (keyOf_num hie.out) ?_; rw [HF.out]) | (refine wpList_mapUpdate_b _ rfl _ _ _ 131 rfl 3 4 (int_keyed Tryz.underlying3) Tryz.underlying131 Tryz.underlying4 (w.heap.size + 1) _ rfl J4.out.mp hkl _ _ rfl rfl (keyOf_num hie.out) (int_key _) ?_; intro w5 m5 g5))
   have JX : Hid (JoS w w5 (((xs.map (·.1)).take (k + 1)).map (·.ie))) := Lib.hid (by
    have e : ((xs.map (·.1)).take (k + 1)).map (·.ie) = ((xs.map (·.1)).take k).map (·.ie) ++ [d.ie] := by
     rw [List.take_add_one, HD.out, Option.toList_some, List.map_append]; rfl
    have hsz := J4.out.mp.lt
    (show JoS _ _ _)
    refine ⟨J4.out.bel.trans ((Below.refl w.heap.size wc).grown g5 J4.out.bel.size fun g eg => by injection eg with eg; omega), (g5.block _ (by omega) (fun eg => by injection eg with eg; omega)).trans J4.out.res, ?_⟩
    unfold IntS
    rw [e, List.map_append]
    exact m5)
   clear m5 g5 J4 D4 c2 hkl HF HEC
   go_wp2_with fail
   go_roundg (xs.length - (k + 1))
   case measure => omega
   case rel => exact ⟨k + 1, by omega, by omega, by simp, JX, KX⟩
 obtain ⟨ks, J5, K5⟩ := hcut
 clear J1 K1 HJB
 have HJ := Lib.hid (HJG.out (K5.out.eq.trans (by rw [show (xs.map (·.1)).drop xs.length = [] from List.drop_of_length_le (by simp)]; rfl)))
 have HNZ := Lib.hid ((joinE_zero _ _ _ _).1 (K5.out.eq.trans (by rw [show (xs.map (·.1)).drop xs.length = [] from List.drop_of_length_le (by simp)]; rfl)))
 clear K5 HJG
 have HB5 := Lib.hid J5.out.bel
 have R5 := Lib.hid J5.out.res
 have HCL := Lib.hid (cloneDg_any A c xs wc (H.out.below J5.out.bel).cells (by omega))
 clear J5
 go_upto_region 16 with fail
 go_wp2_with fail
 refine HCL.out.mono ?_; rintro e w6 ⟨A2, c2, rfl, ho6, b6⟩
 have HSO := Lib.hid (HSORT.out wc.heap.size A2 c2 xs w6 ho6 (by omega))
 have B6 := Lib.hid (HB5.out.tr b6)
 have R6 := Lib.hid (blk_below b6 R5.out)
 have HGB := Lib.hid (fun w7 (g : w6.grownBy w7 (Value.slice A2 xs.length c2).ownBlock) => (show Below wc.heap.size w6 w7 from (Below.refl wc.heap.size w6).grown g b6.size fun k hk => (ho6.lt k hk).1))
 have HSZ6 := Lib.hid (blk_lt R5.out)
 clear ho6 b6 HCL R5
 go_wp2_with fail
 refine HSO.out.mono ?_; rintro e w7 ⟨rfl, m, hp, hso, ho7, g7⟩
 have b7 := HGB.out w7 g7
 have B7 := Lib.hid (B6.out.trans (b7.mono HB5.out.size))
 have R7 := Lib.hid ((b7.block _ HSZ6.out).trans R6.out)
 have hml : m.length = xs.length := hp.length_eq
 have MS : Hid (m.map (·.1) = sortD (xs.map (·.1))) := Lib.hid (sortD_of HNZ.out.2 (hp.map _) (by rw [List.pairwise_map]; exact hso.imp fun {a b} h => by omega))
 have OKM := Lib.hid (fun x (hx : x ∈ m) => (H.out.ok x (hp.mem_iff.1 hx)).below B7.out)
 have SMM := Lib.hid (fun x (hx : x ∈ m) => HS.out x (hp.mem_iff.1 hx))
 have RM7 := Lib.hid (RdG.of_own ho7 OKM.out)
 have hmp : 0 < m.length := by omega
 clear hp hso ho7 g7 b7 HSO HGB HSZ6 R6 B6 HB5 HNZ
 rw [← MS.out] at HJ
 obtain ⟨b2, o2, y0, hA2, hbl2, hy0, hrg2, _⟩ := RM7.out.at_ hmp
 obtain ⟨b', o', x0', hA0, hbl, hx0, hrg0, _⟩ := H.out.at_ hpos
 rw [HX0.out] at hx0
 obtain rfl := Option.some.inj hx0
 subst hA0
 subst hA2
 rw [Nat.zero_mul, Nat.add_zero] at hrg0 hrg2
 have HR0 : Hid (∀ W, Below w.heap.size w W → W.rangeAt b' o' [enS x0.1.ti, i64 x0.1.vo, i64 x0.1.ie, i64 x0.1.da, .slice x0.2.1 x0.1.its.length x0.2.2]) := Lib.hid fun W hb j u hj => by
  rw [World.cell?_of_block (hb.block b' hbl)]
  exact hrg0 j u hj
 have HIE : Hid (headIe (m.map (·.1)) = y0.1.ie) := Lib.hid (by
  (show _ = _)
  cases m with
  | nil => simp at hmp
  | cons z r => obtain rfl : z = y0 := by simpa using hy0
                rfl)
 have HR2 := Lib.hid hrg2
 have hn0 : (0 : Int) < xs.length := by omega
 clear hx0 hy0 hrg0 hrg2 HX0
 go_upto_region 18 with fail
 go_cut [9] (fun p9 wx => ∃ jb, p9 = .pointer (some ⟨jb, 0, none⟩) ∧ Hid (wx.heap[jb]? = some (.cells #[enS x0.1.ti, i64 x0.1.vo, i64 y0.1.ie, i64 0, .slice none 0 0] 32 (0, 0))) ∧ Hid (w7.heap.size ≤ jb) ∧ Hid (Below w7.heap.size w7 wx))
 case first =>
  have bd : Below w7.heap.size w7 w7.drew := (Below.refl _ _).drew
  have X8 := Lib.hid bd
  refine Flow.wp_region_segs (fun u v => Below w7.heap.size u v) (fun _ => Below.refl _ _) (fun _ _ _ h k => h.trans k) [([0, 1, 2, 3, 4, 5, 6, 7, 8, 9, 10, 11, 12], 13), ([], 14)] [] (by kernel_rfl) (by kernel_rfl) ?_
  clear bd
  generalize World.drew _ = wd at *
  have t0 : ∀ t : Flow.Cls (Below w7.heap.size wd), t.val.cell? ⟨b', o', none⟩ = some (enS x0.1.ti) := fun t => HR0.out t.val (B7.out.tr (X8.out.trans t.ok)) 0 _ rfl
  have t1 : ∀ t : Flow.Cls (Below w7.heap.size wd), t.val.cell? ⟨b', o' + 1, none⟩ = some (i64 x0.1.vo) := fun t => HR0.out t.val (B7.out.tr (X8.out.trans t.ok)) 1 _ rfl
  have t2 : ∀ t : Flow.Cls (Below w7.heap.size wd), t.val.cell? ⟨b2, o2 + 2, none⟩ = some (i64 y0.1.ie) := fun t => range_below HR2.out (X8.out.trans t.ok) 2 _ rfl
  haveI nonE : Nonempty (Flow.Cls (Below w7.heap.size wd)) := ⟨⟨wd, Below.refl _ _⟩⟩
  rw [Flow.wpSegs_cons]
  simp only [Flow.pick, List.getElem?_toArray, List.getElem?_cons_succ, List.getElem?_cons_zero]
  repeat go_big_quiet_step (fail)
  refine wpQuiet_nil ?_
  clear nonE t0 t1 t2
  rw [Flow.callAt_eq]
  simp only [List.getElem?_toArray, List.getElem?_cons_succ, List.getElem?_cons_zero]
  rw [if_pos (by rfl)]
  refine Flow.wp_behind (fun K hK => ?_)
  go_wp2_with fail
  have bn := below_new wd (.cells #[enS [], i64 0, i64 0, i64 0, .slice none 0 0] 32)
  have HPP : w7.heap.size ≤ wd.heap.size := X8.out.size
  refine hK.out _ _ ⟨bn.mono HPP, ?_⟩
  clear hK K
  have BN := Lib.hid (blk_new wd (.cells #[enS [], i64 0, i64 0, i64 0, .slice none 0 0] 32))
  have CN := Lib.hid (X8.out.trans (bn.mono HPP))
  clear bn
  obtain ⟨jb, hjb⟩ : ∃ z, wd.heap.size = z := ⟨_, rfl⟩
  rw [hjb] at BN HPP ⊢
  clear hjb
  generalize wd.alloc (.cells #[enS [], i64 0, i64 0, i64 0, .slice none 0 0] 32) = wa at *
  rw [Flow.wpSegs_cons]
  simp only [Flow.pick]
  refine wpQuiet_nil ?_
  rw [Flow.callAt_eq]
  simp only [List.getElem?_toArray, List.getElem?_cons_succ, List.getElem?_cons_zero, Act.put]
  rw [if_pos (by rfl)]
  refine Flow.wp_behind (fun K hK => ?_)
  refine wp_store_mid0 32 _ _ rfl rfl jb 0 #[enS x0.1.ti, i64 x0.1.vo, i64 y0.1.ie, i64 0, .slice none 0 0] rfl rfl (there_at BN.out (Nat.le_refl 5)) (by kernel_rfl) (one_dg _ _ _ _ _ _ _) ?_
  have hbt := but_setCells (b := jb) [enS x0.1.ti, i64 x0.1.vo, i64 y0.1.ie, i64 0, .slice none 0 0] 0 wa
  have hkb := but_lowJ hbt HPP CN.out.size
  refine hK.out _ _ ⟨hkb, ?_⟩
  clear hK K
  have DS := Lib.hid (dg_store BN.out (enS x0.1.ti) (i64 x0.1.vo) (i64 y0.1.ie) (i64 0) (.slice none 0 0))
  have CS := Lib.hid (CN.out.trans hkb)
  clear hbt hkb
  rw [Flow.wpSegs_nil]
  simp only [Flow.pick]
  refine wpQuiet_nil ?_
  generalize World.setCells wa jb 0 _ = wz at *
  go_wp2_with fail
  go_meet
  exact ⟨jb, rfl, DS, Lib.hid HPP, CS⟩
 obtain ⟨jb, rfl, JD, HJB, BX⟩ := hcut
 generalize wc = w8 at *
 have HJBL : Hid (w.heap.size < jb) := Lib.hid (by have h1 := blk_lt R7.out; have h2 := HJB.out; (show w.heap.size < jb); omega)
 have U0 : Hid (JuS w7 w8 jb x0.1.ti x0.1.vo y0.1.ie 0 none 0 []) := Lib.hid ⟨BX.out, JD.out, own2_nil _ _ _ _, HJB.out, blk_lt JD.out⟩
 have HI := Lib.hid (fun k (x : DgX) (hx : m[k]? = some x) => (⟨SMM.out x (List.mem_of_getElem? hx), OKM.out x (List.mem_of_getElem? hx)⟩ : SmX x ∧ OkX w7 x))
 have HM1 := Lib.hid SMM.out
 obtain ⟨i0, hi, hz0', hz1, hz2⟩ := info_parts it_info
 have HIN := Lib.hid (And.intro hi (And.intro hz0' (And.intro hz1 hz2)))
 clear hi hz0' hz1 hz2 JD BX HR0 HR2
 go_upto_block 2 with fail
 go_cut [] (fun wx => ∃ A' c', Hid (JuS w7 wx jb x0.1.ti x0.1.vo y0.1.ie (maxDa (m.map (·.1))) A' c' ((m.map (·.1)).flatMap (·.its))))
 case first =>
  go_wp2_with fail
  go_loopg [75] xs.length (fun gg kv wr => ∃ (k : Nat) (A' : Option Addr) (c' : Nat), k ≤ xs.length ∧ xs.length - k ≤ gg ∧ kv = i64 k ∧ Hid (JuS w7 wr jb x0.1.ti x0.1.vo y0.1.ie (maxDa ((m.map (·.1)).take k)) A' c' (((m.map (·.1)).take k).flatMap (·.its))))
  case atStart => exact ⟨0, none, 0, Nat.zero_le _, by omega, rfl, U0⟩
  case round =>
   obtain ⟨k, A', c', hk, hgg, rfl, UW⟩ := hrel
   clear U0
   by_cases hlt : k < xs.length
   case neg =>
    obtain rfl : k = xs.length := by omega
    have UX : Hid (JuS w7 wr jb x0.1.ti x0.1.vo y0.1.ie (maxDa (m.map (·.1))) A' c' ((m.map (·.1)).flatMap (·.its))) := Lib.hid (by
     have h := UW.out
     rwa [List.take_of_length_le (by rw [List.length_map]; omega)] at h)
    go_wp2_with fail
    go_meet
    exact ⟨A', c', UX⟩
   obtain ⟨b3, o3, x3, hA3, hbl3, hx3, hrg3, _⟩ := RM7.out.at_ (show k < m.length by omega)
   obtain ⟨rfl, rfl⟩ : b2 = b3 ∧ o2 = o3 := by injection hA3 with e; injection e with e1 e2; exact ⟨e1, e2⟩
   obtain ⟨⟨s1, s2, s3⟩, ok3⟩ := HI.out k x3 hx3
   obtain ⟨d, A1, c1⟩ := x3
   simp only at s1 s2 s3 ok3 hrg3
   have HD : Hid ((m.map (·.1))[k]? = some d) := Lib.hid (by (show _ = _); rw [List.getElem?_map, hx3]; rfl)
   have r3 : wr.rangeAt b2 (o2 + k * 5) [enS d.ti, i64 d.vo, i64 d.ie, i64 d.da, .slice A1 d.its.length c1] := range_below hrg3 UW.out.bel
   have HOK := Lib.hid ok3
   clear hA3 hx3 hrg3 ok3 s2 s3
   go_upto_region 22 with (refine wpList_load_mid rfl 32 _ rfl b2 (o2 + k * 5) rfl [enS d.ti, i64 d.vo, i64 d.ie, i64 d.da, .slice A1 d.its.length c1] _ r3 Tryz.underlying32 rfl (by kernel_rfl) ?_)
   clear r3
   have bn := below_new wr (.cells #[enS d.ti, i64 d.vo, i64 d.ie, i64 d.da, .slice A1 d.its.length c1] 32)
   have U2 := Lib.hid (UW.out.below bn)
   have D2 := Lib.hid (blk_new wr (.cells #[enS d.ti, i64 d.vo, i64 d.ie, i64 d.da, .slice A1 d.its.length c1] 32))
   have hne : jb ≠ wr.heap.size := Nat.ne_of_lt UW.out.sz
   clear bn UW
   obtain ⟨db, hdb⟩ : ∃ z, wr.heap.size = z := ⟨_, rfl⟩
   rw [hdb] at D2 hne ⊢
   clear hdb
   generalize wr.alloc (.cells #[enS d.ti, i64 d.vo, i64 d.ie, i64 d.da, .slice A1 d.its.length c1] 32) = w2 at *
   obtain ⟨its, hits⟩ : ∃ z, ((m.map (·.1)).take k).flatMap (·.its) = z := ⟨_, rfl⟩
   obtain ⟨da, hda⟩ : ∃ z, maxDa ((m.map (·.1)).take k) = z := ⟨_, rfl⟩
   have HN : Hid (((m.map (·.1)).take (k + 1)).flatMap (·.its) = its ++ d.its ∧ maxDa ((m.map (·.1)).take (k + 1)) = max da d.da) := Lib.hid (by
    have e : (m.map (·.1)).take (k + 1) = (m.map (·.1)).take k ++ [d] := by rw [List.take_add_one, HD.out]; rfl
    (show _ ∧ _)
    rw [e, ← hits, ← hda]
    exact ⟨by rw [List.flatMap_append, List.flatMap_cons, List.flatMap_nil, List.append_nil], by unfold maxDa; rw [List.foldl_append]; rfl⟩)
   have hil : its.length ≤ 1000000 := by
    have h1 := its_len ((m.map (·.1)).take k) (fun y hy => by
     obtain ⟨z, hz, rfl⟩ := List.mem_map.1 (List.mem_of_mem_take hy)
     exact (HM1.out z hz).1)
    rw [hits, List.length_take, List.length_map] at h1
    have : min k m.length * 1000 ≤ 1000 * 1000 := Nat.mul_le_mul_right _ (by omega)
    omega
   rw [hits, hda] at U2
   have HIL := Lib.hid hil
   clear hits hda HD hil
   have j3 : w2.cell? ⟨jb, 3, none⟩ = some (i64 da) := blk_cell U2.out.blk 3
   have f3 := blk_free U2.out.blk 3
   have d3 : w2.cell? ⟨db, 3, none⟩ = some (i64 d.da) := blk_cell D2.out 3
   go_upto_region 23 with fail
   have U3 := Lib.hid (U2.out.date (max da d.da))
   have D3 : Hid ((w2.setCell ⟨jb, 3, none⟩ (i64 (max da d.da))).heap[db]? = some (.cells #[enS d.ti, i64 d.vo, i64 d.ie, i64 d.da, .slice A1 d.its.length c1] 32 (0, 0))) := Lib.hid ((Below.heap_setCell _ _ _ _ (Ne.symm hne)).trans D2.out)
   clear j3 f3 d3 U2 D2
   generalize w2.setCell ⟨jb, 3, none⟩ (i64 (max da d.da)) = w3 at *
   have j4 : w3.cell? ⟨jb, 4, none⟩ = some (.slice A' its.length c') := blk_cell U3.out.blk 4
   have d4 : w3.cell? ⟨db, 4, none⟩ = some (.slice A1 d.its.length c1) := blk_cell D3.out 4
   have hrc := (HOK.out.rd.below U3.out.bel).cells
   have hlen := flatG_len itL itL_length d.its
   have hone := flat_oneG itL one_itL d.its
   have hbs := U3.out.sz
   have hsum : its.length + d.its.length ≤ 1000000000 := by have := HIL.out; omega
   go_upto_region 24 with (at_builtin; refine wpList_appC Tryz.underlying30 HIN.out.1 HIN.out.2.1 HIN.out.2.2.1 HIN.out.2.2.2 rfl (by decide) _ rfl _ _ rfl (jb + 1) _ its.length _ U3.out.own rfl A1 d.its.length c1 (d.its.flatMap itL) hlen hrc rfl hone hsum (by decide) hbs ?_; intro v9 w9 o9 g9 b9; obtain ⟨A9, c9, rfl⟩ := own2_slice o9; have O9 := Lib.hid o9; clear o9 g9; revert b9)
   intro b9
   have s9 := (b9.block jb (Nat.lt_succ_self _)).trans U3.out.blk
   have U4 := Lib.hid (U3.out.app O9.out b9)
   have c9c := blk_cell s9 4
   have f9c := blk_free s9 4
   clear j4 d4 hrc hlen hone s9 b9 O9 U3 D3
   go_upto_region 24 with fail
   clear c9c f9c
   generalize w9.setCell ⟨jb, 4, none⟩ (.slice A9 (its.length + d.its.length) c9) = w10 at *
   rw [← HN.out.1, ← HN.out.2] at U4
   have UX := Lib.hid U4.out
   clear U4 HN HOK
   go_wp2_with fail
   go_roundg (xs.length - (k + 1))
   case measure => omega
   case rel => exact ⟨k + 1, A9, c9, by omega, by omega, by simp, UX⟩
 obtain ⟨A', c', UX⟩ := hcut
 clear U0 HI
 have hN : Hid (((m.map (·.1)).flatMap (·.its)).length ≤ 1000000) := Lib.hid (by
  have h1 := its_len (m.map (·.1)) (fun y hy => by obtain ⟨z, hz, rfl⟩ := List.mem_map.1 hy; exact (HM1.out z hz).1)
  rw [List.length_map] at h1
  have : m.length * 1000 ≤ 1000 * 1000 := Nat.mul_le_mul_right _ (by omega)
  (show _ ≤ 1000000)
  omega)
 have hKY : Hid (∀ y ∈ (m.map (·.1)).flatMap (·.its), y.ky.length = 32 ∧ y.fr.length ≤ 1000000000 ∧ y.su.length ≤ 1000000000 ∧ y.bo.length ≤ 1000000000) := Lib.hid (fun y hy => by
  obtain ⟨d, hd, hyd⟩ := List.mem_flatMap.1 hy
  obtain ⟨x, hx, rfl⟩ := List.mem_map.1 hd
  exact ⟨(OKM.out x hx).rd.ky y hyd, (HM1.out x hx).2.2 y hyd⟩)
 have hTI := Lib.hid (HS.out x0 (List.mem_of_getElem? HX00.out)).2.1
 have HJ2 : Hid (J = if chkD ⟨x0.1.ti, x0.1.vo, y0.1.ie, maxDa (m.map (·.1)), (m.map (·.1)).flatMap (·.its)⟩ ≠ 0 then (zD, chkD ⟨x0.1.ti, x0.1.vo, y0.1.ie, maxDa (m.map (·.1)), (m.map (·.1)).flatMap (·.its)⟩) else (⟨x0.1.ti, x0.1.vo, y0.1.ie, maxDa (m.map (·.1)), (m.map (·.1)).flatMap (·.its)⟩, 0)) := Lib.hid (by
  have h := HJ.out
  unfold joined at h
  rw [HIE.out] at h
  exact h)
 clear HJ HIE MS OKM SMM RM7 HM1 HIN
 obtain ⟨its, hits⟩ : ∃ z, (m.map (·.1)).flatMap (·.its) = z := ⟨_, rfl⟩
 obtain ⟨da, hda⟩ : ∃ z, maxDa (m.map (·.1)) = z := ⟨_, rfl⟩
 rw [hits] at hN hKY UX HJ2
 rw [hda] at UX HJ2
 clear hits hda
 have BY := Lib.hid (B7.out.trans (UX.out.bel.mono B7.out.size))
 have RY := Lib.hid (blk_below UX.out.bel R7.out)
 have hne : w.heap.size ≠ jb := by have h1 := blk_lt R7.out; have h2 := UX.out.hj; omega
 have HCK := Lib.hid (check_any ⟨x0.1.ti, x0.1.vo, y0.1.ie, da, its⟩ A' c' wc (RdI.of_own UX.out.own fun y hy => (hKY.out y hy).1) (own2_le UX.out.own) (HT.out.below BY.out) (by have := hN.out; (show its.length ≤ _); omega) hTI.out (fun y hy => (hKY.out y hy).2))
 have JB := Lib.hid UX.out.blk
 have OW := Lib.hid UX.out.own
 have hcap := own2_le UX.out.own
 clear UX B7 R7
 have RG := Lib.hid (range_blk (cs := [enS x0.1.ti, i64 x0.1.vo, i64 y0.1.ie, i64 da, .slice A' its.length c']) JB.out)
 go_wp2_with (refine wpList_load_mid rfl 32 _ rfl jb 0 rfl [enS x0.1.ti, i64 x0.1.vo, i64 y0.1.ie, i64 da, .slice A' its.length c'] _ RG.out Tryz.underlying32 rfl (by kernel_rfl) ?_)
 refine HCK.out.mono ?_; rintro e w9 ⟨rfl, b9⟩
 have JB9 := Lib.hid (blk_below b9 JB.out)
 have OW9 := Lib.hid (own_below OW.out b9)
 have J9 := Lib.hid (JoR.mk (BY.out.tr b9) (blk_below b9 RY.out))
 clear b9 JB OW BY RY RG HCK HT
 obtain ⟨ec, hec⟩ : ∃ z, chkD ⟨x0.1.ti, x0.1.vo, y0.1.ie, da, its⟩ = z := ⟨_, rfl⟩
 rw [hec] at HJ2 ⊢
 clear hec
 by_cases he : ec = 0
 case neg =>
  rw [if_pos he] at HJ2
  have HVE := Lib.hid HJ2.out
  have hq : (ec != 0) = true := by simpa using he
  have hq2 : (ec == 0) = false := by simpa using he
  clear he HJ2
  have HRS := Lib.hid J9.out.res
  have HBL := Lib.hid J9.out.bel
  go_wp2_with (refine wpList_store_mid rfl 32 _ _ rfl w.heap.size 0 #[enS [], i64 0, i64 0, i64 0, .slice none 0 0] rfl rfl (there_at HRS.out (Nat.le_refl 5)) (by kernel_rfl) (one_dg [] 0 0 0 none 0 0) ?_)
  have ZS := dg_store HRS.out (enS []) (i64 0) (i64 0) (i64 0) (.slice none 0 0)
  have hb2 : But w.heap.size w9 (w9.setCells w.heap.size 0 dg0L) := but_setCells _ _ _
  have hload := run_loadVar_mid (P := Tryz.prog) _ w.heap.size 0 32 dg0L _ (range_blk (cs := dg0L) ZS) Tryz.underlying32 rfl (by kernel_rfl)
  have hbl := hb2.tail HBL.out (Nat.le_refl _)
  exact bodyPost_ret (v := .tuple #[dg0, i64 ec]) (results_cell2 (a := 2) (i := 3) rfl rfl hload rfl) rfl ⟨⟨none, 0, by rw [HVE.out]; rfl, by rw [HVE.out]; exact RdI.nil, by rw [HVE.out]; exact Nat.le_refl _⟩, hbl⟩
 subst he
 rw [if_neg (by decide)] at HJ2
 have HRS := Lib.hid J9.out.res
 have HBL := Lib.hid J9.out.bel
 have RG := Lib.hid (range_blk (cs := [enS x0.1.ti, i64 x0.1.vo, i64 y0.1.ie, i64 da, .slice A' its.length c']) JB9.out)
 go_wp2_with (first | refine wpList_load_mid rfl 32 _ rfl jb 0 rfl [enS x0.1.ti, i64 x0.1.vo, i64 y0.1.ie, i64 da, .slice A' its.length c'] _ RG.out Tryz.underlying32 rfl (by kernel_rfl) ?_ | refine wpList_store_mid rfl 32 _ _ rfl w.heap.size 0 #[enS x0.1.ti, i64 x0.1.vo, i64 y0.1.ie, i64 da, .slice A' its.length c'] rfl rfl (there_at HRS.out (Nat.le_refl 5)) (by kernel_rfl) (one_dg _ _ _ _ _ _ _) ?_)
 have ZS := dg_store HRS.out (enS x0.1.ti) (i64 x0.1.vo) (i64 y0.1.ie) (i64 da) (.slice A' its.length c')
 have hb2 : But w.heap.size w9 (w9.setCells w.heap.size 0 [enS x0.1.ti, i64 x0.1.vo, i64 y0.1.ie, i64 da, .slice A' its.length c']) := but_setCells _ _ _
 have hload := run_loadVar_mid (P := Tryz.prog) _ w.heap.size 0 32 [enS x0.1.ti, i64 x0.1.vo, i64 y0.1.ie, i64 da, .slice A' its.length c'] _ (range_blk (cs := [enS x0.1.ti, i64 x0.1.vo, i64 y0.1.ie, i64 da, .slice A' its.length c']) ZS) Tryz.underlying32 rfl (by kernel_rfl)
 have hbl := hb2.tail HBL.out (Nat.le_refl _)
 have hown := own_but OW9.out (show w.heap.size < jb + 1 by have := HJBL.out; omega) hb2
 exact bodyPost_ret (v := .tuple #[dgA ⟨x0.1.ti, x0.1.vo, y0.1.ie, da, its⟩ A' c', i64 0]) (results_cell2 (a := 2) (i := 3) rfl rfl hload rfl) rfl ⟨⟨A', c', by rw [HJ2.out], by rw [HJ2.out]; exact RdI.of_own hown fun y hy => (hKY.out y hy).1, by rw [HJ2.out]; exact hcap⟩, hbl⟩
end Go.Proofs.YtlchcjnbbhpiaaaGreatDoor
