/- The walk of the statement StatsForget. -/
import Derived.Test.YthgefcoaaommkaaGreatDoorZj
import Derived.Test.YthgefcoaaommkaaGreatDoorZe
import Derived.Test.YthgefcoaaommkaaGreatDoorSuO
namespace Go.Proofs.YthgefcoaaommkaaGreatDoor
open Go.RowKit Go.Gn Go.Sr Go.Maps

theorem RdE.but {w w' : World} {A : Option Addr} {ms : List EvM} {R : List Nat} (h : RdE w A ms) (hb : ButL R w w') (hA : ∀ a, A = some a → a.block ∉ R) (hg : ∀ m ∈ ms, GoodM w' m) : RdE w' A ms :=
  ⟨fun hl => by
    obtain ⟨b, o, e, hlt, hc⟩ := h.rd hl
    refine ⟨b, o, e, Nat.lt_of_lt_of_le hlt hb.size, fun j m hj t v hv => ?_⟩
    rw [World.cell?_of_block (w := w) (hb.block b hlt (hA _ e))]
    exact hc j m hj t v hv, hg⟩
/-! ### how many names are forgotten -/
def dayCnt (ns : List (Ky × C)) (d : Int) : Nat := (ns.filter fun q => decide (q.1.1 = d)).length
theorem inc_nd {α : Type} {c : α → α → Int} (h : Lin c) {l : List α} (hi : Inc c l) : l.Nodup := hi.imp fun {a b} hab e => by
  subst e
  rw [h.self] at hab
  omega
theorem dayNames_len {ns : List (Ky × C)} (hn : NoTwo ns) (d : Int) : (dayNames ns d).length = dayCnt ns d := by
  unfold dayNames dayCnt
  have hf := hn.filter fun q => decide (q.1.1 = d)
  have hd : ((ns.filter fun q => decide (q.1.1 = d)).map (·.1.2)).Nodup := by
    unfold List.Nodup
    rw [List.pairwise_map]
    have h1 : (ns.filter fun q => decide (q.1.1 = d)).Pairwise fun a b => a.1 ≠ b.1 := by
      unfold NoTwo List.Nodup at hf
      rw [List.pairwise_map] at hf
      exact hf
    refine h1.imp_of_mem fun {a b} ha hb hab e => hab ?_
    have ea := of_decide_eq_true (List.mem_filter.1 ha).2
    have eb := of_decide_eq_true (List.mem_filter.1 hb).2
    exact Prod.ext (ea.trans eb.symm) e
  have hp : (insAll kcmp ((ns.filter fun q => decide (q.1.1 = d)).map (·.1.2))).Perm ((ns.filter fun q => decide (q.1.1 = d)).map (·.1.2)) :=
    (List.perm_ext_iff_of_nodup (inc_nd kcmp_lin (insAll_inc kcmp_lin _)) hd).2 fun x => mem_insAll kcmp_lin _ _
  rw [hp.length_eq, List.length_map]
theorem kinds_cnt {l : List Ev} (h : ∀ e ∈ l, Apart e) (d : Int) : (namesM l 1 d d).length + (namesM l 2 d d).length + (namesM l 3 d d).length = dayCnt (namesL l) d := by
  rw [← dayNames_len (namesL_two l), dayNames_eq h]
  simp only [List.flatMap_cons, List.flatMap_nil, List.length_append, List.length_map, List.length_nil]
  omega
def lowCnt (ns : List (Ky × C)) (b d : Int) : Nat := if d < b then dayCnt ns d else 0
def sumN : List Nat → Nat
  | [] => 0
  | a :: r => a + sumN r
theorem sumN_append (a b : List Nat) : sumN (a ++ b) = sumN a + sumN b := by
  induction a with
  | nil => simp [sumN]
  | cons x r ih =>
    show x + sumN (r ++ b) = (x + sumN r) + sumN b
    rw [ih]; omega
theorem cnt_cons (q : Ky × C) (ns : List (Ky × C)) (b : Int) : ∀ {ds : List Int}, ds.Nodup → sumN (ds.map (lowCnt (q :: ns) b)) = sumN (ds.map (lowCnt ns b)) + (if q.1.1 < b ∧ q.1.1 ∈ ds then 1 else 0)
  | [], _ => by simp [sumN]
  | d :: ds, hn => by
    have hn' := List.nodup_cons.1 hn
    have ih := cnt_cons q ns b hn'.2
    rw [List.map_cons, List.map_cons]
    unfold sumN
    rw [ih]
    have h1 : lowCnt (q :: ns) b d = lowCnt ns b d + if q.1.1 < b ∧ q.1.1 = d then 1 else 0 := by
      unfold lowCnt dayCnt
      rw [List.filter_cons]
      by_cases e : q.1.1 = d
      · subst e
        simp only [decide_true, if_true, List.length_cons, and_true]
        split <;> simp
      · rw [decide_eq_false e]
        simp [e]
    rw [h1]
    by_cases hb : q.1.1 < b
    · by_cases e : q.1.1 = d
      · subst e
        simp [hb, hn'.1]
        omega
      · simp [hb, e]
        split <;> omega
    · simp [hb]
theorem forget_count (b : Int) {ds : List Int} (hd : ds.Nodup) : ∀ {ns : List (Ky × C)}, (∀ q ∈ ns, q.1.1 ∈ ds) → sumN (ds.map (lowCnt ns b)) + (fromDay b ns).length = ns.length
  | [], _ => by
    have : ∀ ds : List Int, sumN (ds.map (lowCnt [] b)) = 0 := fun ds => by
      induction ds with
      | nil => rfl
      | cons a r ih => rw [List.map_cons]; unfold sumN; rw [ih]; simp [lowCnt, dayCnt]
    simp [this, fromDay]
  | q :: ns, h => by
    have ih := forget_count b hd (ns := ns) fun x hx => h x (by simp [hx])
    rw [cnt_cons q ns b hd]
    have hq := h q (by simp)
    have hf : (fromDay b (q :: ns)).length = (fromDay b ns).length + if q.1.1 < b then 0 else 1 := by
      unfold fromDay
      rw [List.filter_cons]
      by_cases hb : q.1.1 < b
      · rw [if_neg (by simp; omega), if_pos hb, Nat.add_zero]
      · rw [if_pos (by simp; omega), if_neg hb, List.length_cons]
    rw [hf, List.length_cons]
    by_cases hb : q.1.1 < b
    · rw [if_pos ⟨hb, hq⟩, if_pos hb]; omega
    · rw [if_neg (fun h => hb h.1), if_neg hb]; omega
theorem fromDay_twice (b : Int) (ns : List (Ky × C)) : fromDay b (fromDay b ns) = fromDay b ns := by
  unfold fromDay
  rw [List.filter_filter]
  simp
/-- The kinds counted when the next one is q. -/
def kindC (f : Int → Nat) (q : Nat) : Nat := if q ≤ 1 then 0 else if q = 2 then f 1 else if q = 3 then f 1 + f 2 else f 1 + f 2 + f 3

set_option maxRecDepth 100000 in
set_option maxHeartbeats 16000000 in
theorem statsForget_walk (A : Option Addr) (c : Nat) (ms : List EvM) (before : Int) (w : World) (h : RdE w A ms) (hlc : ms.length ≤ c) (hc : c ≤ maxLen) (hL : ∀ m ∈ ms, LenM m) (hE : Env w) (hT : Tab w) :
    Calls Tryz.prog 4 #[.slice A ms.length c, i64 before] w fun e w' => e = .returned (.bool true) ∧ Below w.heap.size w w' := by
  have HT := Lib.hid hT
  have HK := Lib.hid (fun W (hb : Below w.heap.size w W) => known_any W (hE.below hb))
  have HF := Lib.hid (fun W (hb : Below w.heap.size w W) => few_any A c ms W (h.below hb) hL hlc hc)
  have HBd := Lib.hid (fun W (hb : Below w.heap.size w W) hF hlen => build_any A c ms W (h.below hb) hlc hc hF hlen (hE.below hb))
  have HAU := Lib.hid (fun m hm => (h.good m hm).au)
  have HGMi := Lib.hid h.good
  clear h hE hL hT
  go_enter Tryz.func4, Tryz.ntmps4
  go_wp2_with fail
  refine (HK.out _ (Below.refl _ _)).mono ?_; rintro e w1 ⟨rfl, b1⟩
  have B1 := Lib.hid b1; clear b1
  go_wp2_with fail
  refine (HF.out _ B1.out).mono ?_; rintro e w2 ⟨r, rfl, rfl, hr⟩
  cases r
  case false =>
    clear hr
    go_wp2_with fail
    refine (HK.out _ B1.out).mono ?_; rintro e w3 ⟨rfl, b3⟩
    have B3 := Lib.hid (B1.out.tr b3); clear b3
    go_wp2_with fail
    go_ret
    exact ⟨rfl, B3.out⟩
  obtain ⟨hF, hlen⟩ := hr rfl
  have HFew := Lib.hid hF
  clear hF hr HF HK
  go_wp2_with fail
  refine (HBd.out _ B1.out HFew.out (by omega)).mono ?_; rintro e w3 ⟨p, bd, bn, Ax, cx, rfl, hst, hrd, hlx, hcx, b3, hge, hlow⟩
  have hge3 := hge.2.2
  have HLW := Lib.hid hlow
  have hw1 := B1.out.size
  have hbnw : w.heap.size ≤ bn := by omega
  clear hlow hge hge3 hw1
  have ST := Lib.hid hst
  have X := Lib.hid hrd
  have B3 := Lib.hid (B1.out.tr b3)
  have hxl := okS_len ms
  have hgl := okS_good (ms := ms)
  have hau : ∀ e ∈ (okS ms).map (·.e), e.author.length = 16 := fun e he => by
    obtain ⟨m, hm, rfl⟩ := List.mem_map.1 he
    exact HAU.out m (List.mem_filter.1 hm).1
  have HGM := Lib.hid (show ∀ m ∈ okS ms, GoodM w m from fun m hm => HGMi.out m (List.mem_filter.1 hm).1)
  clear hst hrd b3 B1 HBd HFew HAU HGMi hlc hc
  generalize okS ms = lx at *
  obtain ⟨x, hx⟩ : ∃ x, lx.map (·.e) = x := ⟨_, rfl⟩
  have HXe := Lib.hid hx
  have HG := Lib.hid (show ∀ m ∈ lx, GoodE m.e from fun m hm => hgl _ (List.mem_map.2 ⟨m, hm, rfl⟩))
  have hxn : x.length = lx.length := by rw [← hx, List.length_map]
  unfold StE at ST
  rw [hx] at ST hgl hau
  clear hx
  have hap : ∀ e ∈ x, Apart e := fun e he => (hgl e he).apart
  have OKX := Lib.hid (textOk_of hgl hau (by omega))
  have TXB := Lib.hid (text_eq hap before)
  have KC := Lib.hid (kinds_cnt hap)
  have hdn : (daysM x).Nodup := inc_nd icmp_lin (daysM_inc x)
  have hin : ∀ q ∈ namesL x, q.1.1 ∈ daysM x := fun q hq => by
    obtain ⟨e, he, hk⟩ := (mem_keysL hap q.1).1 (List.mem_map.2 ⟨q, hq, rfl⟩)
    exact (mem_daysM x _).2 ⟨e, he, ((mem_keysE e q.1.1 q.1.2.1 q.1.2.2).1 hk).1.symm⟩
  have FC := Lib.hid (forget_count before hdn hin)
  have HNL := Lib.hid (fun k d => namesK_len (l := x) k d d hgl)
  have dS := Lib.hid ((daysL_bnd x hgl).small (by omega))
  have ldx := daysL_len x
  have lnx := namesL_len x hgl
  have HAll := Lib.hid (fun W (h : RdE W Ax lx) k a b => mAll_any Ax cx lx k a b W h HG.out hlx hcx (by omega))
  have HTM := Lib.hid (fun W (h : RdE W Ax lx) => mText_any Ax cx lx before W h HG.out hlx hcx (by omega))
  have HOf := Lib.hid (fun W (h : RdE W Ax lx) => mOf_any Ax cx lx 0 [] 0 80000 W h HG.out hlx hcx (by omega))
  have HDY := Lib.hid (fun W (h : RdE W Ax lx) => mDays_any Ax cx lx W h HG.out hlx hcx (by omega))
  rw [ofM_all HG.out] at HOf
  rw [HXe.out] at HAll HTM HOf HDY
  rw [← TXB.out] at HTM
  clear hap hdn hin hgl hau TXB
  go_wp2_with fail
  refine (HDY.out w3 X.out).mono ?_; rintro e w4 ⟨v, rfl, hown, b⟩
  obtain ⟨Ad, cd, rfl⟩ := own2_slice hown
  have hld := own2_le hown
  have hmd := own2_cap hown
  have RD := Lib.hid (RdC.of_own hown)
  have ST4 := Lib.hid (ST.out.below b)
  have X4 := Lib.hid (X.out.below b)
  have B4 := Lib.hid (B3.out.tr b)
  have hdm := daysM_len x
  clear hown b ST X B3 HDY
  generalize daysM x = ds at *
  unfold maxLen at hmd
  go_upto_block 0 with fail
  go_cut [8] (fun v8 wx => v8 = i64 (sumN (ds.map (lowCnt (namesL x) before)) : Nat) ∧ Hid (Below w4.heap.size w4 wx))
  case first =>
    go_wp2_with fail
    go_loopg [8, 10] ds.length (fun gg sv kv wr => ∃ i n : Nat, i ≤ ds.length ∧ ds.length - i ≤ gg ∧ kv = i64 i ∧ sv = i64 n ∧ n ≤ 100000 * i ∧ Hid (n = sumN ((ds.take i).map (lowCnt (namesL x) before))) ∧ Hid (Below w4.heap.size w4 wr))
    case atStart => exact ⟨0, 0, by omega, by omega, rfl, rfl, by omega, Lib.hid rfl, Lib.hid (Below.refl _ _)⟩
    case round =>
      obtain ⟨i, n, hi, hgi, rfl, rfl, hnb, HN, S⟩ := hrel
      by_cases hlt : i < ds.length
      · obtain ⟨d, hd⟩ : ∃ d, ds[i]? = some d := ⟨_, List.getElem?_eq_getElem hlt⟩
        obtain ⟨b, od, hA, cdx⟩ := RdC.cell (RdC.below RD.out S.out) (j := i) (v := i64 d) (by rw [List.getElem?_map, hd]; rfl)
        subst hA
        have CD0 := Lib.hid cdx
        have FT : Hid (sumN ((ds.take (i + 1)).map (lowCnt (namesL x) before)) = n + lowCnt (namesL x) before d) := Lib.hid (by
          (show _ = _)
          rw [take_snoc hd, List.map_append, sumN_append, ← show n = _ from HN.out]
          simp [sumN])
        have HL3 := Lib.hid (fun k : Int => (show (namesM x k d d).length ≤ 2000 by
          have h1 := insAll_length scmp (namesK x k d d)
          have h2 := HNL.out k d
          unfold namesM
          omega))
        have KD := Lib.hid (KC.out d)
        have X5 := Lib.hid (X4.out.below S.out)
        clear cdx hd HN
        go_wp2_with fail
        go_loopg [8, 11] 4 (fun gg sv kv wq => ∃ (q m : Nat), 1 ≤ q ∧ q ≤ 4 ∧ 4 - q ≤ gg ∧ (d < before ∨ q = 1) ∧ kv = i64 q ∧ sv = i64 m ∧ m ≤ n + 2000 * (q - 1) ∧ Hid (m = n + kindC (fun k => (namesM x k d d).length) q) ∧ Hid (Below wr.heap.size wr wq))
        case atStart => exact ⟨1, n, by omega, by omega, by omega, .inr rfl, rfl, rfl, by omega, Lib.hid (by (show n = _); simp [kindC]), Lib.hid (Below.refl _ _)⟩
        case round =>
          obtain ⟨q, m, hq1, hq4, hgq, hbq, rfl, rfl, hmb, HM, S2⟩ := hrel
          have cdy := Below.cellv S2.out CD0.out
          by_cases hq3 : q ≤ 3
          case neg =>
            obtain rfl : q = 4 := by omega
            have hbd : d < before := by omega
            have FIN : Hid (m = sumN ((ds.take (i + 1)).map (lowCnt (namesL x) before))) := Lib.hid (by
              (show _ = _)
              rw [FT.out, HM.out]
              unfold lowCnt
              rw [if_pos hbd, ← KD.out]
              rfl)
            have hm2 : m ≤ 100000 * (i + 1) := by omega
            clear HM FT hbd hbq
            go_wp2_with fail
            clear cdy
            go_roundg (ds.length - (i + 1))
            case measure => omega
            case rel => exact ⟨i + 1, m, by omega, by omega, by go_num, rfl, hm2, FIN, Lib.hid (S.out.tr S2.out)⟩
          have hk3 : decide ((q : Int) ≤ 3) = true := decide_eq_true (by omega)
          by_cases hbd : d < before
          case neg =>
            obtain rfl : q = 1 := by omega
            have hbf : decide (d < before) = false := decide_eq_false hbd
            have FIN : Hid (m = sumN ((ds.take (i + 1)).map (lowCnt (namesL x) before))) := Lib.hid (by
              (show _ = _)
              rw [FT.out, HM.out]
              unfold lowCnt
              rw [if_neg hbd]
              simp [kindC])
            have hm2 : m ≤ 100000 * (i + 1) := by omega
            clear HM FT hbq
            go_wp2_with fail
            clear cdy
            go_roundg (ds.length - (i + 1))
            case measure => omega
            case rel => exact ⟨i + 1, m, by omega, by omega, by go_num, rfl, hm2, FIN, Lib.hid (S.out.tr S2.out)⟩
          have hbt : decide (d < before) = true := decide_eq_true hbd
          have HAL := Lib.hid (fun W (h : RdE W Ax lx) => HAll.out W h q d d)
          have hl3 := HL3.out q
          have X6 := Lib.hid (X5.out.below S2.out)
          obtain ⟨N, hN⟩ : ∃ N, (namesM x q d d).length = N := ⟨_, rfl⟩
          have HNe := Lib.hid hN
          rw [hN] at hl3 HAL
          clear hN
          have HM2 : Hid (m + N = n + kindC (fun k => (namesM x k d d).length) (q + 1)) := Lib.hid (by
            (show _ = _)
            rw [HM.out, ← HNe.out]
            rcases (by omega : q = 1 ∨ q = 2 ∨ q = 3) with rfl | rfl | rfl <;> simp [kindC] <;> omega)
          clear HM
          go_wp2_with fail
          refine Flow.wp_region_segs Flow.Later Flow.Later.refl Flow.Later.trans [([0, 1, 2, 3, 4, 5, 6, 7, 8, 9, 10], 11)] [12, 13, 14] (by kernel_rfl) (by kernel_rfl) ?_
          have b' : Below wr.heap.size wr (World.drew wr) := (Below.refl _ _).drew
          have X1 := Lib.hid (X6.out.below b'); clear X6
          have B1 := Lib.hid b'
          clear b'
          generalize World.drew _ = w1 at *
          have cd0 := Below.cellv (B1.out.tr (by first | exact Below.refl _ _ | exact below_new _ _)) cdy
          have qd0 : ∀ t : Flow.Cls (Flow.Later w1), t.val.cell? _ = some (i64 d) := fun t => Flow.cls_cell cd0 t
          haveI nonE := Flow.cls_nonempty w1
          rw [Flow.wpSegs_cons]
          simp only [Flow.pick, List.getElem?_toArray, List.getElem?_cons_succ, List.getElem?_cons_zero]
          repeat go_big_quiet_step (fail)
          refine wpQuiet_nil ?_
          clear nonE qd0 cd0
          rw [Flow.callAt_eq]
          simp only [List.getElem?_toArray, List.getElem?_cons_succ, List.getElem?_cons_zero]
          rw [if_pos (by rfl)]
          refine Flow.wp_behind (fun K0 hK => ?_)
          go_wp2_with fail
          refine (HAL.out _ (X1.out.below (by first | exact Below.refl _ _ | exact below_new _ _))).mono ?_; rintro e w2 ⟨v3, rfl, hown, b⟩
          have b' : Below w1.heap.size w1 w2 := Below.tr (by first | exact Below.refl _ _ | exact below_new _ _) b
          clear b
          refine hK.out _ _ ⟨b', ?_⟩
          clear hK K0
          have X2 := Lib.hid (X1.out.below b'); clear X1
          have B2 := Lib.hid (B1.out.tr b'); clear B1
          clear b'
          obtain ⟨A3, c3, rfl⟩ := own2_slice hown
          have hl3' := own2_le hown
          have hm3 := own2_cap hown
          clear hown
          haveI nonE := Flow.cls_nonempty w2
          rw [Flow.wpSegs_nil]
          simp only [Flow.pick, List.getElem?_toArray, List.getElem?_cons_succ, List.getElem?_cons_zero]
          repeat go_big_quiet_step (fail)
          refine wpQuiet_nil ?_
          clear nonE 
          have S3 := Lib.hid (S2.out.tr B2.out)
          clear B2 X2 cdy HAL S2
          go_wp2_with fail
          go_roundg (4 - (q + 1))
          case measure => omega
          case rel => exact ⟨q + 1, m + N, by omega, by omega, by omega, .inl hbd, by go_num, by go_num, by omega, HM2, S3⟩
      · obtain rfl : i = ds.length := by omega
        rw [List.take_length] at HN
        have HN2 := HN.out
        subst HN2
        go_wp2_with fail
        go_meet
        exact ⟨rfl, S⟩
  obtain ⟨rfl, S⟩ := hcut
  have FN := FC.out
  have hnm : ((namesL x).length : Int) - ((fromDay before (namesL x)).length : Nat) = (sumN (ds.map (lowCnt (namesL x) before)) : Nat) := by omega
  have hsn : sumN (ds.map (lowCnt (namesL x) before)) ≤ 100000 := by omega
  generalize sumN (ds.map (lowCnt (namesL x) before)) = N at *
  have ST5 := Lib.hid (ST4.out.below S.out)
  have X5 := Lib.hid (X4.out.below S.out)
  have B5 := Lib.hid (B4.out.tr S.out)
  clear S ST4 X4 B4 FC FN
  have hbb : ∀ a, Ax = some a → a.block ∉ [bn] := fun a ha => by
    have := (HLW.out a ha).2.2
    simp; omega
  have HBB := Lib.hid hbb
  clear hbb
  obtain ⟨T, hTe⟩ : ∃ T, textP (daysL x) (fromDay before (namesL x)) (sizesL x) = T := ⟨_, rfl⟩
  have PT := Lib.hid (fun W (h : StM W p bd bn (daysL x) (fromDay before (namesL x)) (sizesL x)) hT => (OKX.out.from before).any p bd bn W h hT)
  rw [hTe] at PT HTM
  clear hTe
  have e1 : (T == T) = true := by simp
  have eN : ((N : Int) == N) = true := by simp
  go_wp2_with fail
  refine (forget_any p bd bn _ _ _ before wc ST5.out (by omega)).mono ?_; rintro e u1 ⟨rfl, hst, hb⟩
  rw [hnm]
  have ST6 := Lib.hid hst
  have B6 := Lib.hid (B5.out.trans (hb.toBelow (B := w.heap.size) B5.out.size (by simp; omega)))
  have X6 := Lib.hid (X5.out.but hb HBB.out fun m hm => (HGM.out m hm).below B6.out)
  clear hst hb ST5 X5 B5
  go_wp2_with fail
  refine (PT.out u1 ST6.out (HT.out.below B6.out)).mono ?_; rintro e u2 ⟨rfl, b⟩
  have ST7 := Lib.hid (ST6.out.below b)
  have X7 := Lib.hid (X6.out.below b)
  have B7 := Lib.hid (B6.out.tr b)
  clear b ST6 X6 B6 PT
  go_wp2_with fail
  refine (HTM.out u2 X7.out).mono ?_; rintro e u3 ⟨rfl, b⟩
  have ST8 := Lib.hid (ST7.out.below b)
  have X8 := Lib.hid (X7.out.below b)
  have B8 := Lib.hid (B7.out.tr b)
  clear b ST7 X7 B7 HTM
  go_wp2_with fail
  refine (total_any p bd bn _ _ _ u3 ST8.out dS.out (by omega)).mono ?_; rintro e u4 ⟨rfl, b⟩
  have ST9 := Lib.hid (ST8.out.below b)
  have X9 := Lib.hid (X8.out.below b)
  have B9 := Lib.hid (B8.out.tr b)
  clear b ST8 X8 B8
  rw [total_days]
  generalize sumE x = s at *
  obtain ⟨s1, s2⟩ := s
  dsimp only [cV] at HOf ⊢
  go_wp2_with fail
  refine (HOf.out u4 X9.out).mono ?_; rintro e u5 ⟨rfl, b⟩
  have ST10 := Lib.hid (ST9.out.below b)
  have B10 := Lib.hid (B9.out.tr b)
  clear b ST9 X9 B9 HOf
  go_wp2_with fail
  refine (forget_any p bd bn _ _ _ before u5 ST10.out (by have := List.length_filter_le (fun q : Ky × C => decide (before ≤ q.1.1)) (namesL x); unfold fromDay; omega)).mono ?_; rintro e u6 ⟨rfl, hst, hb⟩
  rw [fromDay_twice, Int.sub_self]
  have B11 := Lib.hid (B10.out.trans (hb.toBelow (B := w.heap.size) B10.out.size (by simp; omega)))
  clear hst hb ST10 B10
  go_wp2_with fail
  go_ret
  exact ⟨by simp, B11.out⟩
end Go.Proofs.YthgefcoaaommkaaGreatDoor
