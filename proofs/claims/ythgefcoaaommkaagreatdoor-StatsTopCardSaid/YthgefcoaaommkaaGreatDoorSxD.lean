/- The program's Top. -/
import Derived.Test.YthgefcoaaommkaaGreatDoorSxC
import Derived.Test.YthgefcoaaommkaaGreatDoorZc
import Derived.Test.YthgefcoaaommkaaGreatDoorZa
import Derived.Deep.CutBlock
namespace Go.Proofs.YthgefcoaaommkaaGreatDoor
open Go.RowKit Go.Gn Go.Sr Go.Maps Go.Sort

set_option maxRecDepth 100000 in
set_option maxHeartbeats 2000000 in
theorem top_kind (p : Nat) (kind x y most : Int) (w : World) (hk : kind < 1 ∨ 3 < kind) :
    Calls Tryz.prog 12 #[.pointer (some ⟨p, 0, none⟩), i64 kind, i64 x, i64 y, i64 most] w fun e w' => e = .returned (.tuple #[.slice none 0 0, i64 11]) ∧ w' = w := by
  by_cases h1 : kind < 1
  · go_enter Tryz.func12, Tryz.ntmps12
    have d1 : decide (kind < 1) = true := decide_eq_true h1
    go_wp2_with fail
    exact bodyPost_ret (v := .tuple #[.slice none 0 0, i64 11]) (by simp [results, Tryz.results12, go_sem]) rfl ⟨rfl, rfl⟩
  · have h2 : 3 < kind := hk.resolve_left h1
    go_enter Tryz.func12, Tryz.ntmps12
    have d1 : decide (kind < 1) = false := decide_eq_false h1
    have d2 : decide (3 < kind) = true := decide_eq_true h2
    go_wp2_with fail
    exact bodyPost_ret (v := .tuple #[.slice none 0 0, i64 11]) (by simp [results, Tryz.results12, go_sem]) rfl ⟨rfl, rfl⟩
set_option maxRecDepth 100000 in
set_option maxHeartbeats 2000000 in
theorem top_range (p : Nat) (kind x y most : Int) (w : World) (hk : 1 ≤ kind ∧ kind ≤ 3) (hm : most < 0) :
    Calls Tryz.prog 12 #[.pointer (some ⟨p, 0, none⟩), i64 kind, i64 x, i64 y, i64 most] w fun e w' => e = .returned (.tuple #[.slice none 0 0, i64 2]) ∧ w' = w := by
  have d1 : decide (kind < 1) = false := decide_eq_false (by omega)
  have d2 : decide (3 < kind) = false := decide_eq_false (by omega)
  have d3 : decide (most < 0) = true := decide_eq_true hm
  go_enter Tryz.func12, Tryz.ntmps12
  go_wp2_with fail
  exact bodyPost_ret (v := .tuple #[.slice none 0 0, i64 2]) (by simp [results, Tryz.results12, go_sem]) rfl ⟨rfl, rfl⟩

set_option maxRecDepth 100000 in
set_option maxHeartbeats 16000000 in
theorem top_any (p bd bn : Nat) (ds : List (Int × C)) (ns : List (Ky × C)) (zs : List Int) (kind x y most : Int) (w : World) (h : StM w p bd bn ds ns zs) (hs : ∀ q ∈ ns, smallC q.2) (hnn : ns.length ≤ 100000) (hk : 1 ≤ kind ∧ kind ≤ 3) (hmost : 0 ≤ most) :
    Calls Tryz.prog 12 #[.pointer (some ⟨p, 0, none⟩), i64 kind, i64 x, i64 y, i64 most] w fun e w' => ∃ (A' : Option Addr) (c' : Nat) (L : List (Ky × C)) (xs : List Ent1), e = .returned (.tuple #[.slice A' (min xs.length most.toNat) c', i64 0]) ∧ min xs.length most.toNat ≤ c' ∧ c' ≤ maxLen ∧ L.Perm ns ∧ xs.Perm (sumsT kind x y L) ∧ (xs.Pairwise fun a b => ecmp a b ≤ 0) ∧ RdC w' A' ((xs.take most.toNat).flatMap entL) ∧ Below w.heap.size w w' := by
  have hpl := h.lp
  have hnl := h.ln
  have H0 := Lib.hid h
  have HS := Lib.hid hs
  have d1 : decide (kind < 1) = false := decide_eq_false (by omega)
  have d2 : decide (3 < kind) = false := decide_eq_false (by omega)
  have d3 : decide (most < 0) = false := decide_eq_false (by omega)
  clear h hs
  have BM := Lib.hid (below_new w (.map #[] 0))
  have G0 := Lib.hid (MapA.made strK w)
  have hc1 := (H0.out.below BM.out).c1
  have H1 := Lib.hid (H0.out.below BM.out).mn
  have hmm := @run_makeMap Tryz.prog
  go_enter Tryz.func12, Tryz.ntmps12
  go_upto_block 1 with (first | (at_range; refine wpList_range_a _ rfl _ 70 rfl nameK 34 Tryz.underlying70 bn ns rfl H1.out ?_; intro w0 hrg0 hg0 hs0) | go_in)
  try go_frame
  have e1 : (w.alloc (.map #[] 0)).heap.size = w.heap.size + 1 := by simp
  have b0 : Below (w.alloc (.map #[] 0)).heap.size (w.alloc (.map #[] 0)) w0 := (Below.refl _ _).grown hg0 (Nat.le_refl _) (fun k hk => by cases hk)
  have M0 := Lib.hid (G0.out.below b0)
  have B0 := Lib.hid (BM.out.tr b0)
  rw [e1] at hrg0 hs0 ⊢
  have R0 := Lib.hid hrg0
  clear b0 e1 hg0 hs0 hrg0 G0 H1 BM hc1
  go_cut [] (fun wx => ∃ done : List (Ky × C), Hid (done.Perm ns) ∧ Hid (MapA strK wx w.heap.size (sumsT kind x y done)) ∧ Hid (Below w.heap.size w wx))
  case first =>
    go_wp2_with fail
    go_loopg [13] ns.length (fun gg kv wr => ∃ done : List (Ky × C), ns.length - done.length ≤ gg ∧ Hid (RngA nameK wr bn (w.heap.size + 1) ns done) ∧ Hid (MapA strK wr w.heap.size (sumsT kind x y done)) ∧ Hid (Below w.heap.size w wr))
    case atStart => exact ⟨[], by simp, R0, M0, B0⟩
    case round =>
      obtain ⟨done, hgg, R, M, B⟩ := hrel
      go_wp2_with (first | (at_next; refine wpList_next_name rfl _ rfl bn (w.heap.size + 1) ns done rfl R.out ?_ ?_) | go_in)
      · intro hp
        go_wp2_with fail
        go_meet
        exact ⟨done, Lib.hid hp, M, B⟩
      · intro x1 x2 x3 c1 c2 w1 hmem hnd hwf R4 hg4 hs4 hen
        have hlen4 := R4.len
        simp only [List.length_append, List.length_singleton] at hlen4
        have M1 := Lib.hid (M.out.kept hg4 (by intro e; injection e with e; omega))
        have B1 := Lib.hid (B.out.trans ((Below.refl w.heap.size _).grown hg4 B.out.size (fun k e => by cases e; omega)))
        have hcs := HS.out _ hmem
        have hwx : x3.length ≤ maxLen := hwf.2.2
        have HSD := Lib.hid (R.out.sub)
        have HSN := Lib.hid (sumsT_snoc kind x y done ((x1, x2, x3), (c1, c2)))
        have hsl := sumsT_len kind x y done
        have R1 := Lib.hid R4
        have b1 := Lib.hid ((below_new w1 (.cells #[i64 x1, i64 x2, enS x3] 74)).tr (below_new _ (.cells #[i64 c1, i64 c2] 34)))
        have M2 := Lib.hid (M1.out.below b1.out)
        have R2 := Lib.hid (R1.out.below b1.out)
        have B2 := Lib.hid (B1.out.tr b1.out)
        clear hmem hnd hwf R4 hg4 hs4 R B M M1 R1 B1
        by_cases hk2 : x2 = kind
        case neg =>
          have hkd : decide (x2 = kind) = false := decide_eq_false hk2
          have hkb : (x2 == kind) = false := by simp [hk2]
          have hpf : pickT kind x y (x1, x2, x3) = false := by unfold pickT; simp only; rw [hkd, Bool.false_and, Bool.false_and]
          have HSU : Hid (sumsT kind x y (done ++ [((x1, x2, x3), (c1, c2))]) = sumsT kind x y done) := Lib.hid (by rw [HSN.out, hpf, if_neg Bool.false_ne_true])
          clear hpf
          go_wp2_with fail
          go_roundg (ns.length - (done.length + 1))
          case measure => omega
          case rel => exact ⟨done ++ [((x1, x2, x3), (c1, c2))], by simp, R2, by rw [HSU.out]; exact M2, B2⟩
        have hkd : decide (x2 = kind) = true := decide_eq_true hk2
        have hkb : (x2 == kind) = true := by simp [hk2]
        clear hk2
        by_cases ha : x ≤ x1
        case neg =>
          have had : decide (x ≤ x1) = false := decide_eq_false ha
          have hpf : pickT kind x y (x1, x2, x3) = false := by unfold pickT; simp only; rw [hkd, had, Bool.and_false, Bool.false_and]
          have HSU : Hid (sumsT kind x y (done ++ [((x1, x2, x3), (c1, c2))]) = sumsT kind x y done) := Lib.hid (by rw [HSN.out, hpf, if_neg Bool.false_ne_true])
          clear hpf
          go_wp2_with fail
          go_roundg (ns.length - (done.length + 1))
          case measure => omega
          case rel => exact ⟨done ++ [((x1, x2, x3), (c1, c2))], by simp, R2, by rw [HSU.out]; exact M2, B2⟩
        have had : decide (x ≤ x1) = true := decide_eq_true ha
        by_cases hb : x1 ≤ y
        case neg =>
          have hbd : decide (x1 ≤ y) = false := decide_eq_false hb
          have hpf : pickT kind x y (x1, x2, x3) = false := by unfold pickT; simp only; rw [hbd, Bool.and_false]
          have HSU : Hid (sumsT kind x y (done ++ [((x1, x2, x3), (c1, c2))]) = sumsT kind x y done) := Lib.hid (by rw [HSN.out, hpf, if_neg Bool.false_ne_true])
          clear hpf
          go_wp2_with fail
          go_roundg (ns.length - (done.length + 1))
          case measure => omega
          case rel => exact ⟨done ++ [((x1, x2, x3), (c1, c2))], by simp, R2, by rw [HSU.out]; exact M2, B2⟩
        have hbd : decide (x1 ≤ y) = true := decide_eq_true hb
        have hpf : pickT kind x y (x1, x2, x3) = true := by unfold pickT; simp only; rw [hkd, had, hbd]; simp
        have HSU := Lib.hid HSN.out
        rw [hpf, if_pos rfl] at HSU
        have hsok : okC ((getA (sumsT kind x y done) x3).getD (0, 0)) := by
          rw [getA_sumsT]
          split
          · rw [Option.getD_some]
            refine sumP_ok (sub_small HS.out HSD.out) ?_
            omega
          · simp [okC]
        clear hpf HSN HSD ha hb
        unfold addA at HSU
        obtain ⟨S, hS⟩ : ∃ q, sumsT kind x y done = q := ⟨_, rfl⟩
        rw [hS] at M2 hsl hsok
        simp only [hS] at HSU
        obtain ⟨s, hs⟩ : ∃ q, (getA S x3).getD (0, 0) = q := ⟨_, rfl⟩
        rw [hs] at hsok HSU
        have HGS := Lib.hid hs
        clear hS hs
        go_wp2_with fail
        have KB := Lib.hid (blk_below (below_new (w1.alloc (.cells #[i64 x1, i64 x2, enS x3] 74)) (.cells #[i64 c1, i64 c2] 34)) (blk_new w1 (.cells #[i64 x1, i64 x2, enS x3] 74)))
        have CB : Hid (((w1.alloc (.cells #[i64 x1, i64 x2, enS x3] 74)).alloc (.cells #[i64 c1, i64 c2] 34)).heap[w1.heap.size + 1]? = some (.cells #[i64 c1, i64 c2] 34)) := Lib.hid (by have := blk_new (w1.alloc (.cells #[i64 x1, i64 x2, enS x3] 74)) (.cells #[i64 c1, i64 c2] 34); simpa using this)
        refine Flow.wp_region_pre (KeepT w.heap.size [w1.heap.size, w1.heap.size + 1, w.heap.size]) (KeepT.refl _ _) (fun _ _ _ h k => h.trans k) [9] (.held [0, 1, 2, 3, 4, 5, 6, 7] (.call 8 (.tail (.step [] 9 (.done []))))) (by kernel_rfl) (by kernel_rfl) ?_
        have b' : Below ((w1.alloc (.cells #[i64 x1, i64 x2, enS x3] 74)).alloc (.cells #[i64 c1, i64 c2] 34)).heap.size ((w1.alloc (.cells #[i64 x1, i64 x2, enS x3] 74)).alloc (.cells #[i64 c1, i64 c2] 34)) (World.drew ((w1.alloc (.cells #[i64 x1, i64 x2, enS x3] 74)).alloc (.cells #[i64 c1, i64 c2] 34))) := (Below.refl _ _).drew
        have M5 := Lib.hid (M2.out.below b')
        have R5 := Lib.hid (R2.out.below b')
        have B5 := Lib.hid (B2.out.tr b')
        have K5 := Lib.hid (blk_below b' KB.out)
        have C5 := Lib.hid (blk_below b' CB.out)
        clear b' M2 R2 B2 KB CB
        obtain ⟨kb, hkb2⟩ : ∃ n, w1.heap.size = n := ⟨_, rfl⟩
        generalize World.drew ((w1.alloc (.cells #[i64 x1, i64 x2, enS x3] 74)).alloc (.cells #[i64 c1, i64 c2] 34)) = wd at *
        simp only [hkb2] at K5 C5 ⊢
        have k2 := blk_cell K5.out 2
        have q2 := fun t => KeepT.cell (B := w.heap.size) (K := [kb, kb + 1, w.heap.size]) (by simp) k2 t
        have HC : Hid (∀ u : World, (∃ s : Flow.Cls (KeepT w.heap.size [kb, kb + 1, w.heap.size] wd), u = s.val) → u.rangeAt (kb + 1) 0 [i64 c1, i64 c2]) := by
          (show ∀ u : World, (∃ s : Flow.Cls (KeepT w.heap.size [kb, kb + 1, w.heap.size] wd), u = s.val) → u.rangeAt (kb + 1) 0 [i64 c1, i64 c2])
          rintro u ⟨s, rfl⟩
          exact range_blk (cs := [i64 c1, i64 c2]) ((s.2.2 (kb + 1) (by simp)).trans C5.out)
        haveI nonE := cls_keep (B := w.heap.size) (K := [kb, kb + 1, w.heap.size]) wd
        rw [Flow.wpPre_held]
        simp only [Flow.pick, List.getElem?_toArray, List.getElem?_cons_succ, List.getElem?_cons_zero]
        iterate 6 go_big_quiet_step (fail)
        refine BigFrame.wpQuiet_want rfl (fun K hK => quiet_lookup_r _ _ 68 rfl strK 34 Tryz.underlying68 (.agg #[i64 0, i64 0]) (fun w => by kernel_rfl) w.heap.size S rfl (fun _ he => by obtain ⟨t, rfl⟩ := he; exact M5.out.keep (t.2.2 _ (by simp))) x3 hwx rfl (cV s) (by rw [← HGS.out]; cases getA S x3 <;> rfl) (hK _ ?_))
        clear hK K
        simp only [Act.put, List.setIfInBounds_toArray, List.set_cons_succ, List.set_cons_zero]
        refine BigFrame.wpQuiet_want rfl (fun K hK => quiet_load_mid 34 _ rfl (kb + 1) 0 rfl [i64 c1, i64 c2] _ HC.out Tryz.underlying34 rfl (by kernel_rfl) (hK _ ?_))
        clear hK K
        simp only [Act.put, List.setIfInBounds_toArray, List.set_cons_succ, List.set_cons_zero]
        refine wpQuiet_nil ?_
        clear nonE q2 k2 HC
        rw [Flow.wpPre_call, Flow.callAt_eq]
        simp only [List.getElem?_toArray, List.getElem?_cons_succ, List.getElem?_cons_zero]
        rw [if_pos (by rfl)]
        refine Flow.wp_behind (fun K hK => ?_)
        go_wp2_with fail
        refine (plus_any s (c1, c2) wd hsok hcs.ok).mono ?_; rintro e w6 ⟨rfl, b6⟩
        have hks : kb < wd.heap.size := blk_lt K5.out
        have hcs2 : kb + 1 < wd.heap.size := blk_lt C5.out
        have hbs : w.heap.size < wd.heap.size := M5.out.lt
        refine hK.out _ _ ⟨KeepT.of_below b6 (by omega) (by simp; omega), ?_⟩
        clear hK K
        have M6 := Lib.hid (M5.out.below b6)
        have R6 := Lib.hid (R5.out.below b6)
        have B6 := Lib.hid (B5.out.tr b6)
        clear b6 M5 R5 B5 K5 C5
        rw [Flow.wpPre_tail, Flow.wpSched_step]
        simp only [Flow.pick]
        refine wpQuiet_nil ?_
        rw [Flow.callAt_eq]
        simp only [List.getElem?_toArray, List.getElem?_cons_succ, List.getElem?_cons_zero]
        rw [if_pos (by rfl)]
        refine Flow.wp_behind (fun K hK => ?_)
        refine wp_mapUpdate_a w6 _ _ _ 68 rfl strK 34 Tryz.underlying68 w.heap.size S rfl M6.out (by unfold maxLen; omega) x3 hwx (plus s (c1, c2)) rfl rfl ?_
        intro w10 hm10 hg10
        refine hK.out _ _ ⟨trivial, ?_⟩
        clear hK K
        have M10 : Hid (MapA strK w10 w.heap.size (sumsT kind x y (done ++ [((x1, x2, x3), (c1, c2))]))) := Lib.hid (by rw [HSU.out]; exact hm10)
        have R10 := Lib.hid (R6.out.kept hg10 (by intro e; injection e with e; omega) (by intro e; injection e with e; omega))
        have B10 := Lib.hid (B6.out.trans ((Below.refl w.heap.size _).grown hg10 B6.out.size (fun k e => by cases e; omega)))
        clear hm10 hg10 R6 M6 B6
        rw [Flow.wpSched_done]
        simp only [Flow.pick, Act.put]
        refine wpQuiet_nil ?_
        go_wp2_with fail
        go_roundg (ns.length - (done.length + 1))
        case measure => omega
        case rel => exact ⟨done ++ [((x1, x2, x3), (c1, c2))], by simp, R10, M10, B10⟩
  obtain ⟨done, hp, M, B⟩ := hcut
  have hsl := sumsT_len kind x y done
  have hpl2 := hp.out.length_eq
  apply_assumption
  exact Flow.wp_of_rest (n := 4) (f := Tryz.f12) rfl (topTail4 p w.heap.size (sumsT kind x y done) ns done kind x y most w _ B.out (Nat.le_refl _) M.out (by omega) hp.out rfl hmost)
  end Go.Proofs.YthgefcoaaommkaaGreatDoor
