/- Contract of the reference's insert: a name is put into a sorted list. -/
import Derived.Test.YtcagooijkecmoaaDoorGnRef3
import Derived.Deep.DeepCutAuto
import Derived.Test.YtcagooijkecmoaaDoorFork
namespace Go.Proofs.YtcagooijkecmoaaDoor
open Go.RowKit Go.Gn

/-- out = append(out, xs...): what is no block of out's own is as it was. -/
theorem run_appG (w : World) (ty : TypeId) (base : Nat) (v : Value) (out : List (List UInt8)) (hown : w.ownsRow base 9 1 v out.length (out.map enS)) (A : Option Addr) (c : Nat) (xs : List (List UInt8)) (hr : Rd w A xs)
    (hlen : out.length + xs.length ≤ 1000000000) (hbase : base ≤ w.heap.size) :
    ∃ v' w', (Builtin.append_ #[24, 24] ty #[v, .slice A xs.length c]).run Tryd.prog w = .ok v' w' ∧ w'.ownsRow base 9 1 v' (out ++ xs).length ((out ++ xs).map enS) ∧ w.grownBy w' v.ownBlock := by
  obtain ⟨i0, hi, hz0, hz1, hz2⟩ := info_parts str_info
  by_cases hx : xs = []
  · subst hx
    rcases A with _ | ad
    · refine ⟨v, w, ?_, by simpa using hown, ⟨rfl, rfl, rfl, Nat.le_refl _, fun _ _ _ => rfl⟩⟩
      rcases hown.2 with ⟨rfl, h0⟩ | ⟨g, cap, cur, rfl, _, _, hnc, _⟩
      · simp [Builtin.append_, run_underlying Tryd.underlying24, sizeOf, typeInfo, hi, Builtin.lenOf, Builtin.firstCells]
      · simp [Builtin.append_, run_underlying Tryd.underlying24, sizeOf, typeInfo, hi, Builtin.lenOf, Builtin.firstCells, hnc, storeCells]
    · obtain ⟨v', w', h1, h2, h3, _⟩ := run_append_own (P := Tryd.prog) w base 24 ty 9 i0 (.string ByteArray.empty) 1 16 Tryd.underlying24 hi hz0 hz1 hz2 rfl (by decide) v out.length (out.map enS) hown ad 0 c [] rfl (fun j u hu => by simp at hu) (fun u hu => by simp at hu) (by simp only [maxLen]; omega) (by omega) hbase
      exact ⟨v', w', h1, by simpa using h2, h3⟩
  · obtain ⟨b, o, rfl, hb, hc⟩ := hr (List.length_pos_iff.2 hx)
    obtain ⟨v', w', h1, h2, h3, _⟩ := run_append_own (P := Tryd.prog) w base 24 ty 9 i0 (.string ByteArray.empty) 1 16 Tryd.underlying24 hi hz0 hz1 hz2 rfl (by decide) v out.length (out.map enS) hown ⟨b, o, none⟩ xs.length c (xs.map enS) (by simp) (by
      intro j u hu
      rw [List.getElem?_map] at hu
      cases hj : xs[j]? with
      | none => rw [hj] at hu; cases hu
      | some x =>
        rw [hj] at hu
        cases hu
        rw [addr_add]; exact hc j x hj) (texts_one xs) (by simp only [maxLen]; omega) (by omega) hbase
    exact ⟨v', w', h1, by simpa using h2, h3⟩
/-- One append as an operation of a region. -/
theorem wp_appN {o : Oper} {a : Act} {w : World} {K : Act → World → Prop} {Q : Exit → Act → World → Prop} (s x : Operand) (ho : o.op = .call { callee := .builtin .append, args := #[s, x], argTypes := #[24, 24] })
    (base : Nat) (v : Value) (out : List (List UInt8)) (hown : w.ownsRow base 9 1 v out.length (out.map enS)) (A : Option Addr) (n c : Nat) (xs : List (List UInt8)) (hn : n = xs.length) (hr : Rd w A xs) (hs : a.eval s = v) (hx : a.eval x = .slice A n c)
    (hlen : out.length + xs.length ≤ 1000000000) (hbase : base ≤ w.heap.size)
    (h : ∀ v' w', w'.ownsRow base 9 1 v' (out ++ xs).length ((out ++ xs).map enS) → Below base w w' → w.grownBy w' v.ownBlock → K (a.put o.dst v') w') : o.wp Tryd.prog a w K Q := by
  subst hn
  obtain ⟨v', w', hr, h2, h3⟩ := run_appG w o.type base v out hown A c xs hr hlen hbase
  unfold Oper.wp execOp
  simp only [ho, resolve, invoke, builtin, Sem.run_bind, Sem.run_pure, Result.andThen_ok, List.map_toArray, List.map_cons, List.map_nil, hs, hx, hr]
  exact h v' w' h2 ((Below.refl base w).grown h3 hbase fun k hk => (hown.lt k hk).1) h3
theorem Rd.grown {w w' : World} {g : Nat} {xs : List (List UInt8)} {row : Option Nat} (h : Rd w (some ⟨g, 0, none⟩) xs) (hg : w.grownBy w' row) (hne : some g ≠ row) : Rd w' (some ⟨g, 0, none⟩) xs := fun hl => by
  obtain ⟨b, o, e, hlt, hc⟩ := h hl
  cases e
  exact ⟨_, _, rfl, Nat.lt_of_lt_of_le hlt hg.size, fun j x hj => hg.cell (hc j x hj) hne⟩
theorem Rd.drop {w : World} {b o : Nat} {xs : List (List UInt8)} (h : Rd w (some ⟨b, o, none⟩) xs) (k : Nat) : Rd w (some ⟨b, o + k, none⟩) (xs.drop k) := fun hl => by
  rw [List.length_drop] at hl
  obtain ⟨b', o', e, hlt, hc⟩ := h (by omega)
  cases e
  refine ⟨b, o + k, rfl, hlt, fun j x hj => ?_⟩
  rw [List.getElem?_drop] at hj
  have := hc (k + j) x hj
  rwa [← Nat.add_assoc] at this
theorem Rd.mono {w w' : World} {A : Option Addr} {xs : List (List UInt8)} {N : Nat} (h : Rd w A xs) (hN : N = w.heap.size) {u : World} (hu : Below N w u) (hb : Below N u w') : Rd w' A xs := by
  subst hN
  exact h.below (hu.trans hb)
/-- The empty slice of the call's own: a block without cells. -/
theorem own_empty (w : World) (N : Nat) (hN : N ≤ w.heap.size) : (w.alloc (.cells #[] 9)).ownsRow N 9 1 (.slice (some ⟨w.heap.size, 0, none⟩) 0 0) ([] : List (List UInt8)).length (([] : List (List UInt8)).map enS) :=
  ⟨by simp, .inr ⟨w.heap.size, 0, #[], rfl, hN, blk_new w _, by simp, by simp [maxLen], by simp, by simp⟩⟩
/-- One text laid in a block of its own. -/
theorem Rd.one (w : World) (s : List UInt8) : Rd (w.alloc (.cells #[enS s] 9)) (some ⟨w.heap.size, 0, none⟩) [s] := Rd.new w [s] 9
/-- A slice that came in: nil, or it has elements. -/
def SlOk (A : Option Addr) (c : Nat) (xs : List (List UInt8)) : Prop := (xs = [] ∧ A = none ∧ c = 0) ∨ (xs ≠ [] ∧ xs.length ≤ c ∧ c ≤ maxLen)
/-- What insert gives. -/
def GivesL (w : World) (xs : List (List UInt8)) (e : Ending) (w' : World) : Prop :=
  ∃ A c, e = .returned (.slice A xs.length c) ∧ Rd w' A xs ∧ SlOk A c xs ∧ Below w.heap.size w w'
theorem own_cap {w : World} {base n c : Nat} {e : TypeId} {A : Option Addr} {xs : List Value} (h : w.ownsRow base e 1 (.slice A n c) n xs) : c ≤ maxLen := by
  rcases h.2 with ⟨e1, _⟩ | ⟨g, cap, cur, e1, _, _, _, hm, _⟩
  · cases e1; simp [maxLen]
  · cases e1; exact hm
theorem gives_ownL {w w' : World} {v : Value} {xs : List (List UInt8)} (hne : xs ≠ []) (h : w'.ownsRow w.heap.size 9 1 v xs.length (xs.map enS)) (hb : Below w.heap.size w w') : GivesL w xs (.returned v) w' := by
  obtain ⟨A, c, rfl⟩ := own_slice h
  obtain ⟨h1, h2, h3⟩ := Rd.of_own h
  exact ⟨A, c, rfl, h1, .inr ⟨hne, h3, own_cap h⟩, hb⟩

theorem cls_ne {N : Nat} (w : World) : Nonempty (Flow.Cls (Below N w)) := ⟨⟨w, Below.refl N w⟩⟩

set_option maxRecDepth 100000 in
set_option maxHeartbeats 8000000 in
theorem refInsert_of (HC : Hid (∀ (a b : List UInt8) (W : World), a.length ≤ 1000000 → b.length ≤ 1000000 → Calls Tryd.prog 16 #[enS a, enS b] W fun e w' => e = .returned (.int .i64 (gcmp a b)) ∧ Below W.heap.size W w'))
    (A : Option Addr) (c : Nat) (xs : List (List UInt8)) (s : List UInt8) (w : World) (hr : Rd w A xs) (hok : SlOk A c xs) (hn0 : xs.length ≤ 100000000) (hx : Hid (∀ x ∈ xs, x.length ≤ 1000000)) (ls : s.length ≤ 1000000) :
    Calls Tryd.prog 45 #[.slice A xs.length c, enS s] w (GivesL w (ins gcmp s xs)) := by
  have hn : xs.length ≤ c := by
    rcases hok with ⟨e, _, _⟩ | ⟨_, h⟩
    · rw [e]; simp
    · exact h.1
  have HR := Lib.hid hr; clear hr
  have HO := Lib.hid hok; clear hok
  obtain ⟨R, hR⟩ : ∃ r, ins gcmp s xs = r := ⟨_, rfl⟩
  rw [hR]
  have VR := Lib.hid hR; clear hR
  go_enter Tryd.func45, Tryd.ntmps45
  go_wp2_with fail
  go_loopg [5] xs.length (fun gg iv wr => ∃ k : Nat, k ≤ xs.length ∧ xs.length - k ≤ gg ∧ iv = .int .i64 k ∧ Below w.heap.size w wr ∧ Hid (∀ (j : Nat) (x : List UInt8), j < k → xs[j]? = some x → gcmp x s < 0))
  case atStart => exact ⟨0, by omega, by omega, rfl, Below.refl _ _, fun j x hj => by omega⟩
  case round =>
    obtain ⟨k, hk, hg, rfl, hB, T⟩ := hrel
    by_cases hlt : k < xs.length
    · obtain ⟨b, o, x, rfl, _, hxk, hcell⟩ := (HR.out.below hB).at_ hlt
      have HX := Lib.hid hxk; clear hxk
      have hlx := hx.out x (List.mem_of_getElem? HX.out)
      have hcmp := HC.out x s wr hlx ls
      obtain ⟨q, hq0⟩ : ∃ q, gcmp x s = q := ⟨_, rfl⟩
      rw [hq0] at hcmp
      have HQ := Lib.hid hq0; clear hq0
      by_cases hq : q < 0
      · go_wp2_with fail
        refine hcmp.mono ?_; rintro e w1 ⟨rfl, b1⟩
        clear hcmp
        go_wp2_with fail
        go_roundg (xs.length - (k + 1))
        case measure => omega
        case rel => exact ⟨k + 1, by omega, by omega, by go_num, hB.tr b1, fun j y hj hy => by
          by_cases e : j = k
          · subst e
            have := HX.out.symm.trans hy
            cases this
            rw [HQ.out]; exact hq
          · exact T.out j y (by omega) hy⟩
      · have hat : Hid (insAt gcmp s xs = k) := insAt_eq gcmp s xs k hk T.out (fun y hy => by
          have := HX.out.symm.trans hy
          cases this
          rw [HQ.out]; exact hq)
        have hcn : 0 < c := by omega
        have HN1 : Hid (k = (xs.take k).length) := by (show k = _); simp; omega
        have HN2 : Hid (xs.length - k = (xs.drop k).length) := by (show _ = _); simp
        have HD : Hid (∀ W, Below w.heap.size w W → Rd W (some ⟨b, o + k, none⟩) (xs.drop k)) := fun W hW => (HR.out.below hW).drop k
        have hkc : (k : Int) ≤ (c : Int) := by omega
        have hcell2 : Hid (∀ W, Below wr.heap.size wr W → W.cell? ⟨b, o + k, none⟩ = some (enS x)) := fun W hW => hW.cellv hcell
        by_cases hxs : x = s
        · have V : Hid (R = xs) := by (show R = xs); rw [← VR.out, ins_at, hat.out, if_pos (by rw [← hxs]; exact HX.out)]
          subst hxs
          go_wp2_with fail
          refine hcmp.mono ?_; rintro e w1 ⟨rfl, b1⟩
          clear hcmp
          have hcl := hcell2.out w1 b1
          go_wp2_with fail
          go_ret
          rw [V.out]
          exact ⟨_, c, rfl, (HR.out.below (hB.tr b1)), HO.out, hB.tr b1⟩
        · have V : Hid (R = xs.take k ++ s :: xs.drop k) := by
            show R = _
            rw [← VR.out, ins_at, hat.out, if_neg (fun e => hxs (by have := HX.out.symm.trans e; cases this; rfl))]
          have hne : (x == s) = false := by simpa using hxs
          have HXS := Lib.hid hxs; clear hxs
          have hne2 : ¬ k = c := by omega
          go_wp2_with fail
          refine hcmp.mono ?_; rintro e w1 ⟨rfl, b1⟩
          clear hcmp
          have hcl := hcell2.out w1 b1
          go_wp2_with fail
          clear hcl
          have cB := hB.tr b1
          clear hB b1 hcell

          refine Flow.wp_region_sched (fun u v => Below w.heap.size u v) (fun _ => Below.refl _ _) (fun _ _ _ h k => h.trans k) (.fork [1, 2, 3, 5, 8, 9, 10] 0 6 (.fork [] 4 6 (.step [] 6 (.step [] 7 (.step [] 11 (.done [12])))) (.step [] 4 (.step [] 7 (.step [] 11 (.done [12]))))) (.step [] 0 (.step [] 4 (.step [] 7 (.step [] 11 (.done [12])))))) (by kernel_rfl) (by kernel_rfl) ?_
          have cD := Below.drew cB
          generalize hwd : World.drew _ = wd at *
          clear hwd
          haveI nonE := cls_ne (N := w.heap.size) wd
          rw [Flow.wpSched_fork]
          simp only [Flow.pick, List.getElem?_toArray, List.getElem?_cons_succ, List.getElem?_cons_zero]
          repeat go_big_quiet_step (fail)
          refine wpQuiet_nil ?_
          clear nonE
          refine ⟨?_, ?_⟩
          · rw [Flow.callAt_eq]
            simp only [List.getElem?_toArray, List.getElem?_cons_zero]
            rw [if_pos (by rfl)]
            refine Flow.wp_behind (fun K hK => ?_)
            go_wp2_with fail
            have b1 : Below w.heap.size wd (wd.alloc (.cells #[] 9)) := (Below.refl _ _).alloc cD.size _
            refine hK.out _ _ ⟨b1, ?_⟩
            clear hK K
            have O1 := Lib.hid (own_empty wd w.heap.size cD.size)
            have z1 : wd.heap.size < (wd.alloc (.cells #[] 9)).heap.size := by simp
            have c1 := cD.trans b1; clear b1
            generalize hw1 : wd.alloc (.cells #[] 9) = x1 at *
            clear hw1
            haveI nonE := cls_ne (N := w.heap.size) x1
            rw [Flow.wpSched_fork]
            simp only [Flow.pick]
            refine wpQuiet_nil ?_
            clear nonE
            refine ⟨?_, ?_⟩
            · rw [Flow.callAt_eq]
              simp only [List.getElem?_toArray, List.getElem?_cons_succ, List.getElem?_cons_zero]
              rw [if_pos (by rfl)]
              refine Flow.wp_behind (fun K hK => ?_)
              refine wp_appN _ _ rfl w.heap.size _ ([]) O1.out _ _ _ (xs.take k) HN1.out ((HR.out.below c1).take k) rfl rfl (by first | (simp; done) | (simp; omega)) c1.size ?_
              intro v2 x2 hown2 b2 hg2
              refine hK.out _ _ ⟨b2, ?_⟩
              clear hK K
              simp only [Act.put, List.setIfInBounds_toArray, List.set_cons_succ, List.set_cons_zero]
              have O2 := Lib.hid hown2; clear hown2
              have c2 := c1.trans b2; clear b2 hg2
              haveI nonE := cls_ne (N := w.heap.size) x2
              rw [Flow.wpSched_step]
              simp only [Flow.pick]
              refine wpQuiet_nil ?_
              clear nonE
              rw [Flow.callAt_eq]
              simp only [List.getElem?_toArray, List.getElem?_cons_succ, List.getElem?_cons_zero]
              rw [if_pos (by rfl)]
              refine Flow.wp_behind (fun K hK => ?_)
              go_wp2_with fail
              have b3 : Below w.heap.size x2 (x2.alloc (.cells #[enS s] 9)) := (Below.refl _ _).alloc c2.size _
              refine hK.out _ _ ⟨b3, ?_⟩
              clear hK K
              have X3 := Lib.hid (Rd.one x2 s)
              have z3 : x2.heap.size < (x2.alloc (.cells #[enS s] 9)).heap.size := by simp
              have O3 := Lib.hid (O2.out.alloc (.cells #[enS s] 9))
              have c3 := c2.trans b3; clear b3
              generalize hw3 : x2.alloc (.cells #[enS s] 9) = x3 at *
              clear hw3
              haveI nonE := cls_ne (N := w.heap.size) x3
              rw [Flow.wpSched_step]
              simp only [Flow.pick]
              refine wpQuiet_nil ?_
              clear nonE
              rw [Flow.callAt_eq]
              simp only [List.getElem?_toArray, List.getElem?_cons_succ, List.getElem?_cons_zero]
              rw [if_pos (by rfl)]
              refine Flow.wp_behind (fun K hK => ?_)
              refine wp_appN _ _ rfl w.heap.size _ ([] ++ xs.take k) O3.out _ _ _ ([s]) rfl (X3.out) rfl rfl (by first | (simp; done) | (simp; omega)) c3.size ?_
              intro v4 x4 hown4 b4 hg4
              refine hK.out _ _ ⟨b4, ?_⟩
              clear hK K
              simp only [Act.put, List.setIfInBounds_toArray, List.set_cons_succ, List.set_cons_zero]
              have O4 := Lib.hid hown4; clear hown4
              have c4 := c3.trans b4; clear b4 hg4
              haveI nonE := cls_ne (N := w.heap.size) x4
              rw [Flow.wpSched_step]
              simp only [Flow.pick]
              refine wpQuiet_nil ?_
              clear nonE
              rw [Flow.callAt_eq]
              simp only [List.getElem?_toArray, List.getElem?_cons_succ, List.getElem?_cons_zero]
              rw [if_pos (by rfl)]
              refine Flow.wp_behind (fun K hK => ?_)
              refine wp_appN _ _ rfl w.heap.size _ (([] ++ xs.take k) ++ [s]) O4.out _ _ _ (xs.drop k) HN2.out (HD.out _ c4) rfl rfl (by first | (simp; done) | (simp; omega)) c4.size ?_
              intro v5 x5 hown5 b5 hg5
              refine hK.out _ _ ⟨b5, ?_⟩
              clear hK K
              simp only [Act.put, List.setIfInBounds_toArray, List.set_cons_succ, List.set_cons_zero]
              have O5 := Lib.hid hown5; clear hown5
              have c5 := c4.trans b5; clear b5 hg5
              haveI nonE := cls_ne (N := w.heap.size) x5
              rw [Flow.wpSched_done]
              simp only [Flow.pick, List.getElem?_toArray, List.getElem?_cons_succ, List.getElem?_cons_zero]
              repeat go_big_quiet_step (fail)
              refine wpQuiet_nil ?_
              clear nonE
              go_wp2_with fail
              go_ret
              rw [V.out]
              refine gives_ownL (by simp) ?_ ?_
              · have h := O5.out; simpa using h
              · exact c5
            · rw [Flow.callAt_eq]
              simp only [List.getElem?_toArray, List.getElem?_cons_succ, List.getElem?_cons_zero]
              rw [if_pos (by rfl)]
              refine Flow.wp_behind (fun K hK => ?_)
              go_wp2_with fail
              have b2 : Below w.heap.size x1 (x1.alloc (.cells #[enS s] 9)) := (Below.refl _ _).alloc c1.size _
              refine hK.out _ _ ⟨b2, ?_⟩
              clear hK K
              have X2 := Lib.hid (Rd.one x1 s)
              have z2 : x1.heap.size < (x1.alloc (.cells #[enS s] 9)).heap.size := by simp
              have O2 := Lib.hid (O1.out.alloc (.cells #[enS s] 9))
              have c2 := c1.trans b2; clear b2
              generalize hw2 : x1.alloc (.cells #[enS s] 9) = x2 at *
              clear hw2
              haveI nonE := cls_ne (N := w.heap.size) x2
              rw [Flow.wpSched_step]
              simp only [Flow.pick]
              refine wpQuiet_nil ?_
              clear nonE
              rw [Flow.callAt_eq]
              simp only [List.getElem?_toArray, List.getElem?_cons_succ, List.getElem?_cons_zero]
              rw [if_pos (by rfl)]
              refine Flow.wp_behind (fun K hK => ?_)
              refine wp_appN _ _ rfl w.heap.size _ ([]) O2.out _ _ _ (xs.take k) HN1.out ((HR.out.below c2).take k) rfl rfl (by first | (simp; done) | (simp; omega)) c2.size ?_
              intro v3 x3 hown3 b3 hg3
              refine hK.out _ _ ⟨b3, ?_⟩
              clear hK K
              simp only [Act.put, List.setIfInBounds_toArray, List.set_cons_succ, List.set_cons_zero]
              have O3 := Lib.hid hown3; clear hown3
              have X3 := Lib.hid (Rd.grown X2.out hg3 (by simp [Value.ownBlock]; omega))
              have c3 := c2.trans b3; clear b3 hg3
              haveI nonE := cls_ne (N := w.heap.size) x3
              rw [Flow.wpSched_step]
              simp only [Flow.pick]
              refine wpQuiet_nil ?_
              clear nonE
              rw [Flow.callAt_eq]
              simp only [List.getElem?_toArray, List.getElem?_cons_succ, List.getElem?_cons_zero]
              rw [if_pos (by rfl)]
              refine Flow.wp_behind (fun K hK => ?_)
              refine wp_appN _ _ rfl w.heap.size _ ([] ++ xs.take k) O3.out _ _ _ ([s]) rfl (X3.out) rfl rfl (by first | (simp; done) | (simp; omega)) c3.size ?_
              intro v4 x4 hown4 b4 hg4
              refine hK.out _ _ ⟨b4, ?_⟩
              clear hK K
              simp only [Act.put, List.setIfInBounds_toArray, List.set_cons_succ, List.set_cons_zero]
              have O4 := Lib.hid hown4; clear hown4
              have c4 := c3.trans b4; clear b4 hg4
              haveI nonE := cls_ne (N := w.heap.size) x4
              rw [Flow.wpSched_step]
              simp only [Flow.pick]
              refine wpQuiet_nil ?_
              clear nonE
              rw [Flow.callAt_eq]
              simp only [List.getElem?_toArray, List.getElem?_cons_succ, List.getElem?_cons_zero]
              rw [if_pos (by rfl)]
              refine Flow.wp_behind (fun K hK => ?_)
              refine wp_appN _ _ rfl w.heap.size _ (([] ++ xs.take k) ++ [s]) O4.out _ _ _ (xs.drop k) HN2.out (HD.out _ c4) rfl rfl (by first | (simp; done) | (simp; omega)) c4.size ?_
              intro v5 x5 hown5 b5 hg5
              refine hK.out _ _ ⟨b5, ?_⟩
              clear hK K
              simp only [Act.put, List.setIfInBounds_toArray, List.set_cons_succ, List.set_cons_zero]
              have O5 := Lib.hid hown5; clear hown5
              have c5 := c4.trans b5; clear b5 hg5
              haveI nonE := cls_ne (N := w.heap.size) x5
              rw [Flow.wpSched_done]
              simp only [Flow.pick, List.getElem?_toArray, List.getElem?_cons_succ, List.getElem?_cons_zero]
              repeat go_big_quiet_step (fail)
              refine wpQuiet_nil ?_
              clear nonE
              go_wp2_with fail
              go_ret
              rw [V.out]
              refine gives_ownL (by simp) ?_ ?_
              · have h := O5.out; simpa using h
              · exact c5
          · rw [Flow.callAt_eq]
            simp only [List.getElem?_toArray, List.getElem?_cons_succ, List.getElem?_cons_zero]
            rw [if_pos (by rfl)]
            refine Flow.wp_behind (fun K hK => ?_)
            go_wp2_with fail
            have b1 : Below w.heap.size wd (wd.alloc (.cells #[enS s] 9)) := (Below.refl _ _).alloc cD.size _
            refine hK.out _ _ ⟨b1, ?_⟩
            clear hK K
            have X1 := Lib.hid (Rd.one wd s)
            have z1 : wd.heap.size < (wd.alloc (.cells #[enS s] 9)).heap.size := by simp
            have c1 := cD.trans b1; clear b1
            generalize hw1 : wd.alloc (.cells #[enS s] 9) = x1 at *
            clear hw1
            haveI nonE := cls_ne (N := w.heap.size) x1
            rw [Flow.wpSched_step]
            simp only [Flow.pick]
            refine wpQuiet_nil ?_
            clear nonE
            rw [Flow.callAt_eq]
            simp only [List.getElem?_toArray, List.getElem?_cons_zero]
            rw [if_pos (by rfl)]
            refine Flow.wp_behind (fun K hK => ?_)
            go_wp2_with fail
            have b2 : Below w.heap.size x1 (x1.alloc (.cells #[] 9)) := (Below.refl _ _).alloc c1.size _
            refine hK.out _ _ ⟨b2, ?_⟩
            clear hK K
            have O2 := Lib.hid (own_empty x1 w.heap.size c1.size)
            have z2 : x1.heap.size < (x1.alloc (.cells #[] 9)).heap.size := by simp
            have X2 := Lib.hid (X1.out.below (below_new x1 (.cells #[] 9)))
            have c2 := c1.trans b2; clear b2
            generalize hw2 : x1.alloc (.cells #[] 9) = x2 at *
            clear hw2
            haveI nonE := cls_ne (N := w.heap.size) x2
            rw [Flow.wpSched_step]
            simp only [Flow.pick]
            refine wpQuiet_nil ?_
            clear nonE
            rw [Flow.callAt_eq]
            simp only [List.getElem?_toArray, List.getElem?_cons_succ, List.getElem?_cons_zero]
            rw [if_pos (by rfl)]
            refine Flow.wp_behind (fun K hK => ?_)
            refine wp_appN _ _ rfl w.heap.size _ ([]) O2.out _ _ _ (xs.take k) HN1.out ((HR.out.below c2).take k) rfl rfl (by first | (simp; done) | (simp; omega)) c2.size ?_
            intro v3 x3 hown3 b3 hg3
            refine hK.out _ _ ⟨b3, ?_⟩
            clear hK K
            simp only [Act.put, List.setIfInBounds_toArray, List.set_cons_succ, List.set_cons_zero]
            have O3 := Lib.hid hown3; clear hown3
            have X3 := Lib.hid (Rd.grown X2.out hg3 (by simp [Value.ownBlock]; omega))
            have c3 := c2.trans b3; clear b3 hg3
            haveI nonE := cls_ne (N := w.heap.size) x3
            rw [Flow.wpSched_step]
            simp only [Flow.pick]
            refine wpQuiet_nil ?_
            clear nonE
            rw [Flow.callAt_eq]
            simp only [List.getElem?_toArray, List.getElem?_cons_succ, List.getElem?_cons_zero]
            rw [if_pos (by rfl)]
            refine Flow.wp_behind (fun K hK => ?_)
            refine wp_appN _ _ rfl w.heap.size _ ([] ++ xs.take k) O3.out _ _ _ ([s]) rfl (X3.out) rfl rfl (by first | (simp; done) | (simp; omega)) c3.size ?_
            intro v4 x4 hown4 b4 hg4
            refine hK.out _ _ ⟨b4, ?_⟩
            clear hK K
            simp only [Act.put, List.setIfInBounds_toArray, List.set_cons_succ, List.set_cons_zero]
            have O4 := Lib.hid hown4; clear hown4
            have c4 := c3.trans b4; clear b4 hg4
            haveI nonE := cls_ne (N := w.heap.size) x4
            rw [Flow.wpSched_step]
            simp only [Flow.pick]
            refine wpQuiet_nil ?_
            clear nonE
            rw [Flow.callAt_eq]
            simp only [List.getElem?_toArray, List.getElem?_cons_succ, List.getElem?_cons_zero]
            rw [if_pos (by rfl)]
            refine Flow.wp_behind (fun K hK => ?_)
            refine wp_appN _ _ rfl w.heap.size _ (([] ++ xs.take k) ++ [s]) O4.out _ _ _ (xs.drop k) HN2.out (HD.out _ c4) rfl rfl (by first | (simp; done) | (simp; omega)) c4.size ?_
            intro v5 x5 hown5 b5 hg5
            refine hK.out _ _ ⟨b5, ?_⟩
            clear hK K
            simp only [Act.put, List.setIfInBounds_toArray, List.set_cons_succ, List.set_cons_zero]
            have O5 := Lib.hid hown5; clear hown5
            have c5 := c4.trans b5; clear b5 hg5
            haveI nonE := cls_ne (N := w.heap.size) x5
            rw [Flow.wpSched_done]
            simp only [Flow.pick, List.getElem?_toArray, List.getElem?_cons_succ, List.getElem?_cons_zero]
            repeat go_big_quiet_step (fail)
            refine wpQuiet_nil ?_
            clear nonE
            go_wp2_with fail
            go_ret
            rw [V.out]
            refine gives_ownL (by simp) ?_ ?_
            · have h := O5.out; simpa using h
            · exact c5
    · have hat : Hid (insAt gcmp s xs = k) := insAt_eq gcmp s xs k hk T.out (fun y hy => by
        have := (List.getElem?_eq_some_iff.1 hy).1
        omega)
      have hkn : Hid (k = xs.length) := (show k = xs.length by omega)
      have V : Hid (R = xs.take k ++ s :: xs.drop k) := by
        show R = _
        rw [← VR.out, ins_at, hat.out, if_neg (fun e => by have := (List.getElem?_eq_some_iff.1 e).1; omega)]
      have HN1 : Hid (k = (xs.take k).length) := by (show k = _); simp; omega
      have HN2 : Hid (xs.length - k = (xs.drop k).length) := by (show _ = _); simp
      rcases HO.out with ⟨rfl, rfl, rfl⟩ | ⟨hne, _⟩
      · obtain rfl : k = 0 := by simp at hk; exact hk
        have HD : Hid (∀ W, Below w.heap.size w W → Rd W none (([] : List (List UInt8)).drop 0)) := fun W hW => Rd.nil
        clear hk hlt hg hn hkn
        simp only [List.length_nil] at *
        go_wp2_with fail
        have cB := hB
        clear hB
        refine Flow.wp_region_sched (fun u v => Below w.heap.size u v) (fun _ => Below.refl _ _) (fun _ _ _ h k => h.trans k) (.fork [1, 2, 3, 5, 8, 9, 10] 0 6 (.fork [] 4 6 (.step [] 6 (.step [] 7 (.step [] 11 (.done [12])))) (.step [] 4 (.step [] 7 (.step [] 11 (.done [12]))))) (.step [] 0 (.step [] 4 (.step [] 7 (.step [] 11 (.done [12])))))) (by kernel_rfl) (by kernel_rfl) ?_
        have cD := Below.drew cB
        generalize hwd : World.drew _ = wd at *
        clear hwd
        haveI nonE := cls_ne (N := w.heap.size) wd
        rw [Flow.wpSched_fork]
        simp only [Flow.pick, List.getElem?_toArray, List.getElem?_cons_succ, List.getElem?_cons_zero]
        repeat go_big_quiet_step (fail)
        refine wpQuiet_nil ?_
        clear nonE
        refine ⟨?_, ?_⟩
        · rw [Flow.callAt_eq]
          simp only [List.getElem?_toArray, List.getElem?_cons_zero]
          rw [if_pos (by rfl)]
          refine Flow.wp_behind (fun K hK => ?_)
          go_wp2_with fail
          have b1 : Below w.heap.size wd (wd.alloc (.cells #[] 9)) := (Below.refl _ _).alloc cD.size _
          refine hK.out _ _ ⟨b1, ?_⟩
          clear hK K
          have O1 := Lib.hid (own_empty wd w.heap.size cD.size)
          have z1 : wd.heap.size < (wd.alloc (.cells #[] 9)).heap.size := by simp
          have c1 := cD.trans b1; clear b1
          generalize hw1 : wd.alloc (.cells #[] 9) = x1 at *
          clear hw1
          haveI nonE := cls_ne (N := w.heap.size) x1
          rw [Flow.wpSched_fork]
          simp only [Flow.pick]
          refine wpQuiet_nil ?_
          clear nonE
          refine ⟨?_, ?_⟩
          · rw [Flow.callAt_eq]
            simp only [List.getElem?_toArray, List.getElem?_cons_succ, List.getElem?_cons_zero]
            rw [if_pos (by rfl)]
            refine Flow.wp_behind (fun K hK => ?_)
            refine wp_appN _ _ rfl w.heap.size _ ([]) O1.out _ _ _ (([] : List (List UInt8)).take 0) HN1.out ((HR.out.below c1).take 0) rfl rfl (by first | (simp; done) | (simp; omega)) c1.size ?_
            intro v2 x2 hown2 b2 hg2
            refine hK.out _ _ ⟨b2, ?_⟩
            clear hK K
            simp only [Act.put, List.setIfInBounds_toArray, List.set_cons_succ, List.set_cons_zero]
            have O2 := Lib.hid hown2; clear hown2
            have c2 := c1.trans b2; clear b2 hg2
            haveI nonE := cls_ne (N := w.heap.size) x2
            rw [Flow.wpSched_step]
            simp only [Flow.pick]
            refine wpQuiet_nil ?_
            clear nonE
            rw [Flow.callAt_eq]
            simp only [List.getElem?_toArray, List.getElem?_cons_succ, List.getElem?_cons_zero]
            rw [if_pos (by rfl)]
            refine Flow.wp_behind (fun K hK => ?_)
            go_wp2_with fail
            have b3 : Below w.heap.size x2 (x2.alloc (.cells #[enS s] 9)) := (Below.refl _ _).alloc c2.size _
            refine hK.out _ _ ⟨b3, ?_⟩
            clear hK K
            have X3 := Lib.hid (Rd.one x2 s)
            have z3 : x2.heap.size < (x2.alloc (.cells #[enS s] 9)).heap.size := by simp
            have O3 := Lib.hid (O2.out.alloc (.cells #[enS s] 9))
            have c3 := c2.trans b3; clear b3
            generalize hw3 : x2.alloc (.cells #[enS s] 9) = x3 at *
            clear hw3
            haveI nonE := cls_ne (N := w.heap.size) x3
            rw [Flow.wpSched_step]
            simp only [Flow.pick]
            refine wpQuiet_nil ?_
            clear nonE
            rw [Flow.callAt_eq]
            simp only [List.getElem?_toArray, List.getElem?_cons_succ, List.getElem?_cons_zero]
            rw [if_pos (by rfl)]
            refine Flow.wp_behind (fun K hK => ?_)
            refine wp_appN _ _ rfl w.heap.size _ ([] ++ ([] : List (List UInt8)).take 0) O3.out _ _ _ ([s]) rfl (X3.out) rfl rfl (by first | (simp; done) | (simp; omega)) c3.size ?_
            intro v4 x4 hown4 b4 hg4
            refine hK.out _ _ ⟨b4, ?_⟩
            clear hK K
            simp only [Act.put, List.setIfInBounds_toArray, List.set_cons_succ, List.set_cons_zero]
            have O4 := Lib.hid hown4; clear hown4
            have c4 := c3.trans b4; clear b4 hg4
            haveI nonE := cls_ne (N := w.heap.size) x4
            rw [Flow.wpSched_step]
            simp only [Flow.pick]
            refine wpQuiet_nil ?_
            clear nonE
            rw [Flow.callAt_eq]
            simp only [List.getElem?_toArray, List.getElem?_cons_succ, List.getElem?_cons_zero]
            rw [if_pos (by rfl)]
            refine Flow.wp_behind (fun K hK => ?_)
            refine wp_appN _ _ rfl w.heap.size _ (([] ++ ([] : List (List UInt8)).take 0) ++ [s]) O4.out _ _ _ (([] : List (List UInt8)).drop 0) HN2.out (HD.out _ c4) rfl rfl (by first | (simp; done) | (simp; omega)) c4.size ?_
            intro v5 x5 hown5 b5 hg5
            refine hK.out _ _ ⟨b5, ?_⟩
            clear hK K
            simp only [Act.put, List.setIfInBounds_toArray, List.set_cons_succ, List.set_cons_zero]
            have O5 := Lib.hid hown5; clear hown5
            have c5 := c4.trans b5; clear b5 hg5
            haveI nonE := cls_ne (N := w.heap.size) x5
            rw [Flow.wpSched_done]
            simp only [Flow.pick, List.getElem?_toArray, List.getElem?_cons_succ, List.getElem?_cons_zero]
            repeat go_big_quiet_step (fail)
            refine wpQuiet_nil ?_
            clear nonE
            go_wp2_with fail
            go_ret
            rw [V.out]
            refine gives_ownL (by simp) ?_ ?_
            · have h := O5.out; simpa using h
            · exact c5
          · rw [Flow.callAt_eq]
            simp only [List.getElem?_toArray, List.getElem?_cons_succ, List.getElem?_cons_zero]
            rw [if_pos (by rfl)]
            refine Flow.wp_behind (fun K hK => ?_)
            go_wp2_with fail
            have b2 : Below w.heap.size x1 (x1.alloc (.cells #[enS s] 9)) := (Below.refl _ _).alloc c1.size _
            refine hK.out _ _ ⟨b2, ?_⟩
            clear hK K
            have X2 := Lib.hid (Rd.one x1 s)
            have z2 : x1.heap.size < (x1.alloc (.cells #[enS s] 9)).heap.size := by simp
            have O2 := Lib.hid (O1.out.alloc (.cells #[enS s] 9))
            have c2 := c1.trans b2; clear b2
            generalize hw2 : x1.alloc (.cells #[enS s] 9) = x2 at *
            clear hw2
            haveI nonE := cls_ne (N := w.heap.size) x2
            rw [Flow.wpSched_step]
            simp only [Flow.pick]
            refine wpQuiet_nil ?_
            clear nonE
            rw [Flow.callAt_eq]
            simp only [List.getElem?_toArray, List.getElem?_cons_succ, List.getElem?_cons_zero]
            rw [if_pos (by rfl)]
            refine Flow.wp_behind (fun K hK => ?_)
            refine wp_appN _ _ rfl w.heap.size _ ([]) O2.out _ _ _ (([] : List (List UInt8)).take 0) HN1.out ((HR.out.below c2).take 0) rfl rfl (by first | (simp; done) | (simp; omega)) c2.size ?_
            intro v3 x3 hown3 b3 hg3
            refine hK.out _ _ ⟨b3, ?_⟩
            clear hK K
            simp only [Act.put, List.setIfInBounds_toArray, List.set_cons_succ, List.set_cons_zero]
            have O3 := Lib.hid hown3; clear hown3
            have X3 := Lib.hid (Rd.grown X2.out hg3 (by simp [Value.ownBlock]; omega))
            have c3 := c2.trans b3; clear b3 hg3
            haveI nonE := cls_ne (N := w.heap.size) x3
            rw [Flow.wpSched_step]
            simp only [Flow.pick]
            refine wpQuiet_nil ?_
            clear nonE
            rw [Flow.callAt_eq]
            simp only [List.getElem?_toArray, List.getElem?_cons_succ, List.getElem?_cons_zero]
            rw [if_pos (by rfl)]
            refine Flow.wp_behind (fun K hK => ?_)
            refine wp_appN _ _ rfl w.heap.size _ ([] ++ ([] : List (List UInt8)).take 0) O3.out _ _ _ ([s]) rfl (X3.out) rfl rfl (by first | (simp; done) | (simp; omega)) c3.size ?_
            intro v4 x4 hown4 b4 hg4
            refine hK.out _ _ ⟨b4, ?_⟩
            clear hK K
            simp only [Act.put, List.setIfInBounds_toArray, List.set_cons_succ, List.set_cons_zero]
            have O4 := Lib.hid hown4; clear hown4
            have c4 := c3.trans b4; clear b4 hg4
            haveI nonE := cls_ne (N := w.heap.size) x4
            rw [Flow.wpSched_step]
            simp only [Flow.pick]
            refine wpQuiet_nil ?_
            clear nonE
            rw [Flow.callAt_eq]
            simp only [List.getElem?_toArray, List.getElem?_cons_succ, List.getElem?_cons_zero]
            rw [if_pos (by rfl)]
            refine Flow.wp_behind (fun K hK => ?_)
            refine wp_appN _ _ rfl w.heap.size _ (([] ++ ([] : List (List UInt8)).take 0) ++ [s]) O4.out _ _ _ (([] : List (List UInt8)).drop 0) HN2.out (HD.out _ c4) rfl rfl (by first | (simp; done) | (simp; omega)) c4.size ?_
            intro v5 x5 hown5 b5 hg5
            refine hK.out _ _ ⟨b5, ?_⟩
            clear hK K
            simp only [Act.put, List.setIfInBounds_toArray, List.set_cons_succ, List.set_cons_zero]
            have O5 := Lib.hid hown5; clear hown5
            have c5 := c4.trans b5; clear b5 hg5
            haveI nonE := cls_ne (N := w.heap.size) x5
            rw [Flow.wpSched_done]
            simp only [Flow.pick, List.getElem?_toArray, List.getElem?_cons_succ, List.getElem?_cons_zero]
            repeat go_big_quiet_step (fail)
            refine wpQuiet_nil ?_
            clear nonE
            go_wp2_with fail
            go_ret
            rw [V.out]
            refine gives_ownL (by simp) ?_ ?_
            · have h := O5.out; simpa using h
            · exact c5
        · rw [Flow.callAt_eq]
          simp only [List.getElem?_toArray, List.getElem?_cons_succ, List.getElem?_cons_zero]
          rw [if_pos (by rfl)]
          refine Flow.wp_behind (fun K hK => ?_)
          go_wp2_with fail
          have b1 : Below w.heap.size wd (wd.alloc (.cells #[enS s] 9)) := (Below.refl _ _).alloc cD.size _
          refine hK.out _ _ ⟨b1, ?_⟩
          clear hK K
          have X1 := Lib.hid (Rd.one wd s)
          have z1 : wd.heap.size < (wd.alloc (.cells #[enS s] 9)).heap.size := by simp
          have c1 := cD.trans b1; clear b1
          generalize hw1 : wd.alloc (.cells #[enS s] 9) = x1 at *
          clear hw1
          haveI nonE := cls_ne (N := w.heap.size) x1
          rw [Flow.wpSched_step]
          simp only [Flow.pick]
          refine wpQuiet_nil ?_
          clear nonE
          rw [Flow.callAt_eq]
          simp only [List.getElem?_toArray, List.getElem?_cons_zero]
          rw [if_pos (by rfl)]
          refine Flow.wp_behind (fun K hK => ?_)
          go_wp2_with fail
          have b2 : Below w.heap.size x1 (x1.alloc (.cells #[] 9)) := (Below.refl _ _).alloc c1.size _
          refine hK.out _ _ ⟨b2, ?_⟩
          clear hK K
          have O2 := Lib.hid (own_empty x1 w.heap.size c1.size)
          have z2 : x1.heap.size < (x1.alloc (.cells #[] 9)).heap.size := by simp
          have X2 := Lib.hid (X1.out.below (below_new x1 (.cells #[] 9)))
          have c2 := c1.trans b2; clear b2
          generalize hw2 : x1.alloc (.cells #[] 9) = x2 at *
          clear hw2
          haveI nonE := cls_ne (N := w.heap.size) x2
          rw [Flow.wpSched_step]
          simp only [Flow.pick]
          refine wpQuiet_nil ?_
          clear nonE
          rw [Flow.callAt_eq]
          simp only [List.getElem?_toArray, List.getElem?_cons_succ, List.getElem?_cons_zero]
          rw [if_pos (by rfl)]
          refine Flow.wp_behind (fun K hK => ?_)
          refine wp_appN _ _ rfl w.heap.size _ ([]) O2.out _ _ _ (([] : List (List UInt8)).take 0) HN1.out ((HR.out.below c2).take 0) rfl rfl (by first | (simp; done) | (simp; omega)) c2.size ?_
          intro v3 x3 hown3 b3 hg3
          refine hK.out _ _ ⟨b3, ?_⟩
          clear hK K
          simp only [Act.put, List.setIfInBounds_toArray, List.set_cons_succ, List.set_cons_zero]
          have O3 := Lib.hid hown3; clear hown3
          have X3 := Lib.hid (Rd.grown X2.out hg3 (by simp [Value.ownBlock]; omega))
          have c3 := c2.trans b3; clear b3 hg3
          haveI nonE := cls_ne (N := w.heap.size) x3
          rw [Flow.wpSched_step]
          simp only [Flow.pick]
          refine wpQuiet_nil ?_
          clear nonE
          rw [Flow.callAt_eq]
          simp only [List.getElem?_toArray, List.getElem?_cons_succ, List.getElem?_cons_zero]
          rw [if_pos (by rfl)]
          refine Flow.wp_behind (fun K hK => ?_)
          refine wp_appN _ _ rfl w.heap.size _ ([] ++ ([] : List (List UInt8)).take 0) O3.out _ _ _ ([s]) rfl (X3.out) rfl rfl (by first | (simp; done) | (simp; omega)) c3.size ?_
          intro v4 x4 hown4 b4 hg4
          refine hK.out _ _ ⟨b4, ?_⟩
          clear hK K
          simp only [Act.put, List.setIfInBounds_toArray, List.set_cons_succ, List.set_cons_zero]
          have O4 := Lib.hid hown4; clear hown4
          have c4 := c3.trans b4; clear b4 hg4
          haveI nonE := cls_ne (N := w.heap.size) x4
          rw [Flow.wpSched_step]
          simp only [Flow.pick]
          refine wpQuiet_nil ?_
          clear nonE
          rw [Flow.callAt_eq]
          simp only [List.getElem?_toArray, List.getElem?_cons_succ, List.getElem?_cons_zero]
          rw [if_pos (by rfl)]
          refine Flow.wp_behind (fun K hK => ?_)
          refine wp_appN _ _ rfl w.heap.size _ (([] ++ ([] : List (List UInt8)).take 0) ++ [s]) O4.out _ _ _ (([] : List (List UInt8)).drop 0) HN2.out (HD.out _ c4) rfl rfl (by first | (simp; done) | (simp; omega)) c4.size ?_
          intro v5 x5 hown5 b5 hg5
          refine hK.out _ _ ⟨b5, ?_⟩
          clear hK K
          simp only [Act.put, List.setIfInBounds_toArray, List.set_cons_succ, List.set_cons_zero]
          have O5 := Lib.hid hown5; clear hown5
          have c5 := c4.trans b5; clear b5 hg5
          haveI nonE := cls_ne (N := w.heap.size) x5
          rw [Flow.wpSched_done]
          simp only [Flow.pick, List.getElem?_toArray, List.getElem?_cons_succ, List.getElem?_cons_zero]
          repeat go_big_quiet_step (fail)
          refine wpQuiet_nil ?_
          clear nonE
          go_wp2_with fail
          go_ret
          rw [V.out]
          refine gives_ownL (by simp) ?_ ?_
          · have h := O5.out; simpa using h
          · exact c5
      · obtain ⟨b, o, _, rfl, _, _, _⟩ := HR.out.at_ (List.length_pos_iff.2 hne)
        have hlt2 : ¬ (k : Int) < (xs.length : Int) := by omega
        have hkc : (k : Int) ≤ (c : Int) := by omega
        have hke : (k : Int) ≤ (xs.length : Int) := by omega
        clear hne
        by_cases hfull : k = c
        · subst hfull
          have HN2 : Hid (0 = (xs.drop k).length) := by (show _ = _); simp; omega
          have HD : Hid (∀ W, Below w.heap.size w W → Rd W (some ⟨b, o, none⟩) (xs.drop k)) := fun W hW => by
            rw [List.drop_eq_nil_of_le (by omega)]; exact Rd.nil
          go_wp2_with fail
          have cB := hB
          clear hB
          refine Flow.wp_region_sched (fun u v => Below w.heap.size u v) (fun _ => Below.refl _ _) (fun _ _ _ h k => h.trans k) (.fork [1, 2, 3, 5, 8, 9, 10] 0 6 (.fork [] 4 6 (.step [] 6 (.step [] 7 (.step [] 11 (.done [12])))) (.step [] 4 (.step [] 7 (.step [] 11 (.done [12]))))) (.step [] 0 (.step [] 4 (.step [] 7 (.step [] 11 (.done [12])))))) (by kernel_rfl) (by kernel_rfl) ?_
          have cD := Below.drew cB
          generalize hwd : World.drew _ = wd at *
          clear hwd
          haveI nonE := cls_ne (N := w.heap.size) wd
          rw [Flow.wpSched_fork]
          simp only [Flow.pick, List.getElem?_toArray, List.getElem?_cons_succ, List.getElem?_cons_zero]
          repeat go_big_quiet_step (fail)
          refine wpQuiet_nil ?_
          clear nonE
          refine ⟨?_, ?_⟩
          · rw [Flow.callAt_eq]
            simp only [List.getElem?_toArray, List.getElem?_cons_zero]
            rw [if_pos (by rfl)]
            refine Flow.wp_behind (fun K hK => ?_)
            go_wp2_with fail
            have b1 : Below w.heap.size wd (wd.alloc (.cells #[] 9)) := (Below.refl _ _).alloc cD.size _
            refine hK.out _ _ ⟨b1, ?_⟩
            clear hK K
            have O1 := Lib.hid (own_empty wd w.heap.size cD.size)
            have z1 : wd.heap.size < (wd.alloc (.cells #[] 9)).heap.size := by simp
            have c1 := cD.trans b1; clear b1
            generalize hw1 : wd.alloc (.cells #[] 9) = x1 at *
            clear hw1
            haveI nonE := cls_ne (N := w.heap.size) x1
            rw [Flow.wpSched_fork]
            simp only [Flow.pick]
            refine wpQuiet_nil ?_
            clear nonE
            refine ⟨?_, ?_⟩
            · rw [Flow.callAt_eq]
              simp only [List.getElem?_toArray, List.getElem?_cons_succ, List.getElem?_cons_zero]
              rw [if_pos (by rfl)]
              refine Flow.wp_behind (fun K hK => ?_)
              refine wp_appN _ _ rfl w.heap.size _ ([]) O1.out _ _ _ (xs.take k) HN1.out ((HR.out.below c1).take k) rfl rfl (by first | (simp; done) | (simp; omega)) c1.size ?_
              intro v2 x2 hown2 b2 hg2
              refine hK.out _ _ ⟨b2, ?_⟩
              clear hK K
              simp only [Act.put, List.setIfInBounds_toArray, List.set_cons_succ, List.set_cons_zero]
              have O2 := Lib.hid hown2; clear hown2
              have c2 := c1.trans b2; clear b2 hg2
              haveI nonE := cls_ne (N := w.heap.size) x2
              rw [Flow.wpSched_step]
              simp only [Flow.pick]
              refine wpQuiet_nil ?_
              clear nonE
              rw [Flow.callAt_eq]
              simp only [List.getElem?_toArray, List.getElem?_cons_succ, List.getElem?_cons_zero]
              rw [if_pos (by rfl)]
              refine Flow.wp_behind (fun K hK => ?_)
              go_wp2_with fail
              have b3 : Below w.heap.size x2 (x2.alloc (.cells #[enS s] 9)) := (Below.refl _ _).alloc c2.size _
              refine hK.out _ _ ⟨b3, ?_⟩
              clear hK K
              have X3 := Lib.hid (Rd.one x2 s)
              have z3 : x2.heap.size < (x2.alloc (.cells #[enS s] 9)).heap.size := by simp
              have O3 := Lib.hid (O2.out.alloc (.cells #[enS s] 9))
              have c3 := c2.trans b3; clear b3
              generalize hw3 : x2.alloc (.cells #[enS s] 9) = x3 at *
              clear hw3
              haveI nonE := cls_ne (N := w.heap.size) x3
              rw [Flow.wpSched_step]
              simp only [Flow.pick]
              refine wpQuiet_nil ?_
              clear nonE
              rw [Flow.callAt_eq]
              simp only [List.getElem?_toArray, List.getElem?_cons_succ, List.getElem?_cons_zero]
              rw [if_pos (by rfl)]
              refine Flow.wp_behind (fun K hK => ?_)
              refine wp_appN _ _ rfl w.heap.size _ ([] ++ xs.take k) O3.out _ _ _ ([s]) rfl (X3.out) rfl rfl (by first | (simp; done) | (simp; omega)) c3.size ?_
              intro v4 x4 hown4 b4 hg4
              refine hK.out _ _ ⟨b4, ?_⟩
              clear hK K
              simp only [Act.put, List.setIfInBounds_toArray, List.set_cons_succ, List.set_cons_zero]
              have O4 := Lib.hid hown4; clear hown4
              have c4 := c3.trans b4; clear b4 hg4
              haveI nonE := cls_ne (N := w.heap.size) x4
              rw [Flow.wpSched_step]
              simp only [Flow.pick]
              refine wpQuiet_nil ?_
              clear nonE
              rw [Flow.callAt_eq]
              simp only [List.getElem?_toArray, List.getElem?_cons_succ, List.getElem?_cons_zero]
              rw [if_pos (by rfl)]
              refine Flow.wp_behind (fun K hK => ?_)
              refine wp_appN _ _ rfl w.heap.size _ (([] ++ xs.take k) ++ [s]) O4.out _ _ _ (xs.drop k) HN2.out (HD.out _ c4) rfl rfl (by first | (simp; done) | (simp; omega)) c4.size ?_
              intro v5 x5 hown5 b5 hg5
              refine hK.out _ _ ⟨b5, ?_⟩
              clear hK K
              simp only [Act.put, List.setIfInBounds_toArray, List.set_cons_succ, List.set_cons_zero]
              have O5 := Lib.hid hown5; clear hown5
              have c5 := c4.trans b5; clear b5 hg5
              haveI nonE := cls_ne (N := w.heap.size) x5
              rw [Flow.wpSched_done]
              simp only [Flow.pick, List.getElem?_toArray, List.getElem?_cons_succ, List.getElem?_cons_zero]
              repeat go_big_quiet_step (fail)
              refine wpQuiet_nil ?_
              clear nonE
              go_wp2_with fail
              go_ret
              rw [V.out]
              refine gives_ownL (by simp) ?_ ?_
              · have h := O5.out; simpa using h
              · exact c5
            · rw [Flow.callAt_eq]
              simp only [List.getElem?_toArray, List.getElem?_cons_succ, List.getElem?_cons_zero]
              rw [if_pos (by rfl)]
              refine Flow.wp_behind (fun K hK => ?_)
              go_wp2_with fail
              have b2 : Below w.heap.size x1 (x1.alloc (.cells #[enS s] 9)) := (Below.refl _ _).alloc c1.size _
              refine hK.out _ _ ⟨b2, ?_⟩
              clear hK K
              have X2 := Lib.hid (Rd.one x1 s)
              have z2 : x1.heap.size < (x1.alloc (.cells #[enS s] 9)).heap.size := by simp
              have O2 := Lib.hid (O1.out.alloc (.cells #[enS s] 9))
              have c2 := c1.trans b2; clear b2
              generalize hw2 : x1.alloc (.cells #[enS s] 9) = x2 at *
              clear hw2
              haveI nonE := cls_ne (N := w.heap.size) x2
              rw [Flow.wpSched_step]
              simp only [Flow.pick]
              refine wpQuiet_nil ?_
              clear nonE
              rw [Flow.callAt_eq]
              simp only [List.getElem?_toArray, List.getElem?_cons_succ, List.getElem?_cons_zero]
              rw [if_pos (by rfl)]
              refine Flow.wp_behind (fun K hK => ?_)
              refine wp_appN _ _ rfl w.heap.size _ ([]) O2.out _ _ _ (xs.take k) HN1.out ((HR.out.below c2).take k) rfl rfl (by first | (simp; done) | (simp; omega)) c2.size ?_
              intro v3 x3 hown3 b3 hg3
              refine hK.out _ _ ⟨b3, ?_⟩
              clear hK K
              simp only [Act.put, List.setIfInBounds_toArray, List.set_cons_succ, List.set_cons_zero]
              have O3 := Lib.hid hown3; clear hown3
              have X3 := Lib.hid (Rd.grown X2.out hg3 (by simp [Value.ownBlock]; omega))
              have c3 := c2.trans b3; clear b3 hg3
              haveI nonE := cls_ne (N := w.heap.size) x3
              rw [Flow.wpSched_step]
              simp only [Flow.pick]
              refine wpQuiet_nil ?_
              clear nonE
              rw [Flow.callAt_eq]
              simp only [List.getElem?_toArray, List.getElem?_cons_succ, List.getElem?_cons_zero]
              rw [if_pos (by rfl)]
              refine Flow.wp_behind (fun K hK => ?_)
              refine wp_appN _ _ rfl w.heap.size _ ([] ++ xs.take k) O3.out _ _ _ ([s]) rfl (X3.out) rfl rfl (by first | (simp; done) | (simp; omega)) c3.size ?_
              intro v4 x4 hown4 b4 hg4
              refine hK.out _ _ ⟨b4, ?_⟩
              clear hK K
              simp only [Act.put, List.setIfInBounds_toArray, List.set_cons_succ, List.set_cons_zero]
              have O4 := Lib.hid hown4; clear hown4
              have c4 := c3.trans b4; clear b4 hg4
              haveI nonE := cls_ne (N := w.heap.size) x4
              rw [Flow.wpSched_step]
              simp only [Flow.pick]
              refine wpQuiet_nil ?_
              clear nonE
              rw [Flow.callAt_eq]
              simp only [List.getElem?_toArray, List.getElem?_cons_succ, List.getElem?_cons_zero]
              rw [if_pos (by rfl)]
              refine Flow.wp_behind (fun K hK => ?_)
              refine wp_appN _ _ rfl w.heap.size _ (([] ++ xs.take k) ++ [s]) O4.out _ _ _ (xs.drop k) HN2.out (HD.out _ c4) rfl rfl (by first | (simp; done) | (simp; omega)) c4.size ?_
              intro v5 x5 hown5 b5 hg5
              refine hK.out _ _ ⟨b5, ?_⟩
              clear hK K
              simp only [Act.put, List.setIfInBounds_toArray, List.set_cons_succ, List.set_cons_zero]
              have O5 := Lib.hid hown5; clear hown5
              have c5 := c4.trans b5; clear b5 hg5
              haveI nonE := cls_ne (N := w.heap.size) x5
              rw [Flow.wpSched_done]
              simp only [Flow.pick, List.getElem?_toArray, List.getElem?_cons_succ, List.getElem?_cons_zero]
              repeat go_big_quiet_step (fail)
              refine wpQuiet_nil ?_
              clear nonE
              go_wp2_with fail
              go_ret
              rw [V.out]
              refine gives_ownL (by simp) ?_ ?_
              · have h := O5.out; simpa using h
              · exact c5
          · rw [Flow.callAt_eq]
            simp only [List.getElem?_toArray, List.getElem?_cons_succ, List.getElem?_cons_zero]
            rw [if_pos (by rfl)]
            refine Flow.wp_behind (fun K hK => ?_)
            go_wp2_with fail
            have b1 : Below w.heap.size wd (wd.alloc (.cells #[enS s] 9)) := (Below.refl _ _).alloc cD.size _
            refine hK.out _ _ ⟨b1, ?_⟩
            clear hK K
            have X1 := Lib.hid (Rd.one wd s)
            have z1 : wd.heap.size < (wd.alloc (.cells #[enS s] 9)).heap.size := by simp
            have c1 := cD.trans b1; clear b1
            generalize hw1 : wd.alloc (.cells #[enS s] 9) = x1 at *
            clear hw1
            haveI nonE := cls_ne (N := w.heap.size) x1
            rw [Flow.wpSched_step]
            simp only [Flow.pick]
            refine wpQuiet_nil ?_
            clear nonE
            rw [Flow.callAt_eq]
            simp only [List.getElem?_toArray, List.getElem?_cons_zero]
            rw [if_pos (by rfl)]
            refine Flow.wp_behind (fun K hK => ?_)
            go_wp2_with fail
            have b2 : Below w.heap.size x1 (x1.alloc (.cells #[] 9)) := (Below.refl _ _).alloc c1.size _
            refine hK.out _ _ ⟨b2, ?_⟩
            clear hK K
            have O2 := Lib.hid (own_empty x1 w.heap.size c1.size)
            have z2 : x1.heap.size < (x1.alloc (.cells #[] 9)).heap.size := by simp
            have X2 := Lib.hid (X1.out.below (below_new x1 (.cells #[] 9)))
            have c2 := c1.trans b2; clear b2
            generalize hw2 : x1.alloc (.cells #[] 9) = x2 at *
            clear hw2
            haveI nonE := cls_ne (N := w.heap.size) x2
            rw [Flow.wpSched_step]
            simp only [Flow.pick]
            refine wpQuiet_nil ?_
            clear nonE
            rw [Flow.callAt_eq]
            simp only [List.getElem?_toArray, List.getElem?_cons_succ, List.getElem?_cons_zero]
            rw [if_pos (by rfl)]
            refine Flow.wp_behind (fun K hK => ?_)
            refine wp_appN _ _ rfl w.heap.size _ ([]) O2.out _ _ _ (xs.take k) HN1.out ((HR.out.below c2).take k) rfl rfl (by first | (simp; done) | (simp; omega)) c2.size ?_
            intro v3 x3 hown3 b3 hg3
            refine hK.out _ _ ⟨b3, ?_⟩
            clear hK K
            simp only [Act.put, List.setIfInBounds_toArray, List.set_cons_succ, List.set_cons_zero]
            have O3 := Lib.hid hown3; clear hown3
            have X3 := Lib.hid (Rd.grown X2.out hg3 (by simp [Value.ownBlock]; omega))
            have c3 := c2.trans b3; clear b3 hg3
            haveI nonE := cls_ne (N := w.heap.size) x3
            rw [Flow.wpSched_step]
            simp only [Flow.pick]
            refine wpQuiet_nil ?_
            clear nonE
            rw [Flow.callAt_eq]
            simp only [List.getElem?_toArray, List.getElem?_cons_succ, List.getElem?_cons_zero]
            rw [if_pos (by rfl)]
            refine Flow.wp_behind (fun K hK => ?_)
            refine wp_appN _ _ rfl w.heap.size _ ([] ++ xs.take k) O3.out _ _ _ ([s]) rfl (X3.out) rfl rfl (by first | (simp; done) | (simp; omega)) c3.size ?_
            intro v4 x4 hown4 b4 hg4
            refine hK.out _ _ ⟨b4, ?_⟩
            clear hK K
            simp only [Act.put, List.setIfInBounds_toArray, List.set_cons_succ, List.set_cons_zero]
            have O4 := Lib.hid hown4; clear hown4
            have c4 := c3.trans b4; clear b4 hg4
            haveI nonE := cls_ne (N := w.heap.size) x4
            rw [Flow.wpSched_step]
            simp only [Flow.pick]
            refine wpQuiet_nil ?_
            clear nonE
            rw [Flow.callAt_eq]
            simp only [List.getElem?_toArray, List.getElem?_cons_succ, List.getElem?_cons_zero]
            rw [if_pos (by rfl)]
            refine Flow.wp_behind (fun K hK => ?_)
            refine wp_appN _ _ rfl w.heap.size _ (([] ++ xs.take k) ++ [s]) O4.out _ _ _ (xs.drop k) HN2.out (HD.out _ c4) rfl rfl (by first | (simp; done) | (simp; omega)) c4.size ?_
            intro v5 x5 hown5 b5 hg5
            refine hK.out _ _ ⟨b5, ?_⟩
            clear hK K
            simp only [Act.put, List.setIfInBounds_toArray, List.set_cons_succ, List.set_cons_zero]
            have O5 := Lib.hid hown5; clear hown5
            have c5 := c4.trans b5; clear b5 hg5
            haveI nonE := cls_ne (N := w.heap.size) x5
            rw [Flow.wpSched_done]
            simp only [Flow.pick, List.getElem?_toArray, List.getElem?_cons_succ, List.getElem?_cons_zero]
            repeat go_big_quiet_step (fail)
            refine wpQuiet_nil ?_
            clear nonE
            go_wp2_with fail
            go_ret
            rw [V.out]
            refine gives_ownL (by simp) ?_ ?_
            · have h := O5.out; simpa using h
            · exact c5
        · have HD : Hid (∀ W, Below w.heap.size w W → Rd W (some ⟨b, o + k, none⟩) (xs.drop k)) := fun W hW => (HR.out.below hW).drop k
          have hcn : ¬ k = c := hfull
          go_wp2_with fail
          have cB := hB
          clear hB
          refine Flow.wp_region_sched (fun u v => Below w.heap.size u v) (fun _ => Below.refl _ _) (fun _ _ _ h k => h.trans k) (.fork [1, 2, 3, 5, 8, 9, 10] 0 6 (.fork [] 4 6 (.step [] 6 (.step [] 7 (.step [] 11 (.done [12])))) (.step [] 4 (.step [] 7 (.step [] 11 (.done [12]))))) (.step [] 0 (.step [] 4 (.step [] 7 (.step [] 11 (.done [12])))))) (by kernel_rfl) (by kernel_rfl) ?_
          have cD := Below.drew cB
          generalize hwd : World.drew _ = wd at *
          clear hwd
          haveI nonE := cls_ne (N := w.heap.size) wd
          rw [Flow.wpSched_fork]
          simp only [Flow.pick, List.getElem?_toArray, List.getElem?_cons_succ, List.getElem?_cons_zero]
          repeat go_big_quiet_step (fail)
          refine wpQuiet_nil ?_
          clear nonE
          refine ⟨?_, ?_⟩
          · rw [Flow.callAt_eq]
            simp only [List.getElem?_toArray, List.getElem?_cons_zero]
            rw [if_pos (by rfl)]
            refine Flow.wp_behind (fun K hK => ?_)
            go_wp2_with fail
            have b1 : Below w.heap.size wd (wd.alloc (.cells #[] 9)) := (Below.refl _ _).alloc cD.size _
            refine hK.out _ _ ⟨b1, ?_⟩
            clear hK K
            have O1 := Lib.hid (own_empty wd w.heap.size cD.size)
            have z1 : wd.heap.size < (wd.alloc (.cells #[] 9)).heap.size := by simp
            have c1 := cD.trans b1; clear b1
            generalize hw1 : wd.alloc (.cells #[] 9) = x1 at *
            clear hw1
            haveI nonE := cls_ne (N := w.heap.size) x1
            rw [Flow.wpSched_fork]
            simp only [Flow.pick]
            refine wpQuiet_nil ?_
            clear nonE
            refine ⟨?_, ?_⟩
            · rw [Flow.callAt_eq]
              simp only [List.getElem?_toArray, List.getElem?_cons_succ, List.getElem?_cons_zero]
              rw [if_pos (by rfl)]
              refine Flow.wp_behind (fun K hK => ?_)
              refine wp_appN _ _ rfl w.heap.size _ ([]) O1.out _ _ _ (xs.take k) HN1.out ((HR.out.below c1).take k) rfl rfl (by first | (simp; done) | (simp; omega)) c1.size ?_
              intro v2 x2 hown2 b2 hg2
              refine hK.out _ _ ⟨b2, ?_⟩
              clear hK K
              simp only [Act.put, List.setIfInBounds_toArray, List.set_cons_succ, List.set_cons_zero]
              have O2 := Lib.hid hown2; clear hown2
              have c2 := c1.trans b2; clear b2 hg2
              haveI nonE := cls_ne (N := w.heap.size) x2
              rw [Flow.wpSched_step]
              simp only [Flow.pick]
              refine wpQuiet_nil ?_
              clear nonE
              rw [Flow.callAt_eq]
              simp only [List.getElem?_toArray, List.getElem?_cons_succ, List.getElem?_cons_zero]
              rw [if_pos (by rfl)]
              refine Flow.wp_behind (fun K hK => ?_)
              go_wp2_with fail
              have b3 : Below w.heap.size x2 (x2.alloc (.cells #[enS s] 9)) := (Below.refl _ _).alloc c2.size _
              refine hK.out _ _ ⟨b3, ?_⟩
              clear hK K
              have X3 := Lib.hid (Rd.one x2 s)
              have z3 : x2.heap.size < (x2.alloc (.cells #[enS s] 9)).heap.size := by simp
              have O3 := Lib.hid (O2.out.alloc (.cells #[enS s] 9))
              have c3 := c2.trans b3; clear b3
              generalize hw3 : x2.alloc (.cells #[enS s] 9) = x3 at *
              clear hw3
              haveI nonE := cls_ne (N := w.heap.size) x3
              rw [Flow.wpSched_step]
              simp only [Flow.pick]
              refine wpQuiet_nil ?_
              clear nonE
              rw [Flow.callAt_eq]
              simp only [List.getElem?_toArray, List.getElem?_cons_succ, List.getElem?_cons_zero]
              rw [if_pos (by rfl)]
              refine Flow.wp_behind (fun K hK => ?_)
              refine wp_appN _ _ rfl w.heap.size _ ([] ++ xs.take k) O3.out _ _ _ ([s]) rfl (X3.out) rfl rfl (by first | (simp; done) | (simp; omega)) c3.size ?_
              intro v4 x4 hown4 b4 hg4
              refine hK.out _ _ ⟨b4, ?_⟩
              clear hK K
              simp only [Act.put, List.setIfInBounds_toArray, List.set_cons_succ, List.set_cons_zero]
              have O4 := Lib.hid hown4; clear hown4
              have c4 := c3.trans b4; clear b4 hg4
              haveI nonE := cls_ne (N := w.heap.size) x4
              rw [Flow.wpSched_step]
              simp only [Flow.pick]
              refine wpQuiet_nil ?_
              clear nonE
              rw [Flow.callAt_eq]
              simp only [List.getElem?_toArray, List.getElem?_cons_succ, List.getElem?_cons_zero]
              rw [if_pos (by rfl)]
              refine Flow.wp_behind (fun K hK => ?_)
              refine wp_appN _ _ rfl w.heap.size _ (([] ++ xs.take k) ++ [s]) O4.out _ _ _ (xs.drop k) HN2.out (HD.out _ c4) rfl rfl (by first | (simp; done) | (simp; omega)) c4.size ?_
              intro v5 x5 hown5 b5 hg5
              refine hK.out _ _ ⟨b5, ?_⟩
              clear hK K
              simp only [Act.put, List.setIfInBounds_toArray, List.set_cons_succ, List.set_cons_zero]
              have O5 := Lib.hid hown5; clear hown5
              have c5 := c4.trans b5; clear b5 hg5
              haveI nonE := cls_ne (N := w.heap.size) x5
              rw [Flow.wpSched_done]
              simp only [Flow.pick, List.getElem?_toArray, List.getElem?_cons_succ, List.getElem?_cons_zero]
              repeat go_big_quiet_step (fail)
              refine wpQuiet_nil ?_
              clear nonE
              go_wp2_with fail
              go_ret
              rw [V.out]
              refine gives_ownL (by simp) ?_ ?_
              · have h := O5.out; simpa using h
              · exact c5
            · rw [Flow.callAt_eq]
              simp only [List.getElem?_toArray, List.getElem?_cons_succ, List.getElem?_cons_zero]
              rw [if_pos (by rfl)]
              refine Flow.wp_behind (fun K hK => ?_)
              go_wp2_with fail
              have b2 : Below w.heap.size x1 (x1.alloc (.cells #[enS s] 9)) := (Below.refl _ _).alloc c1.size _
              refine hK.out _ _ ⟨b2, ?_⟩
              clear hK K
              have X2 := Lib.hid (Rd.one x1 s)
              have z2 : x1.heap.size < (x1.alloc (.cells #[enS s] 9)).heap.size := by simp
              have O2 := Lib.hid (O1.out.alloc (.cells #[enS s] 9))
              have c2 := c1.trans b2; clear b2
              generalize hw2 : x1.alloc (.cells #[enS s] 9) = x2 at *
              clear hw2
              haveI nonE := cls_ne (N := w.heap.size) x2
              rw [Flow.wpSched_step]
              simp only [Flow.pick]
              refine wpQuiet_nil ?_
              clear nonE
              rw [Flow.callAt_eq]
              simp only [List.getElem?_toArray, List.getElem?_cons_succ, List.getElem?_cons_zero]
              rw [if_pos (by rfl)]
              refine Flow.wp_behind (fun K hK => ?_)
              refine wp_appN _ _ rfl w.heap.size _ ([]) O2.out _ _ _ (xs.take k) HN1.out ((HR.out.below c2).take k) rfl rfl (by first | (simp; done) | (simp; omega)) c2.size ?_
              intro v3 x3 hown3 b3 hg3
              refine hK.out _ _ ⟨b3, ?_⟩
              clear hK K
              simp only [Act.put, List.setIfInBounds_toArray, List.set_cons_succ, List.set_cons_zero]
              have O3 := Lib.hid hown3; clear hown3
              have X3 := Lib.hid (Rd.grown X2.out hg3 (by simp [Value.ownBlock]; omega))
              have c3 := c2.trans b3; clear b3 hg3
              haveI nonE := cls_ne (N := w.heap.size) x3
              rw [Flow.wpSched_step]
              simp only [Flow.pick]
              refine wpQuiet_nil ?_
              clear nonE
              rw [Flow.callAt_eq]
              simp only [List.getElem?_toArray, List.getElem?_cons_succ, List.getElem?_cons_zero]
              rw [if_pos (by rfl)]
              refine Flow.wp_behind (fun K hK => ?_)
              refine wp_appN _ _ rfl w.heap.size _ ([] ++ xs.take k) O3.out _ _ _ ([s]) rfl (X3.out) rfl rfl (by first | (simp; done) | (simp; omega)) c3.size ?_
              intro v4 x4 hown4 b4 hg4
              refine hK.out _ _ ⟨b4, ?_⟩
              clear hK K
              simp only [Act.put, List.setIfInBounds_toArray, List.set_cons_succ, List.set_cons_zero]
              have O4 := Lib.hid hown4; clear hown4
              have c4 := c3.trans b4; clear b4 hg4
              haveI nonE := cls_ne (N := w.heap.size) x4
              rw [Flow.wpSched_step]
              simp only [Flow.pick]
              refine wpQuiet_nil ?_
              clear nonE
              rw [Flow.callAt_eq]
              simp only [List.getElem?_toArray, List.getElem?_cons_succ, List.getElem?_cons_zero]
              rw [if_pos (by rfl)]
              refine Flow.wp_behind (fun K hK => ?_)
              refine wp_appN _ _ rfl w.heap.size _ (([] ++ xs.take k) ++ [s]) O4.out _ _ _ (xs.drop k) HN2.out (HD.out _ c4) rfl rfl (by first | (simp; done) | (simp; omega)) c4.size ?_
              intro v5 x5 hown5 b5 hg5
              refine hK.out _ _ ⟨b5, ?_⟩
              clear hK K
              simp only [Act.put, List.setIfInBounds_toArray, List.set_cons_succ, List.set_cons_zero]
              have O5 := Lib.hid hown5; clear hown5
              have c5 := c4.trans b5; clear b5 hg5
              haveI nonE := cls_ne (N := w.heap.size) x5
              rw [Flow.wpSched_done]
              simp only [Flow.pick, List.getElem?_toArray, List.getElem?_cons_succ, List.getElem?_cons_zero]
              repeat go_big_quiet_step (fail)
              refine wpQuiet_nil ?_
              clear nonE
              go_wp2_with fail
              go_ret
              rw [V.out]
              refine gives_ownL (by simp) ?_ ?_
              · have h := O5.out; simpa using h
              · exact c5
          · rw [Flow.callAt_eq]
            simp only [List.getElem?_toArray, List.getElem?_cons_succ, List.getElem?_cons_zero]
            rw [if_pos (by rfl)]
            refine Flow.wp_behind (fun K hK => ?_)
            go_wp2_with fail
            have b1 : Below w.heap.size wd (wd.alloc (.cells #[enS s] 9)) := (Below.refl _ _).alloc cD.size _
            refine hK.out _ _ ⟨b1, ?_⟩
            clear hK K
            have X1 := Lib.hid (Rd.one wd s)
            have z1 : wd.heap.size < (wd.alloc (.cells #[enS s] 9)).heap.size := by simp
            have c1 := cD.trans b1; clear b1
            generalize hw1 : wd.alloc (.cells #[enS s] 9) = x1 at *
            clear hw1
            haveI nonE := cls_ne (N := w.heap.size) x1
            rw [Flow.wpSched_step]
            simp only [Flow.pick]
            refine wpQuiet_nil ?_
            clear nonE
            rw [Flow.callAt_eq]
            simp only [List.getElem?_toArray, List.getElem?_cons_zero]
            rw [if_pos (by rfl)]
            refine Flow.wp_behind (fun K hK => ?_)
            go_wp2_with fail
            have b2 : Below w.heap.size x1 (x1.alloc (.cells #[] 9)) := (Below.refl _ _).alloc c1.size _
            refine hK.out _ _ ⟨b2, ?_⟩
            clear hK K
            have O2 := Lib.hid (own_empty x1 w.heap.size c1.size)
            have z2 : x1.heap.size < (x1.alloc (.cells #[] 9)).heap.size := by simp
            have X2 := Lib.hid (X1.out.below (below_new x1 (.cells #[] 9)))
            have c2 := c1.trans b2; clear b2
            generalize hw2 : x1.alloc (.cells #[] 9) = x2 at *
            clear hw2
            haveI nonE := cls_ne (N := w.heap.size) x2
            rw [Flow.wpSched_step]
            simp only [Flow.pick]
            refine wpQuiet_nil ?_
            clear nonE
            rw [Flow.callAt_eq]
            simp only [List.getElem?_toArray, List.getElem?_cons_succ, List.getElem?_cons_zero]
            rw [if_pos (by rfl)]
            refine Flow.wp_behind (fun K hK => ?_)
            refine wp_appN _ _ rfl w.heap.size _ ([]) O2.out _ _ _ (xs.take k) HN1.out ((HR.out.below c2).take k) rfl rfl (by first | (simp; done) | (simp; omega)) c2.size ?_
            intro v3 x3 hown3 b3 hg3
            refine hK.out _ _ ⟨b3, ?_⟩
            clear hK K
            simp only [Act.put, List.setIfInBounds_toArray, List.set_cons_succ, List.set_cons_zero]
            have O3 := Lib.hid hown3; clear hown3
            have X3 := Lib.hid (Rd.grown X2.out hg3 (by simp [Value.ownBlock]; omega))
            have c3 := c2.trans b3; clear b3 hg3
            haveI nonE := cls_ne (N := w.heap.size) x3
            rw [Flow.wpSched_step]
            simp only [Flow.pick]
            refine wpQuiet_nil ?_
            clear nonE
            rw [Flow.callAt_eq]
            simp only [List.getElem?_toArray, List.getElem?_cons_succ, List.getElem?_cons_zero]
            rw [if_pos (by rfl)]
            refine Flow.wp_behind (fun K hK => ?_)
            refine wp_appN _ _ rfl w.heap.size _ ([] ++ xs.take k) O3.out _ _ _ ([s]) rfl (X3.out) rfl rfl (by first | (simp; done) | (simp; omega)) c3.size ?_
            intro v4 x4 hown4 b4 hg4
            refine hK.out _ _ ⟨b4, ?_⟩
            clear hK K
            simp only [Act.put, List.setIfInBounds_toArray, List.set_cons_succ, List.set_cons_zero]
            have O4 := Lib.hid hown4; clear hown4
            have c4 := c3.trans b4; clear b4 hg4
            haveI nonE := cls_ne (N := w.heap.size) x4
            rw [Flow.wpSched_step]
            simp only [Flow.pick]
            refine wpQuiet_nil ?_
            clear nonE
            rw [Flow.callAt_eq]
            simp only [List.getElem?_toArray, List.getElem?_cons_succ, List.getElem?_cons_zero]
            rw [if_pos (by rfl)]
            refine Flow.wp_behind (fun K hK => ?_)
            refine wp_appN _ _ rfl w.heap.size _ (([] ++ xs.take k) ++ [s]) O4.out _ _ _ (xs.drop k) HN2.out (HD.out _ c4) rfl rfl (by first | (simp; done) | (simp; omega)) c4.size ?_
            intro v5 x5 hown5 b5 hg5
            refine hK.out _ _ ⟨b5, ?_⟩
            clear hK K
            simp only [Act.put, List.setIfInBounds_toArray, List.set_cons_succ, List.set_cons_zero]
            have O5 := Lib.hid hown5; clear hown5
            have c5 := c4.trans b5; clear b5 hg5
            haveI nonE := cls_ne (N := w.heap.size) x5
            rw [Flow.wpSched_done]
            simp only [Flow.pick, List.getElem?_toArray, List.getElem?_cons_succ, List.getElem?_cons_zero]
            repeat go_big_quiet_step (fail)
            refine wpQuiet_nil ?_
            clear nonE
            go_wp2_with fail
            go_ret
            rw [V.out]
            refine gives_ownL (by simp) ?_ ?_
            · have h := O5.out; simpa using h
            · exact c5
end Go.Proofs.YtcagooijkecmoaaDoor
