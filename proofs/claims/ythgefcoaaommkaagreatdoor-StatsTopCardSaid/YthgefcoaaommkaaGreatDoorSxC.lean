/- The program's Top behind its first loop. -/
import Derived.Test.YthgefcoaaommkaaGreatDoorSxB
import Derived.Test.YthgefcoaaommkaaGreatDoorZh
import Derived.Test.YthgefcoaaommkaaGreatDoorZi
import Derived.Test.YthgefcoaaommkaaGreatDoorZa
import Derived.Test.YthgefcoaaommkaaGreatDoorZc
import Derived.Deep.CutBlock
namespace Go.Proofs.YthgefcoaaommkaaGreatDoor
open Go.RowKit Go.Gn Go.Sr Go.Maps Go.Sort

theorem enS_inj2 {a b : List UInt8} (h : enS a = enS b) : a = b := by
  injection h with h; injection h with h; injection h
noncomputable def strK : KV Tryz.prog 9 (List UInt8) C := KV.of (string_keyed Tryz.underlying9) enS (fun s => s.length ≤ maxLen) (fun s h => by rw [Go.WideMaps.keyOf_string_mk (s := ⟨s.toArray⟩) Tryz.underlying9 (show s.toArray.size ≤ maxLen by simpa using h)]; rfl) (fun a b h => enS_inj2 h) cV cV_inj
section
variable {w : World} {ops : Array Oper} {rest : List Oper} {o : Oper} {a : Act} {Q : Exit → Act → World → Prop}
theorem wpList_next_str (hg : o.guard = none) (it : Operand) (hop : o.op = Op.next it false) (b r : Nat) (L done : List (List UInt8 × C)) (hit : a.eval it = .pointer (some ⟨r, 0, none⟩)) (h : RngA strK w b r L done)
    (hDone : done.Perm L → wpList Tryz.prog ops Q rest (a.put o.dst (.tuple #[.bool false])) w)
    (hMore : ∀ x c1 c2 w', (x, (c1, c2)) ∈ L → RngA strK w' b r L (done ++ [(x, (c1, c2))]) → w.grownBy w' (some r) → w'.heap.size = w.heap.size →
      (Instr.entry (.pointer (some ⟨r, 0, none⟩))).run Tryz.prog w' = .ok (.tuple #[enS x, .agg #[i64 c1, i64 c2]]) w' → wpList Tryz.prog ops Q rest (a.put o.dst (.tuple #[.bool true, enS x, .agg #[i64 c1, i64 c2]])) w') :
    wpList Tryz.prog ops Q (o :: rest) a w :=
  wpList_next_a w hg it hop strK b r L done hit h hDone fun x c w' h1 _ _ h4 h5 h6 h7 => hMore x c.1 c.2 w' h1 h4 h5 h6 h7
end
theorem run_eql_slice_nil2 {P : Program} (w : World) (t e : TypeId) (a : Option Addr) (l c : Nat) (h : P.underlying t = some (.slice e)) : (binOp .eql t (.slice a l c) (.slice none 0 0)).run P w = .ok (.bool a.isNone) w := by
  simp [binOp, run_equal_slice_nil w t e a l c h]
theorem wpList_build2 {P : Program} {w : World} {ops : Array Oper} {rest : List Oper} {o : Oper} {a : Act} {Q : Exit → Act → World → Prop} (hg : o.guard = none) (t : TypeId) (x0 x1 : Operand) (ho : o.op = .build t #[(0, x0), (1, x1)]) (v0 v1 : Value) (h0 : a.eval x0 = v0) (h1 : a.eval x1 = v1) (cells : Array Value) (hb : P.built t [(0, v0), (1, v1)] = some cells)
    (hK : wpList P ops Q rest (a.put o.dst (.agg cells)) w) : wpList P ops Q (o :: rest) a w := by
  refine wpList_plain hg fun K hk => ?_
  unfold Oper.wp execOp
  have e : P.built t (#[(0, x0), (1, x1)].map fun (i, x) => (i, a.eval x)).toList = some cells := by simpa [h0, h1] using hb
  simp only [ho, Sem.run_bind, run_build w t _ cells e, Result.andThen_ok]
  exact hk _ _ hK

set_option maxRecDepth 100000 in
set_option maxHeartbeats 4000000 in
theorem cloneEnt_any (A : Option Addr) (c : Nat) (l : List Ent1) (w : World) (h : RdC w A (l.flatMap entL)) (hl : l.length ≤ 1000000) :
    Calls Tryz.prog 39 #[.slice A l.length c] w fun e w' => ∃ A' c', e = .returned (.slice A' l.length c') ∧ l.length ≤ c' ∧ c' ≤ maxLen ∧ RdC w' A' (l.flatMap entL) ∧ Below w.heap.size w w' := by
  obtain ⟨i0, hi, hz0, hz1, hz2⟩ := ent_info
  have hnil := fun (a : Option Addr) (l c : Nat) W => run_eql_slice_nil2 W 28 36 a l c Tryz.underlying28
  cases A with
  | none =>
    cases l with
    | cons a l =>
      obtain ⟨b, o, e, _⟩ := h (by rw [ent_len, List.length_cons]; omega)
      cases e
    | nil =>
      clear h
      go_enter Tryz.func39, Tryz.ntmps39
      go_wp2_with fail
      go_ret
      exact ⟨none, 0, rfl, by simp, by simp [maxLen], fun hl => by simp at hl, Below.refl _ _⟩
  | some ad =>
    have OE := Lib.hid (own2_empty w w.heap.size 3 36 (Nat.le_refl _))
    have HRX := Lib.hid (RdC.below h (below_new w (.cells #[] 36)))
    have hsz : w.heap.size ≤ (w.alloc (.cells #[] 36)).heap.size := by simp
    have B0 := Lib.hid (below_new w (.cells #[] 36))
    have hel := ent_len l
    have h1l := one_ents l
    clear h
    go_enter Tryz.func39, Tryz.ntmps39
    go_wp2_with (at_builtin; refine wpList_appC Tryz.underlying28 hi hz0 hz1 hz2 rfl (by decide) _ rfl _ _ rfl w.heap.size _ 0 [] OE.out rfl _ l.length _ (l.flatMap entL) hel HRX.out rfl h1l (by omega) (by decide) hsz ?_; intro v9 w9 hown9 hg9 hb9)
    obtain ⟨A9, c9, rfl⟩ := own2_slice hown9
    rw [Nat.zero_add, List.nil_append] at hown9
    have F1 := Lib.hid (own2_le hown9)
    have F2 := Lib.hid (own2_cap hown9)
    have F3 := Lib.hid (RdC.of_own hown9)
    have F4 := Lib.hid (B0.out.trans hb9)
    clear hown9 hg9 hb9 OE HRX B0
    rw [Nat.zero_add]
    go_wp2_with fail
    go_ret
    exact ⟨A9, c9, rfl, F1.out, F2.out, F3.out, F4.out⟩

set_option maxRecDepth 100000 in
set_option maxHeartbeats 8000000 in
theorem topTail6 {v0 v1 v2 v3 v5 v6 v7 v8 v9 v10 v11 v12 v13 v14 v16 v17 v18 v19 v20 v21 v22 v23 v24 v25 v26 v27 v28 v29 v30 v31 v32 v33 v34 v35 v36 v37 v38 v39 v40 v41 v42 v43 v44 v45 v46 v47 v48 v49 v50 v51 v52 v53 v54 v55 v56 v57 v58 v59 v60 v61 v62 v63 v64 v65 v66 v67 v68 v69 v70 v71 v72 v73 v74 v75 v76 v77 v78 v79 v80 v81 v82 v83 v84 v85 v86 v87 v88 : Value} (A : Option Addr) (c : Nat) (M : List Ent1) (ns L : List (Ky × C)) (kind x y most : Int) (w W : World) (hb : Below w.heap.size w W) (hown : W.ownsRow w.heap.size 36 3 (.slice A M.length c) M.length (M.flatMap entL)) (hML : M.length ≤ 100000) (hL : L.Perm ns) (hM : M.Perm (sumsT kind x y L)) (hmost : 0 ≤ most) :
    Code.wp Tryz.prog (Flow.rest 6 Tryz.f12) (bodyPost Tryz.prog Tryz.f12 fun e w' => ∃ (A' : Option Addr) (c' : Nat) (L : List (Ky × C)) (xs : List Ent1), e = .returned (.tuple #[.slice A' (min xs.length most.toNat) c', i64 0]) ∧ min xs.length most.toNat ≤ c' ∧ c' ≤ maxLen ∧ L.Perm ns ∧ xs.Perm (sumsT kind x y L) ∧ (xs.Pairwise fun a b => ecmp a b ≤ 0) ∧ RdC w' A' ((xs.take most.toNat).flatMap entL) ∧ Below w.heap.size w w') ⟨#[v0, v1, v2, v3, i64 most, v5, v6, v7, v8, v9, v10, v11, v12, v13, v14, .slice A M.length c, v16, v17, v18, v19, v20, v21, v22, v23, v24, v25, v26, v27, v28, v29, v30, v31, v32, v33, v34, v35, v36, v37, v38, v39, v40, v41, v42, v43, v44, v45, v46, v47, v48, v49, v50, v51, v52, v53, v54, v55, v56, v57, v58, v59, v60, v61, v62, v63, v64, v65, v66, v67, v68, v69, v70, v71, v72, v73, v74, v75, v76, v77, v78, v79, v80, v81, v82, v83, v84, v85, v86, v87, v88], []⟩ W := by
  refine Flow.wp_rest rfl ?_
  have BW := Lib.hid hb
  have hle := own2_le hown
  have hcm := own2_cap hown
  have HS := Lib.hid (sortEnt_any w.heap.size A c M W hown (by omega))
  have HBS := Lib.hid (fun W2 (hg : W.grownBy W2 (Value.slice A M.length c).ownBlock) => own_grown_below hown hb.size hg)
  have HM := Lib.hid hM
  have HL := Lib.hid hL
  unfold maxLen at hcm
  clear hown hb
  dsimp only
  go_wp2_with fail
  refine HS.out.mono ?_; rintro e W2 ⟨rfl, m, hperm, hsort, hown2, hgr⟩
  have BW2 := Lib.hid (BW.out.trans (HBS.out W2 hgr))
  have hml : m.length = M.length := hperm.length_eq
  have R2 : Hid (RdC W2 A ((m.take most.toNat).flatMap entL)) := Lib.hid (by rw [← ent_take]; exact RdC.pre (RdC.of_own hown2) _)
  have HXS : Hid (m.Perm (sumsT kind x y L)) := Lib.hid (hperm.trans HM.out)
  have HSO : Hid (m.Pairwise fun a b => ecmp a b ≤ 0) := Lib.hid (hsort.imp fun {a b} hab => by
    unfold ltOf at hab
    have h1 : ¬ ecmp b a < 0 := of_decide_eq_false hab
    have h2 := ecmp_lin.anti a b
    show ecmp a b ≤ 0
    omega)
  have hlt : (m.take most.toNat).length = min m.length most.toNat := by rw [List.length_take]; exact Nat.min_comm _ _
  have HCL := Lib.hid (fun cc => cloneEnt_any A cc (m.take most.toNat) W2 R2.out (by omega))
  clear HS HBS BW hown2 hgr hsort hperm HM
  rw [hlt, hml] at HCL
  go_wp2_with fail
  have hmn : (min (M.length : Int) most).toNat = min M.length most.toNat := by omega
  all_goals (try rw [hmn])
  all_goals (refine (HCL.out _).mono ?_; rintro e W3 ⟨A3, c3, rfl, f1, f2, f3, f4⟩)
  all_goals (have BE := Lib.hid (BW2.out.tr f4))
  all_goals (have F := Lib.hid (And.intro f1 (And.intro f2 f3)))
  all_goals clear f1 f2 f3 f4 BW2 HCL R2
  all_goals go_wp2_with fail
  exact bodyPost_ret (v := .tuple #[.slice A3 (min M.length most.toNat) c3, i64 0]) (by simp [results, Tryz.results12, go_sem]) rfl ⟨A3, c3, L, m, by rw [hml], by rw [hml]; exact F.out.1, F.out.2.1, HL.out, HXS.out, HSO.out, F.out.2.2, BE.out⟩

theorem sumsT_len (kind a b : Int) (L : List (Ky × C)) : (sumsT kind a b L).length ≤ L.length := snoc_ind (p := fun L => (sumsT kind a b L).length ≤ L.length) (Nat.le_refl _) (fun L q ih => by
  show (sumsT kind a b (L ++ [q])).length ≤ (L ++ [q]).length
  rw [sumsT_snoc, List.length_append]
  have ih : (sumsT kind a b L).length ≤ L.length := ih
  simp only [List.length_singleton]
  split
  · unfold addA
    rw [putA_length]
    split <;> omega
  · omega) L
set_option maxRecDepth 100000 in
set_option maxHeartbeats 8000000 in
theorem topTail4 {v1 v2 v3 v5 v6 v7 v8 v9 v10 v11 v13 v14 v15 v16 v17 v18 v19 v20 v21 v22 v23 v24 v25 v26 v27 v28 v29 v30 v31 v32 v33 v34 v35 v36 v37 v38 v39 v40 v41 v42 v43 v44 v45 v46 v47 v48 v49 v50 v51 v52 v53 v54 v55 v56 v57 v58 v59 v60 v61 v62 v63 v64 v65 v66 v67 v68 v69 v70 v71 v72 v73 v74 v75 v76 v77 v78 v79 v80 v81 v82 v83 v84 v85 v86 v87 v88 : Value} (p mb : Nat) (M : List (List UInt8 × C)) (ns L : List (Ky × C)) (kind x y most : Int) (w W : World) (hb : Below w.heap.size w W) (_hmb : w.heap.size ≤ mb) (hm : MapA strK W mb M) (hML : M.length ≤ 100000) (hL : L.Perm ns) (hM : M = sumsT kind x y L) (hmost : 0 ≤ most) :
    Code.wp Tryz.prog (Flow.rest 4 Tryz.f12) (bodyPost Tryz.prog Tryz.f12 fun e w' => ∃ (A' : Option Addr) (c' : Nat) (L : List (Ky × C)) (xs : List Ent1), e = .returned (.tuple #[.slice A' (min xs.length most.toNat) c', i64 0]) ∧ min xs.length most.toNat ≤ c' ∧ c' ≤ maxLen ∧ L.Perm ns ∧ xs.Perm (sumsT kind x y L) ∧ (xs.Pairwise fun a b => ecmp a b ≤ 0) ∧ RdC w' A' ((xs.take most.toNat).flatMap entL) ∧ Below w.heap.size w w') ⟨#[.pointer (some ⟨p, 0, none⟩), v1, v2, v3, i64 most, v5, v6, v7, v8, v9, v10, v11, .map (some mb), v13, v14, v15, v16, v17, v18, v19, v20, v21, v22, v23, v24, v25, v26, v27, v28, v29, v30, v31, v32, v33, v34, v35, v36, v37, v38, v39, v40, v41, v42, v43, v44, v45, v46, v47, v48, v49, v50, v51, v52, v53, v54, v55, v56, v57, v58, v59, v60, v61, v62, v63, v64, v65, v66, v67, v68, v69, v70, v71, v72, v73, v74, v75, v76, v77, v78, v79, v80, v81, v82, v83, v84, v85, v86, v87, v88], []⟩ W := by
  refine Flow.wp_rest rfl ?_
  obtain ⟨i0, hi, hz0, hz1, hz2⟩ := ent_info
  have BW := Lib.hid hb
  have HMM := Lib.hid hm
  have HM := Lib.hid hM
  have HL := Lib.hid hL
  have hmbl := hm.lt
  clear hb hm hM hL
  dsimp only
  go_upto_block 3 with (first | (at_range; refine wpList_range_a _ rfl _ 68 rfl strK 34 Tryz.underlying68 mb M rfl HMM.out ?_; intro w0 hrg0 hg0 hs0) | go_in)
  try go_frame
  have b0 : Below w.heap.size W w0 := (Below.refl _ _).grown hg0 BW.out.size (fun k hk => by cases hk)
  have B0 := Lib.hid (BW.out.trans b0)
  have R0 := Lib.hid hrg0
  have hrne := hrg0.ne
  have hwW := BW.out.size
  clear b0 hg0 hrg0 BW HMM
  go_cut [15] (fun sv wx => ∃ M2 : List Ent1, M2.Perm M ∧ Hid (wx.ownsRow w.heap.size 36 3 sv M2.length (M2.flatMap entL)) ∧ Hid (Below w.heap.size w wx))
  case first =>
    go_wp2_with fail
    go_loopg [15] M.length (fun gg ov wr => ∃ done : List Ent1, M.length - done.length ≤ gg ∧ Hid (RngA strK wr mb W.heap.size M done) ∧ Hid (wr.ownsRow w.heap.size 36 3 ov done.length (done.flatMap entL)) ∧ Hid (Below w.heap.size w wr))
    case atStart => exact ⟨[], by simp, R0, Lib.hid (own2_nil _ _ _ _), B0⟩
    case round =>
      obtain ⟨done, hgg, R, O, B⟩ := hrel
      go_wp2_with (first | (at_next; refine wpList_next_str rfl _ rfl mb W.heap.size M done rfl R.out ?_ ?_) | go_in)
      · intro hp
        go_wp2_with fail
        go_meet
        exact ⟨done, hp, O, B⟩
      · intro z c1 c2 w1 hmem R4 hg4 hs4 hen
        have hlen4 := R4.len
        simp only [List.length_append, List.length_singleton] at hlen4
        have O1 := Lib.hid (own_keep O.out fun k hk e => hg4.block k hk (fun h => own_noCells O.out R.out.noCells (h.symm.trans e.symm)))
        have B1 := Lib.hid (B.out.trans ((Below.refl w.heap.size _).grown hg4 B.out.size (fun k e => by cases e; omega)))
        have R1 := Lib.hid R4
        clear R4 hg4 hs4 O B R hmem
        have b1 := below_new w1 (.cells #[i64 c1, i64 c2] 34)
        have b2 := below_new (w1.alloc (.cells #[i64 c1, i64 c2] 34)) (.cells #[enS z, i64 c1, i64 c2] 36)
        have OB := Lib.hid (own_below (own_below O1.out b1) b2)
        have RB := Lib.hid ((R1.out.below b1).below b2)
        have BB := Lib.hid ((B1.out.tr b1).tr b2)
        have es : (w1.alloc (.cells #[i64 c1, i64 c2] 34)).heap.size = w1.heap.size + 1 := by simp
        have XB : Hid (RdC ((w1.alloc (.cells #[i64 c1, i64 c2] 34)).alloc (.cells #[enS z, i64 c1, i64 c2] 36)) (some ⟨w1.heap.size + 1, 0, none⟩) (entL (z, c1, c2))) := Lib.hid (by
          have h := rdC_new (w1.alloc (.cells #[i64 c1, i64 c2] 34)) (entL (z, c1, c2)) 36
          rw [es] at h
          exact h)
        have hsz : w.heap.size ≤ ((w1.alloc (.cells #[i64 c1, i64 c2] 34)).alloc (.cells #[enS z, i64 c1, i64 c2] 36)).heap.size := BB.out.size
        clear b1 b2 es O1 B1 R1
        go_wp2_with (first | refine wpList_build2 rfl 36 _ _ rfl (enS z) (.agg #[i64 c1, i64 c2]) rfl rfl #[enS z, i64 c1, i64 c2] (ent_built z c1 c2) ?_ | (at_builtin; refine wpList_appC Tryz.underlying28 hi hz0 hz1 hz2 rfl (by decide) _ rfl _ _ rfl w.heap.size _ done.length (done.flatMap entL) OB.out rfl _ 1 _ (entL (z, c1, c2)) rfl XB.out rfl (one_entL _) (by omega) (by decide) hsz ?_; intro v9 w9 hown9 hg9 hb9))
        have R9 := Lib.hid (RB.out.kept hg9 (own_noCells OB.out RB.out.map.noCells) (own_noCells OB.out RB.out.noCells))
        have O9 : Hid (w9.ownsRow w.heap.size 36 3 v9 (done ++ [(z, c1, c2)]).length ((done ++ [(z, c1, c2)]).flatMap entL)) := Lib.hid (by
          (show w9.ownsRow w.heap.size 36 3 v9 (done ++ [(z, c1, c2)]).length ((done ++ [(z, c1, c2)]).flatMap entL))
          rw [List.length_append, List.flatMap_append]
          simpa using hown9)
        have B9 := Lib.hid (BB.out.trans hb9)
        clear hown9 hg9 hb9 RB OB BB XB
        go_wp2_with fail
        go_roundg (M.length - (done.length + 1))
        case measure => omega
        case rel => exact ⟨done ++ [(z, c1, c2)], by simp, R9, O9, B9⟩
  obtain ⟨M2, hperm, O, B⟩ := hcut
  obtain ⟨A, c, rfl⟩ := own2_slice O.out
  have hpl := hperm.length_eq
  apply_assumption
  exact Flow.wp_of_rest (n := 6) (f := Tryz.f12) rfl (topTail6 A c M2 ns L kind x y most w _ B.out O.out (by omega) HL.out (HM.out ▸ hperm) hmost)
end Go.Proofs.YthgefcoaaommkaaGreatDoor
