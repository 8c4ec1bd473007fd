/- Contracts: comparisons of names and of entries, cmp.Or; slices.SortFunc at both.
   The program's text behind its gathering of names: the days.
   Contract: the program's text. -/
import Derived.Test.YthgefcoaaommkaaGreatDoorZh
import Derived.Test.YthgefcoaaommkaaGreatDoorZc
import Derived.Test.YthgefcoaaommkaaGreatDoorZa
import Derived.Test.YthgefcoaaommkaaGreatDoorSrtL
import Derived.Test.YthgefcoaaommkaaGreatDoorZe
import Derived.Deep.CutBlock
namespace Go.Proofs.YthgefcoaaommkaaGreatDoor
open Go.RowKit Go.Gn Go.Sr Go.Maps Go.Shelf Go.Sort

/-- Only new blocks and draws. -/
def Grw (u v : World) : Prop := ∃ q os, v = Sort.grow (u.drewN q) os
theorem Grw.refl (u : World) : Grw u u := ⟨0, #[], by simp [Sort.grow, World.drewN]⟩
theorem Grw.trans (u v w : World) (h : Grw u v) (k : Grw v w) : Grw u w := by
  obtain ⟨a, os, rfl⟩ := h
  obtain ⟨b, os', rfl⟩ := k
  exact ⟨a + b, os ++ os', by simp [Sort.grow, World.drewN, Array.append_assoc, Nat.add_assoc]⟩
theorem Grw.alloc (u : World) (o : Obj) : Grw u (u.alloc o) := ⟨0, #[o], Sort.alloc_eq_grow u o⟩
theorem Grw.drew (u : World) : Grw u u.drew := ⟨1, #[], (Sort.grow_empty _).symm⟩
theorem Grw.below {u v : World} (h : Grw u v) : Below u.heap.size u v := by
  obtain ⟨a, os, rfl⟩ := h
  exact below_grow u a os
theorem cls_grw (w : World) : Nonempty (Flow.Cls (Grw w)) := ⟨⟨w, Grw.refl w⟩⟩
theorem grw_cell {w : World} {p : Addr} {v : Value} (h : w.cell? p = some v) (t : Flow.Cls (Grw w)) : t.val.cell? p = some v := by
  rw [(Grw.below t.2).cell (World.block_lt_of_cell? w p h)]; exact h
/-- The first number that is not 0. -/
def orL : List Int → Int
  | [] => 0
  | x :: r => if x ≠ 0 then x else orL r
theorem orL_zero {l : List Int} (h : ∀ x ∈ l, x = 0) : orL l = 0 := by
  induction l with
  | nil => rfl
  | cons a r ih => unfold orL; rw [if_neg (by simp [h a]), ih fun x hx => h x (by simp [hx])]
theorem orL_at : ∀ {l : List Int} {k : Nat} {x : Int}, (∀ y ∈ l.take k, y = 0) → l[k]? = some x → x ≠ 0 → orL l = x
  | [], _, _, _, h, _ => by simp at h
  | a :: r, 0, x, _, h, hx => by
    obtain rfl : a = x := by simpa using h
    unfold orL; rw [if_pos hx]
  | a :: r, k + 1, x, h0, h, hx => by
    unfold orL
    rw [if_neg (by simp [h0 a (by simp)])]
    exact orL_at (k := k) (fun y hy => h0 y (by simp [hy])) (by simpa using h) hx
set_option maxRecDepth 100000 in
theorem cmpOr_any (A : Option Addr) (c : Nat) (xs : List Int) (w : World) (h : RdC w A (xs.map i64)) (hl : xs.length ≤ 10) :
    Calls Tryz.prog 36 #[.slice A xs.length c] w fun e w' => e = .returned (i64 (orL xs)) ∧ w' = w := by
  have H := Lib.hid h
  clear h
  go_enter Tryz.func36, Tryz.ntmps36
  go_wp2_with fail
  go_loopg [8] xs.length (fun gg kv wr => ∃ k : Nat, k ≤ xs.length ∧ xs.length - k ≤ gg ∧ kv = i64 k ∧ Hid (∀ y ∈ xs.take k, y = 0) ∧ wr = w)
  case atStart => exact ⟨0, by omega, by omega, rfl, Lib.hid (fun y hy => by simp at hy), rfl⟩
  case round =>
    obtain ⟨k, hk, hgk, rfl, HZ, rfl⟩ := hrel
    by_cases hlt : k < xs.length
    · obtain ⟨x, hx⟩ : ∃ x, xs[k]? = some x := ⟨_, List.getElem?_eq_getElem hlt⟩
      obtain ⟨b, ob, rfl, cx⟩ := RdC.cell H.out (j := k) (v := i64 x) (by rw [List.getElem?_map, hx]; rfl)
      have HX := Lib.hid hx
      clear hx
      by_cases h0 : x = 0
      · subst h0
        have HZ' : Hid (∀ y ∈ xs.take (k + 1), y = 0) := Lib.hid fun y hy => by
          rw [take_snoc HX.out, List.mem_append, List.mem_singleton] at hy
          exact hy.elim (HZ.out y) id
        clear HZ HX
        go_wp2_with fail
        go_roundg (xs.length - (k + 1))
        case measure => omega
        case rel => exact ⟨k + 1, by omega, by omega, by go_num, HZ', rfl⟩
      · have V : Hid (orL xs = x) := Lib.hid (orL_at HZ.out HX.out h0)
        clear HZ HX
        go_wp2_with fail
        go_ret
        exact ⟨by rw [V.out]; rfl, rfl⟩
    · obtain rfl : k = xs.length := by omega
      have V : Hid (orL xs = 0) := Lib.hid (orL_zero fun x hx => HZ.out x (by rw [List.take_length]; exact hx))
      clear HZ
      go_wp2_with fail
      go_ret
      exact ⟨by rw [V.out]; rfl, rfl⟩
theorem compareBytes_eq : ∀ a b : List UInt8, Lib.compareBytes a b = scmp a b
  | [], [] => rfl
  | [], _ :: _ => rfl
  | _ :: _, [] => rfl
  | a :: x, b :: y => by
    have ih := compareBytes_eq x y
    unfold scmp at ih ⊢
    unfold Lib.compareBytes lex
    rw [ih]
    unfold bcmp
    by_cases h1 : a < b
    · have hne : a ≠ b := fun e => by subst e; exact absurd h1 (by simp)
      simp [h1]
    · by_cases h2 : b < a
      · have hne : a ≠ b := fun e => by subst e; exact absurd h2 (by simp)
        simp [h1, h2]
      · have he : a = b := by
          rw [UInt8.lt_iff_toNat_lt] at h1 h2
          rw [← UInt8.toNat_inj]; omega
        subst he
        simp
theorem strCompare (a b : List UInt8) (w : World) : Calls Tryz.prog 38 #[enS a, enS b] w fun e w' => e = .returned (i64 (scmp a b)) ∧ w' = w := by
  have h := Tryz.strings_Compare ⟨a.toArray⟩ ⟨b.toArray⟩ w
  refine h.mono fun e w' ⟨h1, h2⟩ => ⟨?_, h2⟩
  rw [h1]
  simp [compareBytes_eq]
theorem intCompare (a b : Int) (w : World) : Calls Tryz.prog 37 #[i64 a, i64 b] w fun e w' => e = .returned (i64 (icmp a b)) ∧ w' = w := Tryz.cmp_Compare_int a b w
theorem or_two (a b : Int) : orL [a, b] = or2 a b := by
  unfold orL or2 orL orL
  by_cases h : a = 0 <;> by_cases h2 : b = 0 <;> simp [h, h2]
theorem or_three (a b c : Int) : orL [a, b, c] = or2 a (or2 b c) := by
  rw [← or_two b c]
  rfl
theorem one_ints (w : World) (l : List Int) : RdC (w.alloc (.cells (l.map i64).toArray 3)) (some ⟨w.heap.size, 0, none⟩) (l.map i64) := fun hl => ⟨_, 0, rfl, fun j u hj => by
  rw [blk_cell (blk_new _ _), Nat.zero_add, List.getElem?_toArray]; exact hj⟩
set_option maxRecDepth 100000 in
set_option maxHeartbeats 4000000 in
theorem cmpKey_any (x y : Ky) (w : World) : Calls Tryz.prog 54 #[.agg (kyL x).toArray, .agg (kyL y).toArray] w fun e w' => e = .returned (i64 (kcmp x.2 y.2)) ∧ Grw w w' := by
  obtain ⟨x1, x2, x3⟩ := x
  obtain ⟨y1, y2, y3⟩ := y
  show Calls Tryz.prog 54 #[.agg #[i64 x1, i64 x2, enS x3], .agg #[i64 y1, i64 y2, enS y3]] w _
  obtain ⟨w0, hw0⟩ : ∃ u : World, u = (w.alloc (.cells #[i64 x1, i64 x2, enS x3] 74)).alloc (.cells #[i64 y1, i64 y2, enS y3] 74) := ⟨_, rfl⟩
  have KA : Hid (w0.heap[w.heap.size]? = some (.cells #[i64 x1, i64 x2, enS x3] 74 (0, 0))) := Lib.hid (by (show _ = _); rw [hw0]; exact blk_below (below_new _ _) (blk_new _ _))
  have KB : Hid (w0.heap[w.heap.size + 1]? = some (.cells #[i64 y1, i64 y2, enS y3] 74 (0, 0))) := Lib.hid (by (show _ = _); rw [hw0]; have := blk_new (w.alloc (.cells #[i64 x1, i64 x2, enS x3] 74)) (.cells #[i64 y1, i64 y2, enS y3] 74); simpa using this)
  have G0 : Hid (Grw w w0) := Lib.hid (by (show Grw _ _); rw [hw0]; exact Grw.trans _ _ _ (Grw.alloc _ _) (Grw.alloc _ _))
  go_enter Tryz.func54, Tryz.ntmps54
  go_wp2_with fail
  rw [← hw0]
  clear hw0
  refine Flow.wp_region_segs Grw Grw.refl Grw.trans [([0, 1, 2, 3, 5, 6, 7, 8], 4), ([], 9), ([], 10), ([], 11)] [12] (by kernel_rfl) (by kernel_rfl) ?_
  have G1 := Lib.hid (Grw.trans _ _ _ G0.out (Grw.drew w0)); clear G0
  have KA1 := Lib.hid (blk_below (Grw.drew w0).below KA.out); clear KA
  have KB1 := Lib.hid (blk_below (Grw.drew w0).below KB.out); clear KB
  generalize World.drew _ = w1 at *
  have a0 := blk_cell KA1.out 0
  have qa0 : ∀ t : Flow.Cls (Grw w1), t.val.cell? _ = some (i64 x1) := fun t => grw_cell a0 t
  have b0 := blk_cell KB1.out 0
  have qb0 : ∀ t : Flow.Cls (Grw w1), t.val.cell? _ = some (i64 y1) := fun t => grw_cell b0 t
  have a1 := blk_cell KA1.out 1
  have qa1 : ∀ t : Flow.Cls (Grw w1), t.val.cell? _ = some (i64 x2) := fun t => grw_cell a1 t
  have b1 := blk_cell KB1.out 1
  have qb1 : ∀ t : Flow.Cls (Grw w1), t.val.cell? _ = some (i64 y2) := fun t => grw_cell b1 t
  have a2 := blk_cell KA1.out 2
  have qa2 : ∀ t : Flow.Cls (Grw w1), t.val.cell? _ = some (enS x3) := fun t => grw_cell a2 t
  have b2 := blk_cell KB1.out 2
  have qb2 : ∀ t : Flow.Cls (Grw w1), t.val.cell? _ = some (enS y3) := fun t => grw_cell b2 t
  haveI nonE := cls_grw w1
  rw [Flow.wpSegs_cons]
  simp only [Flow.pick, List.getElem?_toArray, List.getElem?_cons_succ, List.getElem?_cons_zero]
  repeat go_big_quiet_step (fail)
  refine wpQuiet_nil ?_
  clear nonE a0 qa0 b0 qb0 a1 qa1 b1 qb1 a2 qa2 b2 qb2 KA1 KB1
  rw [Flow.callAt_eq]
  simp only [List.getElem?_toArray, List.getElem?_cons_succ, List.getElem?_cons_zero]
  rw [if_pos (by rfl)]
  refine Flow.wp_behind (fun K hK => ?_)
  go_wp2_with fail
  refine (intCompare x2 y2 _).mono ?_; rintro e w9 ⟨rfl, hw9⟩
  have hw9 := hw9.symm
  subst hw9
  refine hK.out _ _ ⟨Grw.refl _, ?_⟩
  clear hK K
  try simp only [Act.put, List.setIfInBounds_toArray, List.set_cons_succ, List.set_cons_zero]
  haveI nonE := cls_grw w1
  rw [Flow.wpSegs_cons]
  simp only [Flow.pick]
  refine wpQuiet_nil ?_
  clear nonE
  rw [Flow.callAt_eq]
  simp only [List.getElem?_toArray, List.getElem?_cons_succ, List.getElem?_cons_zero]
  rw [if_pos (by rfl)]
  refine Flow.wp_behind (fun K hK => ?_)
  go_wp2_with fail
  refine (strCompare x3 y3 _).mono ?_; rintro e w9 ⟨rfl, hw9⟩
  have hw9 := hw9.symm
  subst hw9
  refine hK.out _ _ ⟨Grw.refl _, ?_⟩
  clear hK K
  try simp only [Act.put, List.setIfInBounds_toArray, List.set_cons_succ, List.set_cons_zero]
  haveI nonE := cls_grw w1
  rw [Flow.wpSegs_cons]
  simp only [Flow.pick]
  refine wpQuiet_nil ?_
  clear nonE
  rw [Flow.callAt_eq]
  simp only [List.getElem?_toArray, List.getElem?_cons_succ, List.getElem?_cons_zero]
  rw [if_pos (by rfl)]
  refine Flow.wp_behind (fun K hK => ?_)
  go_wp2_with fail
  refine hK.out _ _ ⟨Grw.alloc _ _, ?_⟩
  clear hK K
  try simp only [Act.put, List.setIfInBounds_toArray, List.set_cons_succ, List.set_cons_zero]
  have HO := Lib.hid (cmpOr_any (some ⟨w1.heap.size, 0, none⟩) 2 [icmp x2 y2, scmp x3 y3] (w1.alloc (.cells #[i64 (icmp x2 y2), i64 (scmp x3 y3)] 3)) (one_ints w1 [icmp x2 y2, scmp x3 y3]) (by simp))
  have G2 := Lib.hid (Grw.trans _ _ _ G1.out (Grw.alloc w1 (.cells #[i64 (icmp x2 y2), i64 (scmp x3 y3)] 3))); clear G1
  generalize w1.alloc _ = w2 at *
  haveI nonE := cls_grw w2
  rw [Flow.wpSegs_cons]
  simp only [Flow.pick]
  refine wpQuiet_nil ?_
  clear nonE
  rw [Flow.callAt_eq]
  simp only [List.getElem?_toArray, List.getElem?_cons_succ, List.getElem?_cons_zero]
  rw [if_pos (by rfl)]
  refine Flow.wp_behind (fun K hK => ?_)
  go_wp2_with fail
  refine HO.out.mono ?_; rintro e w9 ⟨rfl, hw9⟩
  have hw9 := hw9.symm
  subst hw9
  refine hK.out _ _ ⟨Grw.refl _, ?_⟩
  clear hK K
  try simp only [Act.put, List.setIfInBounds_toArray, List.set_cons_succ, List.set_cons_zero]
  haveI nonE := cls_grw w2
  rw [Flow.wpSegs_nil]
  simp only [Flow.pick, List.getElem?_toArray, List.getElem?_cons_succ, List.getElem?_cons_zero]
  repeat go_big_quiet_step (fail)
  refine wpQuiet_nil ?_
  clear nonE
  go_wp2_with fail
  go_ret
  exact ⟨by rw [or_two]; rfl, G2.out⟩
def entL (x : Ent1) : List Value := [enS x.1, i64 x.2.1, i64 x.2.2]
theorem entL_length (x : Ent1) : (entL x).length = 3 := rfl
theorem one_entL (x : Ent1) : ∀ u ∈ entL x, u.oneCell' = true := fun u hu => by
  simp only [entL, List.mem_cons, List.not_mem_nil, or_false] at hu
  rcases hu with rfl | rfl | rfl <;> rfl
set_option maxRecDepth 100000 in
set_option maxHeartbeats 4000000 in
theorem cmpEnt_any (x y : Ent1) (w : World) : Calls Tryz.prog 35 #[.agg (entL x).toArray, .agg (entL y).toArray] w fun e w' => e = .returned (i64 (ecmp x y)) ∧ Grw w w' := by
  obtain ⟨x1, x2, x3⟩ := x
  obtain ⟨y1, y2, y3⟩ := y
  show Calls Tryz.prog 35 #[.agg #[enS x1, i64 x2, i64 x3], .agg #[enS y1, i64 y2, i64 y3]] w _
  obtain ⟨w0, hw0⟩ : ∃ u : World, u = (w.alloc (.cells #[enS x1, i64 x2, i64 x3] 36)).alloc (.cells #[enS y1, i64 y2, i64 y3] 36) := ⟨_, rfl⟩
  have KA : Hid (w0.heap[w.heap.size]? = some (.cells #[enS x1, i64 x2, i64 x3] 36 (0, 0))) := Lib.hid (by (show _ = _); rw [hw0]; exact blk_below (below_new _ _) (blk_new _ _))
  have KB : Hid (w0.heap[w.heap.size + 1]? = some (.cells #[enS y1, i64 y2, i64 y3] 36 (0, 0))) := Lib.hid (by (show _ = _); rw [hw0]; have := blk_new (w.alloc (.cells #[enS x1, i64 x2, i64 x3] 36)) (.cells #[enS y1, i64 y2, i64 y3] 36); simpa using this)
  have G0 : Hid (Grw w w0) := Lib.hid (by (show Grw _ _); rw [hw0]; exact Grw.trans _ _ _ (Grw.alloc _ _) (Grw.alloc _ _))
  go_enter Tryz.func35, Tryz.ntmps35
  go_wp2_with fail
  rw [← hw0]
  clear hw0
  refine Flow.wp_region_segs Grw Grw.refl Grw.trans [([0, 1, 2, 3, 4, 5, 7, 8, 9, 10, 11, 12, 14, 15, 16, 17], 6), ([], 13), ([], 18), ([], 19), ([], 20)] [21] (by kernel_rfl) (by kernel_rfl) ?_
  have G1 := Lib.hid (Grw.trans _ _ _ G0.out (Grw.drew w0)); clear G0
  have KA1 := Lib.hid (blk_below (Grw.drew w0).below KA.out); clear KA
  have KB1 := Lib.hid (blk_below (Grw.drew w0).below KB.out); clear KB
  generalize World.drew _ = w1 at *
  have a0 := blk_cell KA1.out 0
  have qa0 : ∀ t : Flow.Cls (Grw w1), t.val.cell? _ = some (enS x1) := fun t => grw_cell a0 t
  have b0 := blk_cell KB1.out 0
  have qb0 : ∀ t : Flow.Cls (Grw w1), t.val.cell? _ = some (enS y1) := fun t => grw_cell b0 t
  have a1 := blk_cell KA1.out 1
  have qa1 : ∀ t : Flow.Cls (Grw w1), t.val.cell? _ = some (i64 x2) := fun t => grw_cell a1 t
  have b1 := blk_cell KB1.out 1
  have qb1 : ∀ t : Flow.Cls (Grw w1), t.val.cell? _ = some (i64 y2) := fun t => grw_cell b1 t
  have a2 := blk_cell KA1.out 2
  have qa2 : ∀ t : Flow.Cls (Grw w1), t.val.cell? _ = some (i64 x3) := fun t => grw_cell a2 t
  have b2 := blk_cell KB1.out 2
  have qb2 : ∀ t : Flow.Cls (Grw w1), t.val.cell? _ = some (i64 y3) := fun t => grw_cell b2 t
  haveI nonE := cls_grw w1
  rw [Flow.wpSegs_cons]
  simp only [Flow.pick, List.getElem?_toArray, List.getElem?_cons_succ, List.getElem?_cons_zero]
  repeat go_big_quiet_step (fail)
  refine wpQuiet_nil ?_
  clear nonE a0 qa0 b0 qb0 a1 qa1 b1 qb1 a2 qa2 b2 qb2 KA1 KB1
  rw [Flow.callAt_eq]
  simp only [List.getElem?_toArray, List.getElem?_cons_succ, List.getElem?_cons_zero]
  rw [if_pos (by rfl)]
  refine Flow.wp_behind (fun K hK => ?_)
  go_wp2_with fail
  refine (intCompare y2 x2 _).mono ?_; rintro e w9 ⟨rfl, hw9⟩
  have hw9 := hw9.symm
  subst hw9
  refine hK.out _ _ ⟨Grw.refl _, ?_⟩
  clear hK K
  try simp only [Act.put, List.setIfInBounds_toArray, List.set_cons_succ, List.set_cons_zero]
  haveI nonE := cls_grw w1
  rw [Flow.wpSegs_cons]
  simp only [Flow.pick]
  refine wpQuiet_nil ?_
  clear nonE
  rw [Flow.callAt_eq]
  simp only [List.getElem?_toArray, List.getElem?_cons_succ, List.getElem?_cons_zero]
  rw [if_pos (by rfl)]
  refine Flow.wp_behind (fun K hK => ?_)
  go_wp2_with fail
  refine (intCompare y3 x3 _).mono ?_; rintro e w9 ⟨rfl, hw9⟩
  have hw9 := hw9.symm
  subst hw9
  refine hK.out _ _ ⟨Grw.refl _, ?_⟩
  clear hK K
  try simp only [Act.put, List.setIfInBounds_toArray, List.set_cons_succ, List.set_cons_zero]
  haveI nonE := cls_grw w1
  rw [Flow.wpSegs_cons]
  simp only [Flow.pick]
  refine wpQuiet_nil ?_
  clear nonE
  rw [Flow.callAt_eq]
  simp only [List.getElem?_toArray, List.getElem?_cons_succ, List.getElem?_cons_zero]
  rw [if_pos (by rfl)]
  refine Flow.wp_behind (fun K hK => ?_)
  go_wp2_with fail
  refine (strCompare x1 y1 _).mono ?_; rintro e w9 ⟨rfl, hw9⟩
  have hw9 := hw9.symm
  subst hw9
  refine hK.out _ _ ⟨Grw.refl _, ?_⟩
  clear hK K
  try simp only [Act.put, List.setIfInBounds_toArray, List.set_cons_succ, List.set_cons_zero]
  haveI nonE := cls_grw w1
  rw [Flow.wpSegs_cons]
  simp only [Flow.pick]
  refine wpQuiet_nil ?_
  clear nonE
  rw [Flow.callAt_eq]
  simp only [List.getElem?_toArray, List.getElem?_cons_succ, List.getElem?_cons_zero]
  rw [if_pos (by rfl)]
  refine Flow.wp_behind (fun K hK => ?_)
  go_wp2_with fail
  refine hK.out _ _ ⟨Grw.alloc _ _, ?_⟩
  clear hK K
  try simp only [Act.put, List.setIfInBounds_toArray, List.set_cons_succ, List.set_cons_zero]
  have HO := Lib.hid (cmpOr_any (some ⟨w1.heap.size, 0, none⟩) 3 [icmp y2 x2, icmp y3 x3, scmp x1 y1] (w1.alloc (.cells #[i64 (icmp y2 x2), i64 (icmp y3 x3), i64 (scmp x1 y1)] 3)) (one_ints w1 [icmp y2 x2, icmp y3 x3, scmp x1 y1]) (by simp))
  have G2 := Lib.hid (Grw.trans _ _ _ G1.out (Grw.alloc w1 (.cells #[i64 (icmp y2 x2), i64 (icmp y3 x3), i64 (scmp x1 y1)] 3))); clear G1
  generalize w1.alloc _ = w2 at *
  haveI nonE := cls_grw w2
  rw [Flow.wpSegs_cons]
  simp only [Flow.pick]
  refine wpQuiet_nil ?_
  clear nonE
  rw [Flow.callAt_eq]
  simp only [List.getElem?_toArray, List.getElem?_cons_succ, List.getElem?_cons_zero]
  rw [if_pos (by rfl)]
  refine Flow.wp_behind (fun K hK => ?_)
  go_wp2_with fail
  refine HO.out.mono ?_; rintro e w9 ⟨rfl, hw9⟩
  have hw9 := hw9.symm
  subst hw9
  refine hK.out _ _ ⟨Grw.refl _, ?_⟩
  clear hK K
  try simp only [Act.put, List.setIfInBounds_toArray, List.set_cons_succ, List.set_cons_zero]
  haveI nonE := cls_grw w2
  rw [Flow.wpSegs_nil]
  simp only [Flow.pick, List.getElem?_toArray, List.getElem?_cons_succ, List.getElem?_cons_zero]
  repeat go_big_quiet_step (fail)
  refine wpQuiet_nil ?_
  clear nonE
  go_wp2_with fail
  go_ret
  exact ⟨by rw [or_three]; rfl, G2.out⟩
instance : Inhabited Ky := ⟨(0, 0, [])⟩
theorem sortKey_any (base : Nat) (A : Option Addr) (c : Nat) (l : List Ky) (w : World) (hown : w.ownsRow base 74 3 (.slice A l.length c) l.length (l.flatMap kyL)) (hn : l.length ≤ 1000000) :
    Calls Tryz.prog 53 #[.slice A l.length c, .func (.func 54) #[] #[]] w fun e' w' => e' = .returned (.tuple #[]) ∧
      ∃ m : List Ky, m.Perm l ∧ (m.Pairwise fun x y => ltOf (fun a b => kcmp a.2 b.2) y x = false) ∧ w'.ownsRow base 74 3 (.slice A l.length c) l.length (m.flatMap kyL) ∧ w.grownBy w' (Value.slice A l.length c).ownBlock :=
  sortG Tryz.srtKeyD 3 (fun w => by kernel_rfl) (fun w => by kernel_rfl) kyL kyL_length one_kyL (fun a b => kcmp a.2 b.2) (lin_swo kcmp_lin (fun k : Ky => k.2)) 54 #[] (enters_of Tryz.func54 (by kernel_rfl) rfl) (fun x y W => (cmpKey_any x y W).mono fun e w' h => h) base 74 A c l w hown hn
theorem sortEnt_any (base : Nat) (A : Option Addr) (c : Nat) (l : List Ent1) (w : World) (hown : w.ownsRow base 36 3 (.slice A l.length c) l.length (l.flatMap entL)) (hn : l.length ≤ 1000000) :
    Calls Tryz.prog 34 #[.slice A l.length c, .func (.func 35) #[] #[]] w fun e' w' => e' = .returned (.tuple #[]) ∧
      ∃ m : List Ent1, m.Perm l ∧ (m.Pairwise fun x y => ltOf ecmp y x = false) ∧ w'.ownsRow base 36 3 (.slice A l.length c) l.length (m.flatMap entL) ∧ w.grownBy w' (Value.slice A l.length c).ownBlock :=
  sortG Tryz.srtEntD 3 (fun w => by kernel_rfl) (fun w => by kernel_rfl) entL entL_length one_entL ecmp (lin_swo ecmp_lin id) 35 #[] (enters_of Tryz.func35 (by kernel_rfl) rfl) (fun x y W => (cmpEnt_any x y W).mono fun e w' h => h) base 36 A c l w hown hn
end Go.Proofs.YthgefcoaaommkaaGreatDoor

namespace Go.Proofs.YthgefcoaaommkaaGreatDoor
open Go.RowKit Go.Gn Go.Sr Go.Maps Go.Nr Go.Shelf Go.Sort

theorem wpList_lookup_r {P : Program} {k : TypeId} {κ β : Type} [DecidableEq κ] {w : World} {ops : Array Oper} {rest : List Oper} {o : Oper} {a : Act} {Q : Exit → Act → World → Prop} (hg : o.guard = none) (m x : Operand) (t : TypeId) (hop : o.op = Op.lookup t m x false)
    (S : KV P k κ β) (e : TypeId) (ht : P.underlying t = some (.map k e)) (z : Value) (hz : (zeroValue e).run P w = .ok z w) (b : Nat) (L : List (κ × β))
    (hm : a.eval m = .map (some b)) (hown : MapA S w b L) (y : κ) (hy : S.ok y) (hx : a.eval x = S.kv y) (r : Value) (hr : ((getA L y).map S.vv).getD z = r)
    (hK : wpList P ops Q rest (a.put o.dst r) w) : wpList P ops Q (o :: rest) a w :=
  wpList_lookup_a w hg m x t hop S e ht z hz b L hm hown y hy hx (by rw [hr]; exact hK)
theorem flat_take_le {α : Type} (f : α → List UInt8) (l : List α) (k : Nat) : ((l.take k).flatMap f).length ≤ (l.flatMap f).length := by
  have h : l.flatMap f = (l.take k).flatMap f ++ (l.drop k).flatMap f := by rw [← List.flatMap_append, List.take_append_drop]
  rw [h, List.length_append]; omega
theorem flat_at {α : Type} (enc : α → List Value) {k : Nat} (hk : ∀ x, (enc x).length = k) : ∀ {l : List α} {j : Nat} {x : α} {t : Nat} {v : Value}, l[j]? = some x → (enc x)[t]? = some v → (l.flatMap enc)[j * k + t]? = some v
  | [], _, _, _, _, h, _ => by simp at h
  | a :: l, 0, x, t, v, h, hv => by
    obtain rfl : a = x := by simpa using h
    rw [Nat.zero_mul, Nat.zero_add, List.flatMap_cons, List.getElem?_append_left (List.getElem?_eq_some_iff.1 hv).1]; exact hv
  | a :: l, j + 1, x, t, v, h, hv => by
    rw [List.flatMap_cons, List.getElem?_append_right (by rw [hk, Nat.succ_mul]; omega), hk, show (j + 1) * k + t - k = j * k + t from by have : (j + 1) * k = j * k + k := Nat.succ_mul j k; omega]
    exact flat_at enc hk (by simpa using h) hv
theorem RdC.rng {α : Type} {enc : α → List Value} {k : Nat} {w : World} {A : Option Addr} {l : List α} (h : RdC w A (l.flatMap enc)) (hk : ∀ x, (enc x).length = k) (h0 : 0 < k) {j : Nat} {x : α} (hj : l[j]? = some x) : ∃ b o, A = some ⟨b, o, none⟩ ∧ w.rangeAt b (o + j * k) (enc x) := by
  have hjl := (List.getElem?_eq_some_iff.1 hj).1
  obtain ⟨b, o, e, hc⟩ := h (by
    have : (l.flatMap enc)[j * k + 0]? = some ((enc x)[0]'(by rw [hk]; exact h0)) := flat_at enc hk hj (List.getElem?_eq_getElem _)
    have := (List.getElem?_eq_some_iff.1 this).1
    omega)
  exact ⟨b, o, e, fun t v hv => by rw [Nat.add_assoc]; exact hc _ _ (flat_at enc hk hj hv)⟩
theorem line_text (k : Int) (n : List UInt8) (c : C) : lineN k n c = text 32 [wordT k, n, dg c.1, dg c.2] ++ [10] := by unfold lineN lineC; rw [text4]; try simp
/-- The names of a day, sorted in their row. -/
theorem names_of_row {ns done : List (Ky × C)} (hn : NoTwo ns) (hp : done.Perm ns) {d : Int} {L m : List Ky} (hL : L.Perm ((done.map (·.1)).filter fun k => decide (k.1 = d))) (hm : m.Perm L) (hs : m.Pairwise fun x y => ltOf (fun a b => kcmp a.2 b.2) y x = false) :
    m.map (·.2) = dayNames ns d ∧ ∀ k ∈ m, k.1 = d ∧ ∃ c, (k, c) ∈ ns := by
  have hd : ∀ k ∈ L, k.1 = d ∧ ∃ c, (k, c) ∈ ns := fun k hk => by
    obtain ⟨h1, h2⟩ := List.mem_filter.1 (hL.mem_iff.1 hk)
    obtain ⟨q, hq, rfl⟩ := List.mem_map.1 h1
    exact ⟨of_decide_eq_true h2, q.2, hp.mem_iff.1 hq⟩
  have hnd : L.Nodup := hL.nodup_iff.2 (((hp.map _).nodup_iff.2 hn).filter _)
  have hn2 : (L.map (·.2)).Nodup := by
    unfold List.Nodup
    rw [List.pairwise_map]
    refine List.Pairwise.imp_of_mem (fun {a b} ha hb hab e => hab ?_) hnd
    exact Prod.ext ((hd a ha).1.trans (hd b hb).1.symm) e
  refine ⟨?_, fun k hk => hd k (hm.mem_iff.1 hk)⟩
  rw [sorted_by kcmp_lin (fun k : Ky => k.2) hm hs hn2]
  unfold dayNames
  refine insAll_perm kcmp_lin fun x => ?_
  rw [List.mem_map, List.mem_map]
  constructor
  · rintro ⟨k, hk, rfl⟩
    obtain ⟨h1, c, h2⟩ := hd k hk
    exact ⟨(k, c), List.mem_filter.2 ⟨h2, decide_eq_true h1⟩, rfl⟩
  · rintro ⟨q, hq, rfl⟩
    obtain ⟨h1, h2⟩ := List.mem_filter.1 hq
    exact ⟨q.1, hL.mem_iff.2 (List.mem_filter.2 ⟨List.mem_map.2 ⟨q, hp.mem_iff.2 h1, rfl⟩, h2⟩), rfl⟩
/-- A count of numbers that a text takes. -/
def NumC (c : C) : Prop := (0 ≤ c.1 ∧ c.1 ≤ 1000000000000000) ∧ 0 ≤ c.2 ∧ c.2 ≤ 1000000000000000

set_option maxRecDepth 100000 in
set_option maxHeartbeats 16000000 in
theorem textTail4 {v1 v2 v4 v5 v6 v7 v8 v9 v10 v11 v12 v13 v14 v15 v16 v17 v18 v19 v20 v21 v22 v23 v24 v25 v26 v27 v28 v29 v30 v31 v32 v33 v34 v35 v36 v37 v38 v39 v40 v41 v42 v43 v44 v45 v46 v47 v48 v49 v50 v51 v52 v53 v54 v55 v56 v57 v58 v59 v60 v61 v62 v63 v64 v65 v66 v67 v68 v69 v70 v71 v72 v73 v74 v75 v76 v77 v78 v79 v80 v81 v82 v83 v84 v85 v86 v87 v88 v89 v90 v91 v92 v93 v94 v95 v96 v97 v98 v99 v100 v101 v102 v103 v104 v105 v106 v107 v108 v109 v110 v111 v112 v113 v114 v115 v116 v117 v118 v119 v120 : Value} (p bd bn : Nat) (ds : List (Int × C)) (ns : List (Ky × C)) (zs : List Int) (w W : World) (E : List (Int × Value)) (R : Int → List Ky) (done : List (Ky × C)) (h : StM w p bd bn ds ns zs) (hT : Tab w) (hg : GaS w w.heap.size E R done W) (hp : done.Perm ns) (hdn : ds.length ≤ 100000) (hnn : ns.length ≤ 100000)
    (hd : ∀ q ∈ ds, (0 ≤ q.1 ∧ q.1 ≤ 1000000000000000) ∧ NumC q.2) (hk : ∀ q ∈ ns, (1 ≤ q.1.2.1 ∧ q.1.2.1 ≤ 3) ∧ q.1.2.2.length ≤ 10000 ∧ NumC q.2) (hz : ∀ k, 0 ≤ zs.getD k 0 ∧ zs.getD k 0 ≤ 1000000000000000) (hlen : (textP ds ns zs).length ≤ 9000000000) :
    Code.wp Tryz.prog (Flow.rest 4 Tryz.f17) (bodyPost Tryz.prog Tryz.f17 fun e w' => e = .returned (enS (textP ds ns zs)) ∧ Below w.heap.size w w') ⟨#[.pointer (some ⟨p, 0, none⟩), v1, v2, .map (some w.heap.size), v4, v5, v6, v7, v8, v9, v10, v11, v12, v13, v14, v15, v16, v17, v18, v19, v20, v21, v22, v23, v24, v25, v26, v27, v28, v29, v30, v31, v32, v33, v34, v35, v36, v37, v38, v39, v40, v41, v42, v43, v44, v45, v46, v47, v48, v49, v50, v51, v52, v53, v54, v55, v56, v57, v58, v59, v60, v61, v62, v63, v64, v65, v66, v67, v68, v69, v70, v71, v72, v73, v74, v75, v76, v77, v78, v79, v80, v81, v82, v83, v84, v85, v86, v87, v88, v89, v90, v91, v92, v93, v94, v95, v96, v97, v98, v99, v100, v101, v102, v103, v104, v105, v106, v107, v108, v109, v110, v111, v112, v113, v114, v115, v116, v117, v118, v119, v120], []⟩ W := by
  refine Flow.wp_rest rfl ?_
  have H0 := Lib.hid h
  have HT := Lib.hid hT
  have HD := Lib.hid hd
  have HK := Lib.hid hk
  have HZ := Lib.hid hz
  have HP := Lib.hid hp
  have HEQ := Lib.hid hg.eq
  have htwo := Lib.hid h.md.two
  have ntwo := Lib.hid h.mn.two
  have hpl := h.lp
  have hnl := h.ln
  have hRl : ∀ d, (R d).length ≤ 100000 := fun d => by
    rw [hg.eq d]
    have := List.length_filter_le (fun k : Ky => decide (k.1 = d)) (done.map (·.1))
    rw [List.length_map, hp.length_eq] at this
    omega
  have hlow := Lib.hid (show ∀ q ∈ E, ∀ g, q.2.ownBlock = some g → g < W.heap.size from fun q hq g e => ((hg.ga.row q hq).lt g e).2)
  have hb0 : w.heap.size < W.heap.size := hg.ga.m.lt
  have BM := Lib.hid (below_new W (.cells #[.pointer none, .slice none 0 0] 92))
  have G1 := Lib.hid (hg.ga.below BM.out)
  have U1 := Lib.hid (bd_new W)
  have BE1 := Lib.hid (hg.be.tr BM.out)
  have hs1 : (W.alloc (.cells #[.pointer none, .slice none 0 0] 92)).heap.size = W.heap.size + 1 := by simp
  clear h hT hd hk hz hp hg BM
  dsimp only
  go_upto_region 9 with fail
  generalize W.alloc (.cells #[.pointer none, .slice none 0 0] 92) = W1 at *
  have hc0 := (H0.out.below BE1.out).c0
  go_wp2_with fail
  refine (keysC (some bd) W1).mono ?_; rintro e u1 ⟨rfl, rfl⟩
  go_wp2_with fail
  rw [← hs1]
  refine (sortedC bd ds W1 (H0.out.below BE1.out).md hdn).mono ?_; rintro e u2 ⟨v, ss, rfl, hperm, hrow, b2⟩
  have hdays := days_sorted htwo.out hperm
  have hsl : ss.length = (insAll icmp (ds.map (·.1))).length := by rw [← hdays, List.length_mergeSort]
  rw [hdays, hsl] at hrow
  have TPD : Hid (textP ds ns zs = (insAll icmp (ds.map (·.1))).flatMap (dayText ds ns) ++ sizesT zs) := Lib.hid rfl
  have HMEM : Hid (∀ x ∈ insAll icmp (ds.map (·.1)), x ∈ ds.map (·.1)) := Lib.hid fun x hx => (mem_insAll icmp_lin _ _).1 hx
  have hdl : (insAll icmp (ds.map (·.1))).length ≤ 100000 := by
    have := insAll_length icmp (ds.map (·.1))
    rw [List.length_map] at this
    omega
  generalize insAll icmp (ds.map (·.1)) = days at *
  clear hdays hsl hperm ss
  obtain ⟨A, c, rfl⟩ := own2_slice hrow
  have hca := own2_cap hrow
  have hle := own2_le hrow
  have HLN : Hid (∀ i, ((days.take i).flatMap (dayText ds ns)).length ≤ 9000000000) := Lib.hid fun i => by
    have h1 := flat_take_le (dayText ds ns) days i
    rw [TPD.out, List.length_append] at hlen
    omega
  have TX0 : Hid (TxS w W.heap.size w.heap.size W.heap.size E A c days R [] u2) := Lib.hid ⟨G1.out.below b2, U1.out.below b2, own_base hrow (by omega), BE1.out.tr b2, by have := b2.size; omega, ⟨Nat.le_refl _, hb0⟩, hlow.out⟩
  clear hc0 hrow b2 G1 U1 BE1 hs1 hlow hlen
  unfold maxLen at hca
  have HDg := Lib.hid (fun W (h : Tab W) n (h0 : 0 ≤ n) (h1 : n ≤ 1000000000000000) => digits_any n W h0 h1 h)
  have HWd := Lib.hid (fun k (h0 : 0 ≤ k) (h1 : k ≤ 4) W => word_any k W h0 h1)
  go_upto_block 2 with fail
  go_cut [] (fun wx => ∃ l, Hid (textP ds ns zs = l ++ sizesT zs) ∧ l.length ≤ 9000000000 ∧ Hid (Below w.heap.size w wx) ∧ Hid (Bd W.heap.size W.heap.size l wx) ∧ W.heap.size ≤ wx.heap.size)
  case first =>
    go_wp2_with fail
    go_loopg [45] days.length (fun gg kv wr => ∃ (i : Nat) (R' : Int → List Ky) (l : List UInt8), i ≤ days.length ∧ days.length - i ≤ gg ∧ kv = i64 i ∧ Hid (l = (days.take i).flatMap (dayText ds ns)) ∧ Hid (TxS w W.heap.size w.heap.size W.heap.size E A c days R' l wr) ∧ Hid (∀ d, (R' d).Perm (R d)))
    case atStart => exact ⟨0, R, [], by omega, by omega, rfl, Lib.hid rfl, TX0, Lib.hid fun _ => List.Perm.refl _⟩
    case round =>
      obtain ⟨i, R', l, hi, hgi, rfl, HL, TX, HR⟩ := hrel
      clear TX0
      by_cases hlt : i < days.length
      · obtain ⟨d, hdx⟩ : ∃ d, days[i]? = some d := ⟨_, List.getElem?_eq_getElem hlt⟩
        obtain ⟨q, hq, hqd⟩ := List.mem_map.1 (HMEM.out d (List.mem_of_getElem? hdx))
        obtain ⟨d', c1, c2⟩ := q
        obtain rfl : d' = d := hqd
        have HG := Lib.hid ((getA_iff htwo.out d' _).2 hq)
        obtain ⟨⟨hd0, hd1⟩, ⟨hc10, hc11⟩, hc20, hc21⟩ := HD.out _ hq
        have hwf : (Lit.int .i64 d').wf = true := H0.out.md.ok _ hq
        have FT := Lib.hid (flat_take (dayText ds ns) hdx)
        have HDT : Hid (dayText ds ns d' = text 32 [wordT 0, dg d', dg c1, dg c2] ++ [10] ++ (dayNames ns d').flatMap fun q => lineN q.1 q.2 ((getA ns (d', q)).getD (0, 0))) := Lib.hid (by (show _ = _); unfold dayText; rw [HG.out, Option.getD_some, line_text])
        obtain ⟨b, od, hA, cd⟩ := RdC.cell (RdC.of_own TX.out.dy) (j := i) (v := i64 d') (by rw [List.getElem?_map, hdx]; rfl)
        subst hA
        have hst := H0.out.below TX.out.be
        have hc0 := hst.c0
        have HMD := Lib.hid hst.md
        have hR'l : (R' d').length ≤ 100000 := by rw [(HR.out d').length_eq]; exact hRl d'
        have hll := HLN.out i
        rw [← show l = _ from HL.out] at hll
        have HLN1 := HLN.out (i + 1)
        rw [FT.out, ← show l = _ from HL.out, HDT.out] at HLN1
        have HLN1 := Lib.hid HLN1
        have l1 := dg_len hd0 hd1
        have l2 := dg_len hc10 hc11
        have l3 := dg_len hc20 hc21
        have l0 := word_len 0
        clear hdx hq hst
        go_wp2_with (refine wpList_lookup_r rfl _ _ 69 rfl dayK 34 Tryz.underlying69 _ (zeroC _) bd ds rfl HMD.out d' hwf rfl (.agg #[i64 c1, i64 c2]) (by rw [HG.out]; rfl) ?_)
        obtain ⟨_, csb, hbb⟩ := TX.out.bu.blk
        have hbl := blk_lt hbb
        have BN := below_new wr (.cells #[i64 c1, i64 c2] 34)
        have KC := Lib.hid (blk_new wr (.cells #[i64 c1, i64 c2] 34))
        have TX1 := Lib.hid (TX.out.below BN)
        clear BN hbb csb hc0 cd HMD TX
        generalize hcb : wr.heap.size = cb at *
        generalize wr.alloc _ = wr1 at *
        have HW0 := Lib.hid (HWd.out 0 (by omega) (by omega))
        have HG1 := Lib.hid (fun W h => HDg.out W h d' hd0 hd1)
        have HG2 := Lib.hid (fun W h => HDg.out W h c1 hc10 hc11)
        have HG3 := Lib.hid (fun W h => HDg.out W h c2 hc20 hc21)
        generalize wordT 0 = w0 at *
        generalize dg d' = dd at *
        generalize dg c1 = e1 at *
        generalize dg c2 = e2 at *
        obtain ⟨T, hTx⟩ : ∃ T, text 32 [w0, dd, e1, e2] = T := ⟨_, rfl⟩
        have hTl : T.length ≤ 100 := by rw [← hTx, text4]; simp; omega
        have HTx := Lib.hid hTx
        rw [hTx] at HDT HLN1
        clear hTx
        refine Flow.wp_region_segs (Wr W.heap.size W.heap.size) (Wr.refl _ _) (fun _ _ _ h k => h.trans k) [([0, 2, 4, 5, 7, 8], 1), ([], 3), ([], 6), ([], 9), ([], 10), ([], 11)] [] (by kernel_rfl) (by kernel_rfl) ?_
        have bq := ((Below.refl wr1.heap.size wr1).drew)
        have TXwr11 := Lib.hid (TX1.out.below bq); clear TX1
        have KCwr11 := Lib.hid (blk_below bq KC.out); clear KC
        clear bq
        generalize World.drew wr1 = wd at *
        have qKC0 : ∀ t : Flow.Cls ((Wr W.heap.size W.heap.size) wd), t.val.cell? _ = some (i64 c1) := fun t => blk_cell (Wr.blk t.2 KCwr11.out (by decide) (by omega)) 0
        have qKC1 : ∀ t : Flow.Cls ((Wr W.heap.size W.heap.size) wd), t.val.cell? _ = some (i64 c2) := fun t => blk_cell (Wr.blk t.2 KCwr11.out (by decide) (by omega)) 1
        haveI nonE := cls_wr (B := W.heap.size) (bb := W.heap.size) wd
        rw [Flow.wpSegs_cons]
        simp only [Flow.pick, List.getElem?_toArray, List.getElem?_cons_succ, List.getElem?_cons_zero]
        repeat go_big_quiet_step (fail)
        refine wpQuiet_nil ?_
        clear nonE qKC0 qKC1
        rw [Flow.callAt_eq]
        simp only [List.getElem?_toArray, List.getElem?_cons_succ, List.getElem?_cons_zero]
        rw [if_pos (by rfl)]
        refine Flow.wp_behind (fun K hK => ?_)
        go_wp2_with fail
        refine (HW0.out _).mono ?_; rintro e y2wd ⟨rfl, b⟩
        refine hK.out _ _ ⟨Wr.of_below b TXwr11.out.sz, ?_⟩
        clear hK K
        try simp only [Act.put, List.setIfInBounds_toArray, List.set_cons_succ, List.set_cons_zero]
        have bq := b
        have TXwd2 := Lib.hid (TXwr11.out.below bq); clear TXwr11
        have KCwd2 := Lib.hid (blk_below bq KCwr11.out); clear KCwr11
        clear bq
        clear b
        haveI nonE := cls_wr (B := W.heap.size) (bb := W.heap.size) y2wd
        rw [Flow.wpSegs_cons]
        simp only [Flow.pick]
        refine wpQuiet_nil ?_
        clear nonE 
        rw [Flow.callAt_eq]
        simp only [List.getElem?_toArray, List.getElem?_cons_succ, List.getElem?_cons_zero]
        rw [if_pos (by rfl)]
        refine Flow.wp_behind (fun K hK => ?_)
        go_wp2_with fail
        refine (HG1.out _ (HT.out.below TXwd2.out.be)).mono ?_; rintro e y3y2wd ⟨rfl, b⟩
        refine hK.out _ _ ⟨Wr.of_below b TXwd2.out.sz, ?_⟩
        clear hK K
        try simp only [Act.put, List.setIfInBounds_toArray, List.set_cons_succ, List.set_cons_zero]
        have bq := b
        have TXy2wd3 := Lib.hid (TXwd2.out.below bq); clear TXwd2
        have KCy2wd3 := Lib.hid (blk_below bq KCwd2.out); clear KCwd2
        clear bq
        clear b
        haveI nonE := cls_wr (B := W.heap.size) (bb := W.heap.size) y3y2wd
        rw [Flow.wpSegs_cons]
        simp only [Flow.pick]
        refine wpQuiet_nil ?_
        clear nonE 
        rw [Flow.callAt_eq]
        simp only [List.getElem?_toArray, List.getElem?_cons_succ, List.getElem?_cons_zero]
        rw [if_pos (by rfl)]
        refine Flow.wp_behind (fun K hK => ?_)
        go_wp2_with fail
        refine (HG2.out _ (HT.out.below TXy2wd3.out.be)).mono ?_; rintro e y4y3y2wd ⟨rfl, b⟩
        refine hK.out _ _ ⟨Wr.of_below b TXy2wd3.out.sz, ?_⟩
        clear hK K
        try simp only [Act.put, List.setIfInBounds_toArray, List.set_cons_succ, List.set_cons_zero]
        have bq := b
        have TXy3y2wd4 := Lib.hid (TXy2wd3.out.below bq); clear TXy2wd3
        have KCy3y2wd4 := Lib.hid (blk_below bq KCy2wd3.out); clear KCy2wd3
        clear bq
        clear b
        haveI nonE := cls_wr (B := W.heap.size) (bb := W.heap.size) y4y3y2wd
        rw [Flow.wpSegs_cons]
        simp only [Flow.pick]
        refine wpQuiet_nil ?_
        clear nonE 
        rw [Flow.callAt_eq]
        simp only [List.getElem?_toArray, List.getElem?_cons_succ, List.getElem?_cons_zero]
        rw [if_pos (by rfl)]
        refine Flow.wp_behind (fun K hK => ?_)
        go_wp2_with fail
        refine (HG3.out _ (HT.out.below TXy3y2wd4.out.be)).mono ?_; rintro e y5y4y3y2wd ⟨rfl, b⟩
        refine hK.out _ _ ⟨Wr.of_below b TXy3y2wd4.out.sz, ?_⟩
        clear hK K
        try simp only [Act.put, List.setIfInBounds_toArray, List.set_cons_succ, List.set_cons_zero]
        have bq := b
        have TXy4y3y2wd5 := Lib.hid (TXy3y2wd4.out.below bq); clear TXy3y2wd4
        have KCy4y3y2wd5 := Lib.hid (blk_below bq KCy3y2wd4.out); clear KCy3y2wd4
        clear bq
        clear b
        haveI nonE := cls_wr (B := W.heap.size) (bb := W.heap.size) y5y4y3y2wd
        rw [Flow.wpSegs_cons]
        simp only [Flow.pick]
        refine wpQuiet_nil ?_
        clear nonE 
        rw [Flow.callAt_eq]
        simp only [List.getElem?_toArray, List.getElem?_cons_succ, List.getElem?_cons_zero]
        rw [if_pos (by rfl)]
        refine Flow.wp_behind (fun K hK => ?_)
        go_wp2_with fail
        refine hK.out _ _ ⟨Wr.of_below (below_new _ _) TXy4y3y2wd5.out.sz, ?_⟩
        clear hK K
        try simp only [Act.put, List.setIfInBounds_toArray, List.set_cons_succ, List.set_cons_zero]
        have HRD : Hid (Rd (y5y4y3y2wd.alloc (.cells #[enS w0, enS dd, enS e1, enS e2] 9)) (some ⟨y5y4y3y2wd.heap.size, 0, none⟩) [w0, dd, e1, e2]) := Lib.hid (rd_new y5y4y3y2wd [w0, dd, e1, e2])
        have bq := below_new y5y4y3y2wd (.cells #[enS w0, enS dd, enS e1, enS e2] 9)
        have TXy5y4y3y2wd6 := Lib.hid (TXy4y3y2wd5.out.below bq); clear TXy4y3y2wd5
        have KCy5y4y3y2wd6 := Lib.hid (blk_below bq KCy4y3y2wd5.out); clear KCy4y3y2wd5
        clear bq
        generalize y5y4y3y2wd.alloc (.cells #[enS w0, enS dd, enS e1, enS e2] 9) = yay5y4y3y2wd at *
        haveI nonE := cls_wr (B := W.heap.size) (bb := W.heap.size) yay5y4y3y2wd
        rw [Flow.wpSegs_cons]
        simp only [Flow.pick]
        refine wpQuiet_nil ?_
        clear nonE 
        have HWr := Lib.hid (write_any W.heap.size W.heap.size l (some ⟨y5y4y3y2wd.heap.size, 0, none⟩) 4 [w0, dd, e1, e2] yay5y4y3y2wd TXy5y4y3y2wd6.out.bu HRD.out (by simp) (by simp) T HTx.out (by omega) (by omega) TXy5y4y3y2wd6.out.sz)
        clear HRD
        rw [Flow.callAt_eq]
        simp only [List.getElem?_toArray, List.getElem?_cons_succ, List.getElem?_cons_zero]
        rw [if_pos (by rfl)]
        refine Flow.wp_behind (fun K hK => ?_)
        go_wp2_with fail
        refine HWr.out.mono ?_; rintro e yw6 ⟨rfl, dq, bq, kq⟩
        refine hK.out _ _ ⟨⟨bq, kq⟩, ?_⟩
        clear hK K HWr
        try simp only [Act.put, List.setIfInBounds_toArray, List.set_cons_succ, List.set_cons_zero]
        have TXyw6 := Lib.hid (TXy5y4y3y2wd6.out.wr ⟨bq, kq⟩ dq); clear TXy5y4y3y2wd6 dq
        have KCyw6 := Lib.hid (Wr.blk ⟨bq, kq⟩ KCy5y4y3y2wd6.out (by decide) (by omega)); clear KCy5y4y3y2wd6
        clear bq kq
        haveI nonE := cls_wr (B := W.heap.size) (bb := W.heap.size) yw6
        rw [Flow.wpSegs_nil]
        simp only [Flow.pick]
        refine wpQuiet_nil ?_
        clear nonE 
        clear KCyw6 HW0 HG1 HG2 HG3
        have hown := Lib.hid (TXyw6.out.ga.at_ d')
        obtain ⟨A2, cp2, hv⟩ := own2_slice hown.out
        have HV := Lib.hid hv
        have hR2 : yw6.ownsRow w.heap.size 74 3 (.slice A2 (R' d').length cp2) (R' d').length ((R' d').flatMap kyL) := by rw [← hv]; exact hown.out
        have HR2 := Lib.hid hR2
        clear hv hR2 hown
        have HLK : Hid (((getA E d').map rowK.vv).getD nilV = .slice A2 (R' d').length cp2) := Lib.hid (by (show _ = _); rw [← show (getA E d').getD nilV = _ from HV.out]; cases getA E d' <;> rfl)
        go_wp2_with (refine wpList_lookup_r rfl _ _ 87 rfl rowK 88 Tryz.underlying87 nilV (zeroK _) w.heap.size E rfl TXyw6.out.ga.m d' hwf rfl _ HLK.out ?_)
        refine (sortKey_any w.heap.size A2 cp2 (R' d') _ HR2.out (by omega)).mono ?_; rintro e u9 ⟨rfl, m, hpm, hsm, hown2, hgm⟩
        have TX9 := Lib.hid (TXyw6.out.sort hpm (by rw [show (getA E d').getD nilV = _ from HV.out]; exact hown2) (by rw [show (getA E d').getD nilV = _ from HV.out]; exact hgm))
        have hNR := names_of_row ntwo.out HP.out ((HR.out d').trans (by rw [HEQ.out d'])) hpm hsm
        have HN1 := Lib.hid hNR.2
        have HML : Hid (((dayNames ns d').flatMap fun q => lineN q.1 q.2 ((getA ns (d', q)).getD (0, 0))) = m.flatMap fun k => lineN k.2.1 k.2.2 ((getA ns k).getD (0, 0))) := Lib.hid (by
          (show _ = _)
          rw [← hNR.1, List.flatMap_map]
          exact flatMap_same fun k hk => by rw [show (d', k.2) = k from Prod.ext (hNR.2 k hk).1.symm rfl])
        have hml := hpm.length_eq
        have HR3 : Hid (∀ x, ((fun x => if x = d' then m else R' x) x).Perm (R x)) := Lib.hid fun x => by
          (show (if x = d' then m else R' x).Perm (R x))
          split
          · rename_i e; subst e; exact hpm.trans (HR.out x)
          · exact HR.out x
        have HRM : Hid ((fun x => if x = d' then m else R' x) d' = m) := Lib.hid (if_pos rfl)
        rw [HML.out] at HDT HLN1
        have HLK2 : Hid (((getA E d').map rowK.vv).getD nilV = .slice A2 m.length cp2) := Lib.hid (by (show _ = _); rw [HLK.out, hml])
        have HV2 : Hid ((getA E d').getD nilV = .slice A2 m.length cp2) := Lib.hid (by (show _ = _); rw [HV.out, hml])
        clear HLK HV HR2 HML hNR hpm hsm hown2 hgm HR TXyw6
        generalize (fun x => if x = d' then m else R' x) = R2 at *
        have hl9 : (l ++ T ++ [10]).length = l.length + T.length + 1 := by simp; omega
        obtain ⟨l9, hl9e⟩ : ∃ z, l ++ T ++ [10] = z := ⟨_, rfl⟩
        have HL9 := Lib.hid hl9e
        rw [hl9e] at hl9 TX9
        clear hl9e
        go_wp2_with (refine wpList_lookup_r rfl _ _ 87 rfl rowK 88 Tryz.underlying87 nilV (zeroK _) w.heap.size E rfl TX9.out.ga.m d' hwf rfl _ HLK2.out ?_)
        have HMB : Hid (∀ j, (l9 ++ (m.take j).flatMap fun k => lineN k.2.1 k.2.2 ((getA ns k).getD (0, 0))).length ≤ 9000000000) := Lib.hid fun j => by
          have h1 := flat_take_le (fun k : Ky => lineN k.2.1 k.2.2 ((getA ns k).getD (0, 0))) m j
          have h2 := HLN1.out
          rw [← List.append_assoc, ← List.append_assoc, show l ++ T ++ [10] = l9 from HL9.out, List.length_append] at h2
          rw [List.length_append]
          omega
        clear HLN1
        go_loopg [75] m.length (fun gg kv wr => ∃ (j : Nat) (l' : List UInt8), j ≤ m.length ∧ m.length - j ≤ gg ∧ kv = i64 j ∧ Hid (l' = l9 ++ (m.take j).flatMap fun k => lineN k.2.1 k.2.2 ((getA ns k).getD (0, 0))) ∧ Hid (TxS w W.heap.size w.heap.size W.heap.size E (some ⟨b, od, none⟩) c days R2 l' wr))
        case atStart => exact ⟨0, l9, by omega, by omega, rfl, Lib.hid (by (show l9 = _); simp), TX9⟩
        case round =>
          obtain ⟨j, l', hj, hgj, rfl, HLj, TX⟩ := hrel
          clear TX9
          by_cases hlj : j < m.length
          · obtain ⟨⟨x1, x2, x3⟩, hx⟩ : ∃ x, m[j]? = some x := ⟨_, List.getElem?_eq_getElem hlj⟩
            obtain ⟨hxd, ⟨f1, f2⟩, hxn⟩ := HN1.out _ (List.mem_of_getElem? hx)
            obtain rfl : d' = x1 := hxd.symm
            clear hxd
            have HGx := Lib.hid ((getA_iff ntwo.out (d', x2, x3) _).2 hxn)
            obtain ⟨⟨hk1, hk3⟩, hnl80, ⟨hf10, hf11⟩, hf20, hf21⟩ := HK.out _ hxn
            simp only at hk1 hk3 hnl80 hf10 hf11 hf20 hf21
            have hokx : okKy (d', x2, x3) := H0.out.mn.ok _ hxn
            have FTj := Lib.hid (flat_take (fun k : Ky => lineN k.2.1 k.2.2 ((getA ns k).getD (0, 0))) hx)
            have HLx : Hid (lineN x2 x3 ((getA ns (d', x2, x3)).getD (0, 0)) = text 32 [wordT x2, x3, dg f1, dg f2] ++ [10]) := Lib.hid (by (show _ = _); rw [HGx.out, Option.getD_some, line_text])
            have hrow := TX.out.ga.at_ d'
            rw [HV2.out, HRM.out] at hrow
            obtain ⟨b3, o3, hA3, hrg⟩ := RdC.rng (RdC.of_own hrow) kyL_length (by decide) hx
            subst hA3
            have hRG := Lib.hid hrg
            have hll := HMB.out j
            rw [← show l' = _ from HLj.out] at hll
            have HWx := Lib.hid (HWd.out x2 (by omega) (by omega))
            have HG1 := Lib.hid (fun W h => HDg.out W h f1 hf10 hf11)
            have HG2 := Lib.hid (fun W h => HDg.out W h f2 hf20 hf21)
            have m1 := dg_len hf10 hf11
            have m2 := dg_len hf20 hf21
            have m0 := word_len x2
            generalize wordT x2 = wx at *
            generalize dg f1 = g1 at *
            generalize dg f2 = g2 at *
            obtain ⟨T2, hT2⟩ : ∃ T, text 32 [wx, x3, g1, g2] = T := ⟨_, rfl⟩
            have hT2l : T2.length ≤ 100000 := by rw [← hT2, text4]; simp; omega
            have HT2 := Lib.hid hT2
            rw [hT2] at HLx
            clear hx hrow hrg hxn hT2
            go_wp2_with (refine wpList_load_mid rfl 74 _ rfl b3 (o3 + j * 3) rfl [i64 d', i64 x2, enS x3] _ hRG.out Tryz.underlying74 rfl (by kernel_rfl) ?_)
            obtain ⟨_, csb, hbb⟩ := TX.out.bu.blk
            have hbl2 := blk_lt hbb
            have BN := below_new wr (.cells #[i64 d', i64 x2, enS x3] 74)
            have KK := Lib.hid (blk_new wr (.cells #[i64 d', i64 x2, enS x3] 74))
            have TX1 := Lib.hid (TX.out.below BN)
            clear BN hbb csb TX hRG
            generalize hkb : wr.heap.size = kb at *
            generalize wr.alloc _ = wr1 at *
            refine Flow.wp_region_pre Flow.Later Flow.Later.refl Flow.Later.trans [7] (.held [0, 1, 2, 3, 4, 5] (.call 6 (.tail (.step [] 7 (.done []))))) (by kernel_rfl) (by kernel_rfl) ?_
            have bq : Below wr1.heap.size wr1 (World.drew wr1) := (Below.refl _ _).drew
            have TX2 := Lib.hid (TX1.out.below bq); clear TX1
            have KK2 := Lib.hid (blk_below bq KK.out); clear KK
            clear bq
            generalize World.drew wr1 = wd at *
            have hst := H0.out.below TX2.out.be
            have hc1 := hst.c1
            have HMN := Lib.hid hst.mn
            have q1 : ∀ t : Flow.Cls (Flow.Later wd), t.val.cell? _ = some (.map (some bn)) := fun t => Flow.cls_cell hc1 t
            have k0 := blk_cell KK2.out 0
            have k1 := blk_cell KK2.out 1
            have k2 := blk_cell KK2.out 2
            have qk0 : ∀ t : Flow.Cls (Flow.Later wd), t.val.cell? _ = some (i64 d') := fun t => Flow.cls_cell k0 t
            have qk1 : ∀ t : Flow.Cls (Flow.Later wd), t.val.cell? _ = some (i64 x2) := fun t => Flow.cls_cell k1 t
            have qk2 : ∀ t : Flow.Cls (Flow.Later wd), t.val.cell? _ = some (enS x3) := fun t => Flow.cls_cell k2 t
            clear hst
            haveI nonE := Flow.cls_nonempty wd
            rw [Flow.wpPre_held]
            simp only [Flow.pick, List.getElem?_toArray, List.getElem?_cons_succ, List.getElem?_cons_zero]
            iterate 5 go_big_quiet_step (fail)
            refine BigFrame.wpQuiet_want rfl (fun K hK => quiet_lookup_r _ _ 70 rfl nameK 34 Tryz.underlying70 _ (fun w => zeroC w) bn ns rfl (fun _ he => by obtain ⟨t, rfl⟩ := he; exact HMN.out.below t.2) (d', x2, x3) hokx rfl (.agg #[i64 f1, i64 f2]) (by rw [HGx.out]; rfl) (hK _ ?_))
            clear hK K
            simp only [Act.put, List.setIfInBounds_toArray, List.set_cons_succ, List.set_cons_zero]
            refine wpQuiet_nil ?_
            clear nonE q1 hc1 k0 k1 k2 qk0 qk1 qk2 HMN
            rw [Flow.wpPre_call, Flow.callAt_eq]
            simp only [List.getElem?_toArray, List.getElem?_cons_succ, List.getElem?_cons_zero]
            rw [if_pos (by rfl)]
            refine Flow.wp_behind (fun K hK => ?_)
            go_wp2_with fail
            refine hK.out _ _ ⟨below_new _ _, ?_⟩
            clear hK K
            rw [Flow.wpPre_tail, Flow.wpSched_step]
            simp only [Flow.pick]
            refine wpQuiet_nil ?_
            rw [Flow.callAt_eq]
            simp only [List.getElem?_toArray, List.getElem?_cons_succ, List.getElem?_cons_zero]
            rw [if_pos (by rfl)]
            refine Flow.wp_behind (fun K hK => ?_)
            go_wp2_with fail
            refine hK.out _ _ ⟨trivial, ?_⟩
            clear hK K
            rw [Flow.wpSched_done]
            simp only [Flow.pick]
            refine wpQuiet_nil ?_
            have bq := below_new wd (.cells #[i64 f1, i64 f2] 34)
            have KC := Lib.hid (blk_new wd (.cells #[i64 f1, i64 f2] 34))
            have TX3 := Lib.hid (TX2.out.below bq)
            have KK3 := Lib.hid (blk_below bq KK2.out)
            have hbl3 : W.heap.size < wd.heap.size := Nat.lt_trans hbl2 (blk_lt KK2.out)
            clear bq TX2 KK2
            go_wp2_with fail
            generalize hcb3 : wd.heap.size = cb3 at *
            generalize wd.alloc _ = wz at *
            refine Flow.wp_region_segs (Wr W.heap.size W.heap.size) (Wr.refl _ _) (fun _ _ _ h k => h.trans k) [([0, 1, 2, 4, 5, 6, 7, 9, 10], 3), ([], 8), ([], 11), ([], 12), ([], 13)] [] (by kernel_rfl) (by kernel_rfl) ?_
            have bq := ((Below.refl wz.heap.size wz).drew)
            have TXwz1 := Lib.hid (TX3.out.below bq); clear TX3
            have KCwz1 := Lib.hid (blk_below bq KC.out); clear KC
            have KKwz1 := Lib.hid (blk_below bq KK3.out); clear KK3
            clear bq
            generalize World.drew wz = wd at *
            have qKC0 : ∀ t : Flow.Cls ((Wr W.heap.size W.heap.size) wd), t.val.cell? _ = some (i64 f1) := fun t => blk_cell (Wr.blk t.2 KCwz1.out (by decide) (by omega)) 0
            have qKC1 : ∀ t : Flow.Cls ((Wr W.heap.size W.heap.size) wd), t.val.cell? _ = some (i64 f2) := fun t => blk_cell (Wr.blk t.2 KCwz1.out (by decide) (by omega)) 1
            have qKK0 : ∀ t : Flow.Cls ((Wr W.heap.size W.heap.size) wd), t.val.cell? _ = some (i64 d') := fun t => blk_cell (Wr.blk t.2 KKwz1.out (by decide) (by omega)) 0
            have qKK1 : ∀ t : Flow.Cls ((Wr W.heap.size W.heap.size) wd), t.val.cell? _ = some (i64 x2) := fun t => blk_cell (Wr.blk t.2 KKwz1.out (by decide) (by omega)) 1
            have qKK2 : ∀ t : Flow.Cls ((Wr W.heap.size W.heap.size) wd), t.val.cell? _ = some (enS x3) := fun t => blk_cell (Wr.blk t.2 KKwz1.out (by decide) (by omega)) 2
            haveI nonE := cls_wr (B := W.heap.size) (bb := W.heap.size) wd
            rw [Flow.wpSegs_cons]
            simp only [Flow.pick, List.getElem?_toArray, List.getElem?_cons_succ, List.getElem?_cons_zero]
            repeat go_big_quiet_step (fail)
            refine wpQuiet_nil ?_
            clear nonE qKC0 qKC1 qKK0 qKK1 qKK2
            rw [Flow.callAt_eq]
            simp only [List.getElem?_toArray, List.getElem?_cons_succ, List.getElem?_cons_zero]
            rw [if_pos (by rfl)]
            refine Flow.wp_behind (fun K hK => ?_)
            go_wp2_with fail
            refine (HWx.out _).mono ?_; rintro e y2wd ⟨rfl, b⟩
            refine hK.out _ _ ⟨Wr.of_below b TXwz1.out.sz, ?_⟩
            clear hK K
            try simp only [Act.put, List.setIfInBounds_toArray, List.set_cons_succ, List.set_cons_zero]
            have bq := b
            have TXwd2 := Lib.hid (TXwz1.out.below bq); clear TXwz1
            have KCwd2 := Lib.hid (blk_below bq KCwz1.out); clear KCwz1
            have KKwd2 := Lib.hid (blk_below bq KKwz1.out); clear KKwz1
            clear bq
            clear b
            haveI nonE := cls_wr (B := W.heap.size) (bb := W.heap.size) y2wd
            rw [Flow.wpSegs_cons]
            simp only [Flow.pick]
            refine wpQuiet_nil ?_
            clear nonE 
            rw [Flow.callAt_eq]
            simp only [List.getElem?_toArray, List.getElem?_cons_succ, List.getElem?_cons_zero]
            rw [if_pos (by rfl)]
            refine Flow.wp_behind (fun K hK => ?_)
            go_wp2_with fail
            refine (HG1.out _ (HT.out.below TXwd2.out.be)).mono ?_; rintro e y3y2wd ⟨rfl, b⟩
            refine hK.out _ _ ⟨Wr.of_below b TXwd2.out.sz, ?_⟩
            clear hK K
            try simp only [Act.put, List.setIfInBounds_toArray, List.set_cons_succ, List.set_cons_zero]
            have bq := b
            have TXy2wd3 := Lib.hid (TXwd2.out.below bq); clear TXwd2
            have KCy2wd3 := Lib.hid (blk_below bq KCwd2.out); clear KCwd2
            have KKy2wd3 := Lib.hid (blk_below bq KKwd2.out); clear KKwd2
            clear bq
            clear b
            haveI nonE := cls_wr (B := W.heap.size) (bb := W.heap.size) y3y2wd
            rw [Flow.wpSegs_cons]
            simp only [Flow.pick]
            refine wpQuiet_nil ?_
            clear nonE 
            rw [Flow.callAt_eq]
            simp only [List.getElem?_toArray, List.getElem?_cons_succ, List.getElem?_cons_zero]
            rw [if_pos (by rfl)]
            refine Flow.wp_behind (fun K hK => ?_)
            go_wp2_with fail
            refine (HG2.out _ (HT.out.below TXy2wd3.out.be)).mono ?_; rintro e y4y3y2wd ⟨rfl, b⟩
            refine hK.out _ _ ⟨Wr.of_below b TXy2wd3.out.sz, ?_⟩
            clear hK K
            try simp only [Act.put, List.setIfInBounds_toArray, List.set_cons_succ, List.set_cons_zero]
            have bq := b
            have TXy3y2wd4 := Lib.hid (TXy2wd3.out.below bq); clear TXy2wd3
            have KCy3y2wd4 := Lib.hid (blk_below bq KCy2wd3.out); clear KCy2wd3
            have KKy3y2wd4 := Lib.hid (blk_below bq KKy2wd3.out); clear KKy2wd3
            clear bq
            clear b
            haveI nonE := cls_wr (B := W.heap.size) (bb := W.heap.size) y4y3y2wd
            rw [Flow.wpSegs_cons]
            simp only [Flow.pick]
            refine wpQuiet_nil ?_
            clear nonE 
            rw [Flow.callAt_eq]
            simp only [List.getElem?_toArray, List.getElem?_cons_succ, List.getElem?_cons_zero]
            rw [if_pos (by rfl)]
            refine Flow.wp_behind (fun K hK => ?_)
            go_wp2_with fail
            refine hK.out _ _ ⟨Wr.of_below (below_new _ _) TXy3y2wd4.out.sz, ?_⟩
            clear hK K
            try simp only [Act.put, List.setIfInBounds_toArray, List.set_cons_succ, List.set_cons_zero]
            have HRD : Hid (Rd (y4y3y2wd.alloc (.cells #[enS wx, enS x3, enS g1, enS g2] 9)) (some ⟨y4y3y2wd.heap.size, 0, none⟩) [wx, x3, g1, g2]) := Lib.hid (rd_new y4y3y2wd [wx, x3, g1, g2])
            have bq := below_new y4y3y2wd (.cells #[enS wx, enS x3, enS g1, enS g2] 9)
            have TXy4y3y2wd5 := Lib.hid (TXy3y2wd4.out.below bq); clear TXy3y2wd4
            have KCy4y3y2wd5 := Lib.hid (blk_below bq KCy3y2wd4.out); clear KCy3y2wd4
            have KKy4y3y2wd5 := Lib.hid (blk_below bq KKy3y2wd4.out); clear KKy3y2wd4
            clear bq
            generalize y4y3y2wd.alloc (.cells #[enS wx, enS x3, enS g1, enS g2] 9) = yay4y3y2wd at *
            haveI nonE := cls_wr (B := W.heap.size) (bb := W.heap.size) yay4y3y2wd
            rw [Flow.wpSegs_cons]
            simp only [Flow.pick]
            refine wpQuiet_nil ?_
            clear nonE 
            have HWr := Lib.hid (write_any W.heap.size W.heap.size l' (some ⟨y4y3y2wd.heap.size, 0, none⟩) 4 [wx, x3, g1, g2] yay4y3y2wd TXy4y3y2wd5.out.bu HRD.out (by simp) (by simp) T2 HT2.out (by omega) (by omega) TXy4y3y2wd5.out.sz)
            clear HRD
            rw [Flow.callAt_eq]
            simp only [List.getElem?_toArray, List.getElem?_cons_succ, List.getElem?_cons_zero]
            rw [if_pos (by rfl)]
            refine Flow.wp_behind (fun K hK => ?_)
            go_wp2_with fail
            refine HWr.out.mono ?_; rintro e yw5 ⟨rfl, dq, bq, kq⟩
            refine hK.out _ _ ⟨⟨bq, kq⟩, ?_⟩
            clear hK K HWr
            try simp only [Act.put, List.setIfInBounds_toArray, List.set_cons_succ, List.set_cons_zero]
            have TXyw5 := Lib.hid (TXy4y3y2wd5.out.wr ⟨bq, kq⟩ dq); clear TXy4y3y2wd5 dq
            have KCyw5 := Lib.hid (Wr.blk ⟨bq, kq⟩ KCy4y3y2wd5.out (by decide) (by omega)); clear KCy4y3y2wd5
            have KKyw5 := Lib.hid (Wr.blk ⟨bq, kq⟩ KKy4y3y2wd5.out (by decide) (by omega)); clear KKy4y3y2wd5
            clear bq kq
            haveI nonE := cls_wr (B := W.heap.size) (bb := W.heap.size) yw5
            rw [Flow.wpSegs_nil]
            simp only [Flow.pick]
            refine wpQuiet_nil ?_
            clear nonE 
            clear KCyw5 KKyw5 HWx HG1 HG2
            have HLj2 : Hid (l' ++ T2 ++ [10] = l9 ++ (m.take (j + 1)).flatMap fun k => lineN k.2.1 k.2.2 ((getA ns k).getD (0, 0))) := Lib.hid (by
              (show _ = _)
              rw [FTj.out, HLx.out, HLj.out]
              simp only [List.append_assoc])
            clear HLj FTj HLx HGx
            go_wp2_with fail
            go_roundg (m.length - (j + 1))
            case measure => omega
            case rel => exact ⟨j + 1, l' ++ T2 ++ [10], by omega, by omega, by go_num, HLj2, TXyw5⟩
          · obtain rfl : j = m.length := by omega
            have HF : Hid (l' = (days.take (i + 1)).flatMap (dayText ds ns)) := Lib.hid (by
              (show l' = _)
              rw [FT.out, HDT.out, ← show l = _ from HL.out, HLj.out, List.take_length, ← HL9.out]
              simp only [List.append_assoc])
            clear HLj HMB HLK2 HV2
            go_wp2_with fail
            go_roundg (days.length - (i + 1))
            case measure => omega
            case rel => exact ⟨i + 1, R2, l', by omega, by omega, by go_num, HF, TX, HR3⟩
      · obtain rfl : i = days.length := by omega
        have hll := HLN.out days.length
        have hres : Hid (textP ds ns zs = l ++ sizesT zs) := Lib.hid (by (show _ = _); rw [TPD.out, HL.out, List.take_length])
        rw [← show l = _ from HL.out] at hll
        clear HL TPD
        go_wp2_with fail
        go_meet
        exact ⟨l, hres, hll, Lib.hid TX.out.be, Lib.hid TX.out.bu, TX.out.sz⟩
  obtain ⟨l, hres, hll, hbe, hbu, hsz⟩ := hcut
  apply_assumption
  exact Flow.wp_of_rest (n := 7) (f := Tryz.f17) rfl (textTail7 p bd bn ds ns zs w _ W.heap.size W.heap.size l H0.out HT.out hbe.out hbu.out hsz (Nat.le_of_lt hb0) hll HZ.out _ hres.out)
end Go.Proofs.YthgefcoaaommkaaGreatDoor

namespace Go.Proofs.YthgefcoaaommkaaGreatDoor
open Go.RowKit Go.Gn Go.Sr Go.Maps Go.Nr

set_option maxRecDepth 100000 in
set_option maxHeartbeats 16000000 in
theorem text_any (p bd bn : Nat) (ds : List (Int × C)) (ns : List (Ky × C)) (zs : List Int) (w : World) (h : StM w p bd bn ds ns zs) (hT : Tab w) (hdn : ds.length ≤ 100000) (hnn : ns.length ≤ 100000)
    (hd : ∀ q ∈ ds, (0 ≤ q.1 ∧ q.1 ≤ 1000000000000000) ∧ NumC q.2) (hk : ∀ q ∈ ns, (1 ≤ q.1.2.1 ∧ q.1.2.1 ≤ 3) ∧ q.1.2.2.length ≤ 10000 ∧ NumC q.2) (hz : ∀ k, 0 ≤ zs.getD k 0 ∧ zs.getD k 0 ≤ 1000000000000000) (hlen : (textP ds ns zs).length ≤ 9000000000) :
    Calls Tryz.prog 17 #[.pointer (some ⟨p, 0, none⟩)] w fun e w' => e = .returned (enS (textP ds ns zs)) ∧ Below w.heap.size w w' := by
  obtain ⟨i0, z0, hi, hz0, hz1, hz2, hzs⟩ := ky_info
  have hpl := h.lp
  have hnl := h.ln
  have H0 := Lib.hid h
  have HT := Lib.hid hT
  have HD := Lib.hid hd
  have HK := Lib.hid hk
  have HZ := Lib.hid hz
  clear h hT hd hk hz
  have BM := Lib.hid (below_new w (.map #[] 0))
  have G0 := Lib.hid (Gath.made w.heap.size w)
  have hc1 := (H0.out.below BM.out).c1
  have H1 := Lib.hid (H0.out.below BM.out).mn
  have hmm := @run_makeMap Tryz.prog
  go_enter Tryz.func17, Tryz.ntmps17
  go_upto_block 0 with (first | (at_range; refine wpList_range_a _ rfl _ 70 rfl nameK 34 Tryz.underlying70 bn ns rfl H1.out ?_; intro w0 hrg0 hg0 hs0) | go_in)
  try go_frame
  have e1 : (w.alloc (.map #[] 0)).heap.size = w.heap.size + 1 := by simp
  have b0 : Below (w.alloc (.map #[] 0)).heap.size (w.alloc (.map #[] 0)) w0 := (Below.refl _ _).grown hg0 (Nat.le_refl _) (fun k hk => by cases hk)
  have S0 : Hid (GaS w w.heap.size [] (fun _ => []) [] w0) := Lib.hid ⟨G0.out.below b0, fun _ => rfl, BM.out.tr b0, Nat.le_refl _⟩
  rw [e1] at hrg0 hs0 ⊢
  have R0 := Lib.hid hrg0
  clear b0 e1 hg0 hs0 hrg0 G0 H1 BM hc1
  go_cut [] (fun wx => ∃ (E : List (Int × Value)) (R : Int → List Ky) (done : List (Ky × C)), Hid (GaS w w.heap.size E R done wx) ∧ Hid (done.Perm ns))
  case first =>
    go_wp2_with fail
    go_loopg [4] ns.length (fun gg kv wr => ∃ (done : List (Ky × C)) (E : List (Int × Value)) (R : Int → List Ky), ns.length - done.length ≤ gg ∧ Hid (RngA nameK wr bn (w.heap.size + 1) ns done) ∧ Hid (GaS w w.heap.size E R done wr))
    case atStart => exact ⟨[], [], fun _ => [], by simp, R0, S0⟩
    case round =>
      obtain ⟨done, E, R, hgg, R3, S3⟩ := hrel
      go_wp2_with (first | (at_next; refine wpList_next_name rfl _ rfl bn (w.heap.size + 1) ns done rfl R3.out ?_ ?_) | go_in)
      · intro hp
        go_wp2_with fail
        go_meet
        exact ⟨E, R, done, S3, Lib.hid hp⟩
      · intro x1 x2 x3 c1 c2 w1 hmem hnd hwf R4 hg4 hs4 hen
        have S4 : Hid (GaS w w.heap.size E R done w1) := Lib.hid ⟨S3.out.ga.keep hg4 (by intro e; injection e with e; omega) (fun q hq => .inr (fun e => own_noCells (S3.out.ga.row q hq) R3.out.noCells e.symm)), S3.out.eq, S3.out.be.trans ((Below.refl _ _).grown hg4 S3.out.be.size (fun k e => by cases e; omega)), S3.out.len⟩
        have hdl := R3.out.len
        have HR4 := Lib.hid R4
        have hwx : (Lit.int .i64 x1).wf = true := hwf.1
        clear hmem hnd hwf R4 hg4 hs4 S3 R3
        go_wp2_with fail
        have BK := Lib.hid (below_new w1 (.cells #[i64 x1, i64 x2, enS x3] 74))
        have KB := Lib.hid (blk_new w1 (.cells #[i64 x1, i64 x2, enS x3] 74))
        have hrl : ∀ g, ((getA E x1).getD nilV).ownBlock = some g → g < w1.heap.size := fun g e => ((S4.out.ga.at_ x1).lt g e).2
        refine Flow.wp_region_pre (KeepT w.heap.size [w1.heap.size, w.heap.size]) (KeepT.refl _ _) (fun _ _ _ h k => h.trans k) [10] (.held [0, 1, 2, 3, 4, 5, 6, 7] (.call 8 (.call 9 (.tail (.step [] 10 (.done [])))))) (by kernel_rfl) (by kernel_rfl) ?_
        have b' : Below (w1.alloc (.cells #[i64 x1, i64 x2, enS x3] 74)).heap.size (w1.alloc (.cells #[i64 x1, i64 x2, enS x3] 74)) (World.drew (w1.alloc (.cells #[i64 x1, i64 x2, enS x3] 74))) := (Below.refl _ _).drew
        have S5 := Lib.hid ((S4.out.below BK.out).below b')
        have R5 := Lib.hid ((HR4.out.below BK.out).below b')
        have K5 := Lib.hid (blk_below b' KB.out)
        clear b' S4 HR4 BK KB
        obtain ⟨kb, hkb⟩ : ∃ n, w1.heap.size = n := ⟨_, rfl⟩
        generalize World.drew (w1.alloc (.cells #[i64 x1, i64 x2, enS x3] 74)) = wd at *
        simp only [hkb] at K5 hrl ⊢
        have k0 := blk_cell K5.out 0
        have k1 := blk_cell K5.out 1
        have k2 := blk_cell K5.out 2
        have q0 := fun t => KeepT.cell (B := w.heap.size) (K := [kb, w.heap.size]) (by simp) k0 t
        have q1 := fun t => KeepT.cell (B := w.heap.size) (K := [kb, w.heap.size]) (by simp) k1 t
        have q2 := fun t => KeepT.cell (B := w.heap.size) (K := [kb, w.heap.size]) (by simp) k2 t
        haveI nonE := cls_keep (B := w.heap.size) (K := [kb, w.heap.size]) wd
        rw [Flow.wpPre_held]
        simp only [Flow.pick, List.getElem?_toArray, List.getElem?_cons_succ, List.getElem?_cons_zero]
        iterate 6 go_big_quiet_step (fail)
        refine BigFrame.wpQuiet_want rfl (fun K hK => quiet_lookup_r _ _ 87 rfl rowK 88 Tryz.underlying87 nilV zeroK w.heap.size E rfl (fun _ he => by obtain ⟨t, rfl⟩ := he; exact S5.out.ga.m.keep (t.2.2 _ (by simp))) x1 hwx rfl ((getA E x1).getD nilV) (by cases getA E x1 <;> rfl) (hK _ ?_))
        clear hK K
        simp only [Act.put, List.setIfInBounds_toArray, List.set_cons_succ, List.set_cons_zero]
        go_big_quiet_step (fail)
        refine wpQuiet_nil ?_
        clear nonE q0 q1 q2 k0 k1 k2
        rw [Flow.wpPre_call, Flow.callAt_eq]
        simp only [List.getElem?_toArray, List.getElem?_cons_succ, List.getElem?_cons_zero]
        rw [if_pos (by rfl)]
        refine Flow.wp_behind (fun K hK => ?_)
        go_wp2_with fail
        have hks : kb < wd.heap.size := blk_lt K5.out
        have hbs : w.heap.size < wd.heap.size := S5.out.ga.m.lt
        refine hK.out _ _ ⟨KeepT.of_below (below_new _ _) (by omega) (by simp; omega), ?_⟩
        clear hK K
        have S6 := Lib.hid (S5.out.below (below_new wd (.cells #[i64 x1, i64 x2, enS x3] 74)))
        have R6 := Lib.hid (R5.out.below (below_new wd (.cells #[i64 x1, i64 x2, enS x3] 74)))
        have X6 : Hid (RdC (wd.alloc (.cells #[i64 x1, i64 x2, enS x3] 74)) (some ⟨wd.heap.size, 0, none⟩) (kyL (x1, x2, x3))) := Lib.hid (rdC_new wd (kyL (x1, x2, x3)) 74)
        have hs6 : wd.heap.size ≤ (wd.alloc (.cells #[i64 x1, i64 x2, enS x3] 74)).heap.size := by simp
        have hRl : (R x1).length ≤ 100000 := by
          rw [S6.out.eq x1]
          have := List.length_filter_le (fun k : Ky => decide (k.1 = x1)) (done.map (·.1))
          rw [List.length_map] at this
          omega
        clear S5 R5 K5
        generalize wd.alloc (.cells #[i64 x1, i64 x2, enS x3] 74) = w6 at *
        rw [Flow.wpPre_call, Flow.callAt_eq]
        simp only [List.getElem?_toArray, List.getElem?_cons_succ, List.getElem?_cons_zero]
        rw [if_pos (by rfl)]
        refine Flow.wp_behind (fun K hK => ?_)
        refine wp_appK Tryz.underlying88 hi hz0 hz1 hz2 hzs (by decide) _ _ rfl w.heap.size _ (R x1).length ((R x1).flatMap kyL) (S6.out.ga.at_ x1) _ 1 _ (kyL (x1, x2, x3)) rfl X6.out (one_kyL _) rfl rfl (by omega) (by decide) (by omega) ?_
        intro v9 w9 hown9 b9 hg9
        have nb := own_noCells (S6.out.ga.at_ x1) S6.out.ga.m.noCells
        have nn := own_noCells (S6.out.ga.at_ x1) R6.out.map.noCells
        have nr := own_noCells (S6.out.ga.at_ x1) R6.out.noCells
        refine hK.out _ _ ⟨KeepT.grown hg9 (by omega) (fun g e => ((S6.out.ga.at_ x1).lt g e).1) (fun k hk => by
          simp only [List.mem_cons, List.not_mem_nil, or_false] at hk
          rcases hk with rfl | rfl
          · exact ⟨by omega, fun e => by have := hrl _ e.symm; omega⟩
          · exact ⟨by omega, nb⟩), ?_⟩
        clear hK K
        have R9 := Lib.hid (R6.out.kept hg9 nn nr)
        have M9 := Lib.hid (S6.out.ga.m.kept hg9 nb)
        have hown9 : w9.ownsRow w.heap.size 74 3 v9 (R x1 ++ [(x1, x2, x3)]).length ((R x1 ++ [(x1, x2, x3)]).flatMap kyL) := by
          rw [List.length_append, List.flatMap_append]
          simpa using hown9
        have hEl := S6.out.len
        clear nb nn nr R6 X6
        rw [Flow.wpPre_tail, Flow.wpSched_step]
        simp only [Flow.pick, Act.put, List.setIfInBounds_toArray, List.set_cons_succ, List.set_cons_zero]
        refine wpQuiet_nil ?_
        rw [Flow.callAt_eq]
        simp only [List.getElem?_toArray, List.getElem?_cons_succ, List.getElem?_cons_zero]
        rw [if_pos (by rfl)]
        refine Flow.wp_behind (fun K hK => ?_)
        refine wp_mapUpdate_a w9 _ _ _ 87 rfl rowK 88 Tryz.underlying87 w.heap.size E rfl M9.out (by unfold maxLen; omega) x1 hwx v9 rfl rfl ?_
        intro w10 hm10 hg10
        refine hK.out _ _ ⟨trivial, ?_⟩
        clear hK K
        have S10 := Lib.hid (S6.out.more (c := (c1, c2)) (k := (x1, x2, x3)) hown9 hg9 hm10 hg10 (Nat.le_refl _))
        have R10 := Lib.hid (R9.out.kept hg10 (by intro e; injection e with e; omega) (by intro e; injection e with e; omega))
        clear hown9 hg9 hm10 hg10 R9 M9 S6
        rw [Flow.wpSched_done]
        simp only [Flow.pick, Act.put]
        refine wpQuiet_nil ?_
        go_wp2_with fail
        go_roundg (ns.length - (done.length + 1))
        case measure =>
          have := R10.out.len
          simp at this
          omega
        case rel => exact ⟨done ++ [((x1, x2, x3), (c1, c2))], _, _, by simp, R10, S10⟩
  obtain ⟨E, R, done, hg, hp⟩ := hcut
  apply_assumption
  exact Flow.wp_of_rest (n := 4) (f := Tryz.f17) rfl (textTail4 p bd bn ds ns zs w _ E R done H0.out HT.out hg.out hp.out hdn hnn HD.out HK.out HZ.out hlen)
end Go.Proofs.YthgefcoaaommkaaGreatDoor
