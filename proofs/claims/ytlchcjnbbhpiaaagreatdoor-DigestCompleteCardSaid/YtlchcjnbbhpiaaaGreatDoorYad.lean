/- A region that draws its order, with a tail of stores to cells that it has read, in which two operations that change the world may come up in either order. Of no program.
   A region that draws its order, in which three operations that change the world may come up in any order behind what reads. Of no program.
   The builder in memory; contracts: NewBuilder, Len, Issue, Due.
   Contract: Add of a builder. -/
import Derived.Test.YtlchcjnbbhpiaaaGreatDoorZb
import Derived.Test.YtlchcjnbbhpiaaaGreatDoorZv
import Derived.Test.YtlchcjnbbhpiaaaGreatDoorZa
namespace Go.Flow
open Go.RowKit
section
variable {P : Program} {ops : Array Oper} {Q : Exit → Act → World → Prop}
end
section
variable {P : Program} {ops : Array Oper} {Q : Exit → Act → World → Prop}
end
end Go.Flow
namespace Go.Proofs.YtlchcjnbbhpiaaaGreatDoor
open Go.RowKit Go.Shelf Go.Dg Go.Maps
/-- Nothing that was there has turned, but the blocks of R. -/
structure ButL (R : List Nat) (w w' : World) : Prop where
 os : w'.os = w.os
 tape : w'.tape = w.tape
 output : w'.output = w.output
 size : w.heap.size ≤ w'.heap.size
 block : ∀ k, k < w.heap.size → k ∉ R → w'.heap[k]? = w.heap[k]?
theorem ButL.of_below {R : List Nat} {w w' : World} (h : Below w.heap.size w w') : ButL R w w' := ⟨h.os, h.tape, h.output, h.size, fun k hk _ => h.block k hk⟩
theorem ButL.trans {R : List Nat} {u v w : World} (h : ButL R u v) (k : ButL R v w) : ButL R u w :=
 ⟨k.os.trans h.os, k.tape.trans h.tape, k.output.trans h.output, Nat.le_trans h.size k.size, fun i hi hn => (k.block i (Nat.lt_of_lt_of_le hi h.size) hn).trans (h.block i hi hn)⟩
theorem ButL.grown {R : List Nat} {w w' : World} {row : Option Nat} (hg : w.grownBy w' row) (hr : ∀ k, row = some k → k ∈ R) : ButL R w w' := ⟨hg.os, hg.tape, hg.output, hg.size, fun k hk hn => hg.block k hk fun e => hn (hr k e.symm)⟩
theorem ButL.setCell {R : List Nat} (w : World) (a : Addr) (v : Value) (h : a.block ∈ R) : ButL R w (w.setCell a v) := by
 have hb := (Below.refl a.block w).setCell (p := a) (Nat.le_refl _) v
 exact ⟨hb.os, hb.tape, hb.output, hb.size, fun k hk hn => Below.heap_setCell w a v k fun e => hn (e ▸ h)⟩
theorem ButL.toBelow {R : List Nat} {w w' : World} {B : Nat} (h : ButL R w w') (hB : B ≤ w.heap.size) (hR : ∀ k ∈ R, B ≤ k) : Below B w w' :=
 ⟨h.os, h.tape, h.output, h.size, fun k hk => h.block k (Nat.lt_of_lt_of_le hk hB) fun e => by have := hR k e; omega⟩
/-- The cells of a builder. -/
abbrev blL (B : Bs) (v : Value) (mb : Nat) : List Value := [enS B.ti, i64 B.vo, i64 B.cap, i64 B.mins, i64 B.taken, v, i64 B.first, .map (some mb)]
/-- The builder at bb: its identities lie in the map mb, its items in the row v. -/
structure BlM (w : World) (base bb mb : Nat) (v : Value) (B : Bs) : Prop where
 blk : w.heap[bb]? = some (.cells (blL B v mb).toArray 109 (0, 0))
 row : w.ownsRow base 59 36 v B.wait.length (B.wait.flatMap itL)
 set : SetI w mb B.added
 ky : ∀ x ∈ B.wait, x.ky.length = 32
 lb : base ≤ bb
 lm : base ≤ mb
/-- The blocks that a builder writes. -/
def blR (bb mb : Nat) (v : Value) : List Nat := bb :: mb :: v.ownBlock.toList
section
variable {w w' : World} {base bb mb : Nat} {v : Value} {B : Bs}
theorem BlM.lt (h : BlM w base bb mb v B) : bb < w.heap.size := blk_lt h.blk
theorem BlM.ltm (h : BlM w base bb mb v B) : mb < w.heap.size := h.set.2.lt
theorem row_blk {e : TypeId} {n size : Nat} {xs : List Value} (h : w.ownsRow base e size v n xs) {g : Nat} (hg : v.ownBlock = some g) : base ≤ g ∧ ∃ cur, w.heap[g]? = some (.cells cur e (0, 0)) := by
 rcases h.2 with ⟨rfl, _⟩ | ⟨g', cap, cur, rfl, hb, h2, _⟩
 ·cases hg
 ·have : g' = g := by simpa [Value.ownBlock] using hg
  subst this
  exact ⟨hb, cur, h2⟩
theorem SetI.isMap {b : Nat} {ks : List (List UInt8)} (h : SetI w b ks) : ∃ es c, w.heap[b]? = some (.map es c) := by
 obtain ⟨_, es, c, hb, _⟩ := h.2
 exact ⟨es, c, hb⟩
/-- A block of cells of another type is none of the builder's. -/
theorem BlM.away (h : BlM w base bb mb v B) {i : Nat} {cur : Array Value} {t : TypeId} {fr : Nat × Nat} (hi : w.heap[i]? = some (.cells cur t fr)) (h1 : t ≠ 109) (h2 : t ≠ 59) : i ∉ blR bb mb v := by
 intro hm
 simp only [blR, List.mem_cons, Option.mem_toList] at hm
 rcases hm with rfl | rfl | hm
 ·rw [h.blk] at hi; cases hi; exact h1 rfl
 ·obtain ⟨es, c, e⟩ := h.set.isMap
  rw [e] at hi; cases hi
 ·obtain ⟨_, cur', e⟩ := row_blk h.row hm
  rw [e] at hi; cases hi; exact h2 rfl
theorem BlM.low (h : BlM w base bb mb v B) : ∀ k ∈ blR bb mb v, base ≤ k := by
 intro k hm
 simp only [blR, List.mem_cons, Option.mem_toList] at hm
 rcases hm with rfl | rfl | hm
 ·exact h.lb
 ·exact h.lm
 ·exact (row_blk h.row hm).1
theorem BlM.ne_bm (h : BlM w base bb mb v B) : bb ≠ mb := fun e => by
 obtain ⟨es, c, e2⟩ := h.set.isMap
 have := h.blk
 rw [e, e2] at this; cases this
theorem BlM.ne_bg (h : BlM w base bb mb v B) {g : Nat} (hg : v.ownBlock = some g) : bb ≠ g ∧ mb ≠ g := by
 obtain ⟨_, cur, e⟩ := row_blk h.row hg
 constructor
 ·rintro rfl
  have := h.blk
  rw [e] at this; cases this
 ·rintro rfl
  obtain ⟨es, c, e2⟩ := h.set.isMap
  rw [e] at e2; cases e2
theorem row_keep {e : TypeId} {n size : Nat} {xs : List Value} (h : w.ownsRow base e size v n xs) (hk : ∀ g, v.ownBlock = some g → w'.heap[g]? = w.heap[g]?) : w'.ownsRow base e size v n xs := by
 refine ⟨h.1, ?_⟩
 rcases h.2 with h | ⟨g, cap, cur, rfl, hb, h2, r⟩
 ·exact .inl h
 ·exact .inr ⟨g, cap, cur, rfl, hb, (hk g rfl).trans h2, r⟩
theorem BlM.keep (h : BlM w base bb mb v B) (hk : ∀ k ∈ blR bb mb v, w'.heap[k]? = w.heap[k]?) : BlM w' base bb mb v B :=
 ⟨(hk bb (by simp [blR])).trans h.blk, row_keep h.row fun g hg => hk g (by simp [blR, hg]), h.set.keep (hk mb (by simp [blR])), h.ky, h.lb, h.lm⟩
theorem BlM.lts (h : BlM w base bb mb v B) : ∀ k ∈ blR bb mb v, k < w.heap.size := by
 intro k hm
 simp only [blR, List.mem_cons, Option.mem_toList] at hm
 rcases hm with rfl | rfl | hm
 ·exact h.lt
 ·exact h.ltm
 ·obtain ⟨_, cur, e⟩ := row_blk h.row hm
  exact blk_lt e
theorem BlM.below (h : BlM w base bb mb v B) (hb : Below w.heap.size w w') : BlM w' base bb mb v B := h.keep fun k hk => hb.block k (h.lts k hk)
theorem BlM.cells (h : BlM w base bb mb v B) : w.cell? ⟨bb, 0, none⟩ = some (enS B.ti) ∧ w.cell? ⟨bb, 1, none⟩ = some (i64 B.vo) ∧ w.cell? ⟨bb, 2, none⟩ = some (i64 B.cap) ∧ w.cell? ⟨bb, 3, none⟩ = some (i64 B.mins) ∧ w.cell? ⟨bb, 4, none⟩ = some (i64 B.taken) ∧ w.cell? ⟨bb, 5, none⟩ = some v ∧ w.cell? ⟨bb, 6, none⟩ = some (i64 B.first) ∧ w.cell? ⟨bb, 7, none⟩ = some (.map (some mb)) :=
 ⟨blk_cell h.blk 0, blk_cell h.blk 1, blk_cell h.blk 2, blk_cell h.blk 3, blk_cell h.blk 4, blk_cell h.blk 5, blk_cell h.blk 6, blk_cell h.blk 7⟩
end
theorem built_bl (ti : List UInt8) (vo it mi : Int) (m : Nat) : Tryz.prog.built 109 [(0, enS ti), (1, i64 vo), (2, i64 it), (3, i64 mi), (7, .map (some m))] = some #[enS ti, i64 vo, i64 it, i64 mi, i64 0, .slice none 0 0, i64 0, .map (some m)] := by kernel_rfl
theorem wpList_build_bl {ops : Array Oper} {rest : List Oper} {o : Oper} {a : Act} {w : World} {Q : Exit → Act → World → Prop} (hg : o.guard = none) (X0 X1 X2 X3 X7 : Operand) (ho : o.op = .build 109 #[(0, X0), (1, X1), (2, X2), (3, X3), (7, X7)]) (ti : List UInt8) (vo it mi : Int) (m : Nat)
  (h0 : a.eval X0 = enS ti) (h1 : a.eval X1 = i64 vo) (h2 : a.eval X2 = i64 it) (h3 : a.eval X3 = i64 mi) (h7 : a.eval X7 = .map (some m))
  (h : wpList Tryz.prog ops Q rest (a.put o.dst (.agg #[enS ti, i64 vo, i64 it, i64 mi, i64 0, .slice none 0 0, i64 0, .map (some m)])) w) : wpList Tryz.prog ops Q (o :: rest) a w :=
 wpList_plain hg fun K hK => by
  unfold Oper.wp execOp
  simp only [ho, Sem.run_bind, run_build w 109 #[(0, enS ti), (1, i64 vo), (2, i64 it), (3, i64 mi), (7, .map (some m))] _ (built_bl ti vo it mi m), List.map_toArray, List.map_cons, List.map_nil, h0, h1, h2, h3, h7, Result.andThen_ok]
  exact hK _ _ h
set_option maxRecDepth 100000 in
set_option maxHeartbeats 2000000 in
theorem issue_any (base bb mb : Nat) (v : Value) (B : Bs) (w : World) (h : BlM w base bb mb v B) (ht : 0 ≤ B.taken ∧ B.taken ≤ 1000000000) : Calls Tryz.prog 29 #[.pointer (some ⟨bb, 0, none⟩)] w fun e w' => e = .returned (i64 (B.taken + 1)) ∧ w = w' := by
 have c4 := h.cells.2.2.2.2.1
 clear h
 go_enter Tryz.func29, Tryz.ntmps29
 go_wp2_with fail
 go_ret
 exact ⟨rfl, rfl⟩
set_option maxRecDepth 100000 in
set_option maxHeartbeats 2000000 in
theorem newB_any (ti : List UInt8) (vo it mi : Int) (w : World) (hti : ti.length ≤ 1000000000) :
  Calls Tryz.prog 23 #[enS ti, i64 vo, i64 it, i64 mi] w fun e w' => ((newE ti vo it mi = 0 ∧ ∃ bb mb, e = .returned (.tuple #[.pointer (some ⟨bb, 0, none⟩), i64 0]) ∧ BlM w' w.heap.size bb mb (.slice none 0 0) ⟨ti, vo, it, mi, 0, [], 0, []⟩) ∨ (newE ti vo it mi ≠ 0 ∧ e = .returned (.tuple #[.pointer none, i64 (newE ti vo it mi)]))) ∧ Below w.heap.size w w' := by
 have H1 := Lib.hid (fun u => isTitle_any ti u hti)
 have H2 := Lib.hid (fun u => isOrdinal_any vo u)
 have V := Lib.hid (show newE ti vo it mi = if titleB ti = false then 12 else if ordB vo = false ∨ (it < 1 ∨ 200 < it) ∨ (mi < 1 ∨ 100000 < mi) then 2 else 0 from rfl)
 clear hti
 go_enter Tryz.func23, Tryz.ntmps23
 go_wp2_with fail
 refine (H1.out _).mono ?_; rintro e w1 ⟨rfl, rfl⟩
 cases q1 : titleB ti with
 | false =>
  have VB : Hid (newE ti vo it mi = 12) := Lib.hid (by (show _ = _); rw [V.out, q1]; rfl)
  clear q1 V
  go_wp2_with fail
  go_ret2
  rw [VB.out]
  exact ⟨.inr ⟨by decide, rfl⟩, Below.refl _ _⟩
 | true =>
 rw [q1, if_neg (show ¬ true = false by decide)] at V
 clear q1
 go_wp2_with fail
 refine (H2.out _).mono ?_; rintro e w1 ⟨rfl, rfl⟩
 by_cases hb : ordB vo = false ∨ (it < 1 ∨ 200 < it) ∨ (mi < 1 ∨ 100000 < mi)
 ·have VB : Hid (newE ti vo it mi = 2) := Lib.hid (by (show _ = _); rw [V.out, if_pos hb])
  clear V
  cases q2 : ordB vo with
  | false =>
   clear hb q2
   go_wp2_with fail
   go_ret2
   rw [VB.out]
   exact ⟨.inr ⟨by decide, rfl⟩, Below.refl _ _⟩
  | true =>
   rw [q2] at hb
   clear q2
   by_cases g1 : it < 1
   ·clear hb
    go_wp2_with fail
    go_ret2
    rw [VB.out]
    exact ⟨.inr ⟨by decide, rfl⟩, Below.refl _ _⟩
   by_cases g2 : 200 < it
   ·clear hb
    go_wp2_with fail
    go_ret2
    rw [VB.out]
    exact ⟨.inr ⟨by decide, rfl⟩, Below.refl _ _⟩
   by_cases g3 : mi < 1
   ·clear hb
    go_wp2_with fail
    go_ret2
    rw [VB.out]
    exact ⟨.inr ⟨by decide, rfl⟩, Below.refl _ _⟩
   have g4 : 100000 < mi := by
    rcases hb with hb | (hb | hb) | (hb | hb)
    ·cases hb
    ·omega
    ·omega
    ·omega
    ·exact hb
   clear hb
   go_wp2_with fail
   go_ret2
   rw [VB.out]
   exact ⟨.inr ⟨by decide, rfl⟩, Below.refl _ _⟩
 ·have VB : Hid (newE ti vo it mi = 0) := Lib.hid (by (show _ = _); rw [V.out, if_neg hb])
  clear V
  have q2 : ordB vo = true := by
   cases h : ordB vo with
   | true => rfl
   | false => exact absurd (.inl h) hb
  rw [q2]
  have g1 : ¬ it < 1 := fun h => hb (.inr (.inl (.inl h)))
  have g2 : ¬ 200 < it := fun h => hb (.inr (.inl (.inr h)))
  have g3 : ¬ mi < 1 := fun h => hb (.inr (.inr (.inl h)))
  have g4 : ¬ 100000 < mi := fun h => hb (.inr (.inr (.inr h)))
  clear hb q2
  have hmm := @run_makeMap Tryz.prog
  go_wp2_with (first | (refine wpList_build_bl rfl _ _ _ _ _ rfl ti vo it mi w.heap.size rfl rfl rfl rfl rfl ?_))
  go_ret2
  have s0 := setI_made w
  refine ⟨.inl ⟨VB.out, w.heap.size + 1, w.heap.size, rfl, ?_⟩, (below_new _ _).tr (below_new _ _)⟩
  have hb := blk_new (w.alloc (.map #[] 0)) (.cells #[enS ti, i64 vo, i64 it, i64 mi, i64 0, .slice none 0 0, i64 0, .map (some w.heap.size)] 109)
  rw [World.size_alloc] at hb
  exact ⟨hb, own2_nil _ _ _ _, s0.below (below_new _ _), by simp, by omega, Nat.le_refl _⟩
section
variable {P : Program} {o : Oper} {a : Act}
/-- m[x] in a quiet walk. -/
theorem quiet_lookup_b {C : World → Prop} {K : Act → Prop} (m x : Operand) (t : TypeId) (ho : o.op = .lookup t m x false)
  (k e : TypeId) (Kd : Keyed P k) (ht : P.underlying t = some (.map k e)) (he : P.underlying e = some .bool) (hz : ∀ w, (zeroValue e).run P w = .ok (.bool false) w) (b : Nat) (ks : List Lit)
  (hm : a.eval m = .map (some b)) (hown : ∀ w, C w → MapB P k e w b ks) (key : Value) (kl : Lit) (hx : a.eval x = key) (hkey : keyOf P k key = some kl)
  (hk : K (a.put o.dst (.bool (onL ks kl)))) : o.quiet P a C K :=
 ⟨_, fun w hw => by
  obtain ⟨v, ps, hrun, hv⟩ := (hown w hw).2.lookup Kd ht (hz w) (plainElem_bool he false) hkey
  obtain ⟨c, rfl, hc⟩ := plainElem_bool_inv he hv
  simp only [Prod.mk.injEq] at hc
  have hc1 := hc.1
  rw [at_setOf _ _ _ _ (hown w hw).1] at hc1
  have e1 : c = onL ks kl := by
   cases hq : onL ks kl <;> rw [hq] at hc1 <;> simp at hc1 <;> rw [hc1]
  subst e1
  unfold Oper.quietAt execOp
  simp only [ho, hm, hx, Sem.run_bind, Sem.run_pure, hrun, Result.andThen_ok]
  exact ⟨rfl, rfl⟩, hk⟩
/-- m[x] = true, an operation by itself. -/
theorem wp_mapUpdate_b {w : World} {K : Act → World → Prop} {Q : Exit → Act → World → Prop} (m x v : Operand) (t : TypeId) (hop : o.op = Op.mapUpdate t m x v)
  (k e : TypeId) (Kd : Keyed P k) (ht : P.underlying t = some (.map k e)) (he : P.underlying e = some .bool) (b : Nat) (ks : List Lit)
  (hm : a.eval m = .map (some b)) (hown : MapB P k e w b ks) (hn : ks.length < maxLen) (key : Value) (kl : Lit) (hx : a.eval x = key) (hv : a.eval v = .bool true) (hkey : keyOf P k key = some kl) (hkl : WideAt.IsKeyLit kl)
  (hK : ∀ w', MapB P k e w' b (ks ++ [kl]) → w.grownBy w' (some b) → K (a.put o.dst undef) w') : o.wp P a w K Q := by
 obtain ⟨w', hrun, r1, r2⟩ := hown.2.update Kd ht hn hkey (val := .bool true) (d := .lit (.bool true)) (ps := []) (plainElem_bool he true)
 have hr := hK w' ⟨fun y hy => by
  rcases List.mem_append.1 hy with hy | hy
  ·exact hown.1 y hy
  ·simp at hy; rw [hy]; exact hkl, by rw [setOf_snoc, List.length_append]; exact r1⟩ r2
 unfold Oper.wp
 simp [execOp, hop, hm, hx, hv, hrun, Result.andThen]
 exact hr
end
theorem keep0_cell {K : List Nat} {u : World} {k o : Nat} {x : Value} (hk : k ∈ K) (h : u.cell? ⟨k, o, none⟩ = some x) (t : Flow.Cls (KeepT 0 K u)) : t.val.cell? ⟨k, o, none⟩ = some x := KeepT.cell hk h t
theorem addB_yes {B : Bs} {x : It} {now : Int} (h : addE B x now = 0) : addB B x now = ⟨B.ti, B.vo, B.cap, B.mins, B.taken, B.wait ++ [x], if B.wait = [] then now else B.first, B.added ++ [x.ky]⟩ := by
 unfold addB
 rw [if_neg (by rw [h]; decide)]
theorem addB_no {B : Bs} {x : It} {now : Int} (h : addE B x now ≠ 0) : addB B x now = B := by
 unfold addB
 rw [if_pos h]
set_option maxRecDepth 100000 in
set_option maxHeartbeats 8000000 in
theorem add_of (base bb mb : Nat) (v : Value) (B : Bs) (x : It) (now : Int) (w : World) (h : BlM w base bb mb v B) (hk : x.ky.length = 32) (hc : ∀ u, Calls Tryz.prog 58 #[itA x] u fun e w' => e = .returned (i64 (chkI x)) ∧ Below u.heap.size u w') (hn : B.added.length ≤ 1000000) :
  Calls Tryz.prog 24 #[.pointer (some ⟨bb, 0, none⟩), itA x, i64 now] w fun e w' => (∃ v', e = .returned (i64 (addE B x now)) ∧ BlM w' base bb mb v' (addB B x now)) ∧ ButL (blR bb mb v) w w' := by
 have H := Lib.hid h
 have HK := Lib.hid hk
 have HC := Lib.hid hc
 have HM := Lib.hid (fun u => isMinute_any now u)
 have HSZ := Lib.hid it_size
 have V := Lib.hid (show addE B x now = if minB now = false then 2 else if chkI x ≠ 0 then chkI x else if x.ky ∈ B.added then 7 else if 200 ≤ B.wait.length then 9 else 0 from rfl)
 have VN := Lib.hid (fun (q : addE B x now ≠ 0) => addB_no q)
 have VY := Lib.hid (fun (q : addE B x now = 0) => addB_yes q)
 obtain ⟨A, c, hv⟩ := own2_slice h.row
 clear h hk hc
 unfold itA
 go_enter Tryz.func24, Tryz.ntmps24
 go_upto_region 1 with fail
 have BI := Lib.hid (blk_new w (.cells (itL x).toArray 59))
 have bi := below_new w (.cells (itL x).toArray 59)
 have BL := Lib.hid bi
 have H1 := Lib.hid (H.out.below bi)
 have RI := Lib.hid (range_blk BI.out)
 clear bi
 have hbi := blk_lt BI.out
 generalize w.alloc (.cells (itL x).toArray 59) = w1 at *
 go_wp2_with fail
 refine (HM.out _).mono ?_; rintro e w2 ⟨rfl, rfl⟩
 cases q1 : minB now with
 | false =>
  have VB : Hid (addE B x now = 2) := Lib.hid (by (show _ = _); rw [V.out, q1]; rfl)
  clear q1 V
  go_wp2_with fail
  go_ret
  rw [VN.out (by rw [VB.out]; decide), VB.out]
  exact ⟨⟨v, rfl, H1.out⟩, ButL.of_below BL.out⟩
 | true =>
 rw [q1, if_neg (show ¬ true = false by decide)] at V
 clear q1
 go_wp2_with (refine wpList_load_mid rfl 59 _ rfl w.heap.size 0 rfl (itL x) _ RI.out Tryz.underlying59 rfl (by rw [itL_length]; exact HSZ.out) ?_)
 refine (HC.out _).mono ?_; rintro e w2 ⟨rfl, b2⟩
 have BI2 := Lib.hid (blk_below b2 BI.out)
 have BL2 := Lib.hid (BL.out.tr b2)
 have H2 := Lib.hid (H1.out.below b2)
 clear b2 H1 BL BI RI hbi
 by_cases he : chkI x = 0
 case neg =>
  have VB : Hid (addE B x now = chkI x) := Lib.hid (by (show _ = _); rw [V.out, if_pos he])
  have hq : (chkI x != 0) = true := by simpa using he
  have hq2 : (chkI x == 0) = false := by simpa using he
  have VN2 : Hid (addB B x now = B) := Lib.hid (VN.out (by rw [VB.out]; exact he))
  clear he V VN VY
  generalize chkI x = ec at *
  go_wp2_with fail
  go_ret
  rw [VN2.out, VB.out]
  exact ⟨⟨v, rfl, H2.out⟩, ButL.of_below BL2.out⟩
 rw [if_neg (by rw [he]; decide)] at V
 rw [he]
 clear he
 obtain ⟨ib, hib⟩ : ∃ q, w.heap.size = q := ⟨_, rfl⟩
 have hlb : bb < w.heap.size ∧ mb < w.heap.size := ⟨H.out.lt, H.out.ltm⟩
 rw [hib] at BI2 hlb ⊢
 have HIB := Lib.hid hib
 clear hib
 go_upto_region 8 with fail
 have bd := (Below.refl w2.heap.size w2).drew
 refine Flow.wp_region_segs Flow.Later Flow.Later.refl Flow.Later.trans [] [0, 1, 2, 3, 4, 5, 6, 7] (by kernel_rfl) (by kernel_rfl) ?_
 have H3 := Lib.hid (H2.out.below bd)
 have BI3 := Lib.hid (blk_below bd BI2.out)
 have BL3 := Lib.hid (BL2.out.tr bd)
 clear bd H2 BI2 BL2
 generalize World.drew _ = w3 at *
 have q7 : ∀ t : Flow.Cls (Flow.Later w3), t.val.cell? ⟨bb, 7, none⟩ = some (.map (some mb)) := fun t => Flow.cls_cell H3.out.cells.2.2.2.2.2.2.2 t
 have qK : ∀ t : Flow.Cls (Flow.Later w3), t.val.rangeAt ib 3 (idL x.ky) := fun t => it_ky (blk_below t.ok BI3.out)
 have qM : ∀ t : Flow.Cls (Flow.Later w3), MapB Tryz.prog 57 4 t.val mb (B.added.map idKey) := fun t => (H3.out.set.below t.ok).2
 haveI nonE := Flow.cls_nonempty w3
 rw [Flow.wpSegs_nil]
 simp only [Flow.pick, List.getElem?_toArray, List.getElem?_cons_succ, List.getElem?_cons_zero]
 iterate 5 go_big_quiet_step (fail)
 refine BigFrame.wpQuiet_want rfl (fun K hK => quiet_load_mid 57 _ rfl ib 3 rfl (idL x.ky) _ (fun _ he => by obtain ⟨t, rfl⟩ := he; exact qK t) Tryz.underlying57 rfl (by rw [idL_length]; exact id_size) (hK _ ?_))
 clear hK K
 simp only [Act.put, List.setIfInBounds_toArray, List.set_cons_succ, List.set_cons_zero]
 refine BigFrame.wpQuiet_want rfl (fun K hK => quiet_lookup_b _ _ 101 rfl 57 4 id_keyed Tryz.underlying101 Tryz.underlying4 zeroBool mb _ rfl (fun _ he => by obtain ⟨t, rfl⟩ := he; exact qM t) _ _ rfl (keyOf_idKey HK.out) (hK _ ?_))
 clear hK K
 simp only [Act.put, List.setIfInBounds_toArray, List.set_cons_succ, List.set_cons_zero]
 rw [H3.out.set.on HK.out]
 go_big_quiet_step (fail)
 refine wpQuiet_nil ?_
 clear nonE q7 qK qM
 by_cases hin : x.ky ∈ B.added
 ·rw [if_pos hin] at V
  have VN2 : Hid (addB B x now = B) := Lib.hid (VN.out (by rw [V.out]; decide))
  rw [decide_eq_true hin]
  clear hin VN VY
  go_wp2_with fail
  go_ret
  rw [VN2.out, V.out]
  exact ⟨⟨v, rfl, H3.out⟩, ButL.of_below BL3.out⟩
 rw [if_neg hin] at V
 rw [decide_eq_false hin]
 have HIN := Lib.hid hin
 clear hin
 obtain ⟨c0, c1, c2, c3, c4, c5, c6, c7⟩ := H3.out.cells
 rw [hv] at c5
 by_cases h200 : 200 ≤ B.wait.length
 ·rw [if_pos h200] at V
  have VN2 : Hid (addB B x now = B) := Lib.hid (VN.out (by rw [V.out]; decide))
  clear VN VY
  go_wp2_with fail
  go_ret
  rw [VN2.out, V.out]
  exact ⟨⟨v, rfl, H3.out⟩, ButL.of_below BL3.out⟩
 rw [if_neg h200] at V
 have VY2 := Lib.hid (VY.out V.out)
 clear VN VY
 have hmn : ∀ u, Sem.run Tryz.prog (binOp .eql 101 (.map (some mb)) (.map none)) u = .ok (.bool false) u := fun u => by kernel_rfl
 go_upto_region 14 with fail
 have bd := (Below.refl w3.heap.size w3).drew
 refine Flow.wp_region_segs (KeepT 0 [bb, ib]) (KeepT.refl _ _) (fun _ _ _ h k => h.trans k) [([0, 1, 2, 3, 4, 5], 6)] [] (by kernel_rfl) (by kernel_rfl) ?_
 have H4 := Lib.hid (H3.out.below bd)
 have BI4 := Lib.hid (blk_below bd BI3.out)
 have R4 : Hid (ButL (blR bb mb v) w w3.drew) := Lib.hid (ButL.of_below (BL3.out.tr bd))
 clear bd H3 BI3 BL3 c0 c1 c2 c3 c4 c5 c6 c7 hmn
 generalize World.drew _ = w4 at *
 have q7 := fun t => keep0_cell (K := [bb, ib]) (by simp) H4.out.cells.2.2.2.2.2.2.2 t
 have qK : ∀ t : Flow.Cls (KeepT 0 [bb, ib] w4), t.val.rangeAt ib 3 (idL x.ky) := fun t => it_ky ((t.ok.2 ib (by simp)).trans BI4.out)
 haveI nonE := cls_keep (B := 0) (K := [bb, ib]) w4
 rw [Flow.wpSegs_cons]
 simp only [Flow.pick, List.getElem?_toArray, List.getElem?_cons_succ, List.getElem?_cons_zero]
 iterate 5 go_big_quiet_step (fail)
 refine BigFrame.wpQuiet_want rfl (fun K hK => quiet_load_mid 57 _ rfl ib 3 rfl (idL x.ky) _ (fun _ he => by obtain ⟨t, rfl⟩ := he; exact qK t) Tryz.underlying57 rfl (by rw [idL_length]; exact id_size) (hK _ ?_))
 clear hK K
 simp only [Act.put, List.setIfInBounds_toArray, List.set_cons_succ, List.set_cons_zero]
 refine wpQuiet_nil ?_
 clear nonE q7 qK
 rw [Flow.callAt_eq]
 simp only [List.getElem?_toArray, List.getElem?_cons_succ, List.getElem?_cons_zero]
 rw [if_pos (by rfl)]
 refine Flow.wp_behind (fun K hK => ?_)
 refine wp_mapUpdate_b _ _ _ 101 rfl 57 4 id_keyed Tryz.underlying101 Tryz.underlying4 mb _ rfl H4.out.set.2 (by rw [List.length_map]; unfold maxLen; omega) _ _ rfl rfl (keyOf_idKey HK.out) (idKey_lit HK.out) ?_
 intro w5 m5 g5
 refine hK.out _ _ ⟨KeepT.grown g5 (Nat.zero_le _) (fun _ _ => Nat.zero_le _) (by
  simp only [List.mem_cons, List.not_mem_nil, or_false]
  rintro k (rfl | rfl)
  ·exact ⟨H4.out.lt, fun e => H4.out.ne_bm (by injection e)⟩
  ·exact ⟨blk_lt BI4.out, fun e => by injection e with e; omega⟩), ?_⟩
 clear hK K
 have H5 : Hid (BlM w5 base bb mb v ⟨B.ti, B.vo, B.cap, B.mins, B.taken, B.wait, B.first, B.added ++ [x.ky]⟩) := Lib.hid ⟨(g5.block bb H4.out.lt (fun e => H4.out.ne_bm (by injection e))).trans H4.out.blk,
  row_keep H4.out.row (fun g hg => g5.block g (H4.out.lts g (by simp [blR, hg])) (fun e => (H4.out.ne_bg hg).2 (by injection e with e; exact e.symm))),
  ⟨fun k hk => by
   rcases List.mem_append.1 hk with hk | hk
   ·exact H4.out.set.1 k hk
   ·rw [List.mem_singleton.1 hk]; exact HK.out, by rw [List.map_append]; exact m5⟩, H4.out.ky, H4.out.lb, H4.out.lm⟩
 have BI5 := Lib.hid ((g5.block ib (blk_lt BI4.out) (fun e => by injection e with e; omega)).trans BI4.out)
 have R5 := Lib.hid (R4.out.trans (ButL.grown g5 (fun k e => by injection e with e; subst e; simp [blR])))
 clear g5 m5 H4 BI4 R4
 rw [Flow.wpSegs_nil]
 simp only [Flow.pick, Act.put]
 refine wpQuiet_nil ?_
 obtain ⟨i0, hi, hz0, hz1, hz2⟩ := info_parts it_info
 have HI := Lib.hid (And.intro hi (And.intro hz0 (And.intro hz1 hz2)))
 clear hi hz0 hz1 hz2
 obtain ⟨c0, c1, c2, c3, c4, c5, c6, c7⟩ := H5.out.cells
 simp only [hv] at c5
 by_cases h0 : B.wait = []
 ·have HF : Hid (addB B x now = ⟨B.ti, B.vo, B.cap, B.mins, B.taken, B.wait ++ [x], now, B.added ++ [x.ky]⟩) := Lib.hid (by (show _ = _); rw [VY2.out, if_pos h0])
  have hl0 : B.wait.length = 0 := by rw [h0]; rfl
  have f6 := blk_free H5.out.blk 6
  clear h0 VY2
  go_upto_region 17 with fail
  have H6 : Hid (BlM (w5.setCell ⟨bb, 6, none⟩ (i64 now)) base bb mb v ⟨B.ti, B.vo, B.cap, B.mins, B.taken, B.wait, now, B.added ++ [x.ky]⟩) := Lib.hid (by
   have hb6 := blk_set H5.out.blk 6 (i64 now)
   refine ⟨hb6, row_keep H5.out.row fun g hg => Below.heap_setCell _ _ _ _ (fun e => (H5.out.ne_bg hg).1 e.symm), H5.out.set.keep (Below.heap_setCell _ _ _ _ H.out.ne_bm.symm), H5.out.ky, H5.out.lb, H5.out.lm⟩)
  have BI6 : Hid ((w5.setCell ⟨bb, 6, none⟩ (i64 now)).heap[ib]? = some (.cells (itL x).toArray 59 (0, 0))) := Lib.hid ((Below.heap_setCell _ _ _ _ (fun (e : ib = bb) => by have := hlb.1; omega)).trans BI5.out)
  have R6 : Hid (ButL (blR bb mb v) w (w5.setCell ⟨bb, 6, none⟩ (i64 now))) := Lib.hid (R5.out.trans (ButL.setCell _ _ _ (by simp [blR])))
  generalize w5.setCell ⟨bb, 6, none⟩ (i64 now) = w6 at *
  obtain ⟨F, hF⟩ : ∃ F, F = now := ⟨_, rfl⟩
  have HF : Hid (addB B x now = ⟨B.ti, B.vo, B.cap, B.mins, B.taken, B.wait ++ [x], F, B.added ++ [x.ky]⟩) := Lib.hid (by (show _ = _); rw [hF]; exact HF.out)
  rw [← hF] at H6
  clear hF
  clear H5 BI5 R5 f6 c0 c1 c2 c3 c4 c5 c6 c7 hl0
  have b' := (Below.refl w6.heap.size w6).drew
  refine Flow.wp_region_pre (KeepT 0 [bb, ib]) (KeepT.refl _ _) (fun _ _ _ h k => h.trans k) [10] (.held [0, 1, 2, 3, 4, 5] (.call 6 (.call 7 (.call 8 (.held [9] (.tail (.step [] 10 (.done []))))))) ) (by kernel_rfl) (by kernel_rfl) ?_
  have H7 := Lib.hid (H6.out.below b')
  have BI7 := Lib.hid (blk_below b' BI6.out)
  have R7 := Lib.hid (R6.out.trans (ButL.of_below b'))
  clear b' H6 BI6 R6
  generalize World.drew _ = w7 at *
  have q5 := fun t => keep0_cell (K := [bb, ib]) (by simp) (hv ▸ H7.out.cells.2.2.2.2.2.1 : w7.cell? ⟨bb, 5, none⟩ = some (.slice A B.wait.length c)) t
  have qR : ∀ t : Flow.Cls (KeepT 0 [bb, ib] w7), t.val.rangeAt ib 0 (itL x) := fun t => range_blk ((t.ok.2 ib (by simp)).trans BI7.out)
  haveI nonE := cls_keep (B := 0) (K := [bb, ib]) w7
  rw [Flow.wpPre_held]
  simp only [Flow.pick, List.getElem?_toArray, List.getElem?_cons_succ, List.getElem?_cons_zero]
  iterate 5 go_big_quiet_step (fail)
  refine BigFrame.wpQuiet_want rfl (fun K hK => quiet_load_mid 59 _ rfl ib 0 rfl (itL x) _ (fun _ he => by obtain ⟨t, rfl⟩ := he; exact qR t) Tryz.underlying59 rfl (by rw [itL_length]; exact HSZ.out) (hK _ ?_))
  clear hK K
  simp only [Act.put, List.setIfInBounds_toArray, List.set_cons_succ, List.set_cons_zero]
  refine wpQuiet_nil ?_
  clear nonE q5 qR
  have hbl := H7.out.lts
  have hil := blk_lt BI7.out
  rw [Flow.wpPre_call, Flow.callAt_eq]
  simp only [List.getElem?_toArray, List.getElem?_cons_succ, List.getElem?_cons_zero]
  rw [if_pos (by rfl)]
  refine Flow.wp_behind (fun K hK => ?_)
  refine wp_one_it _ rfl x rfl ?_
  refine hK.out _ _ ⟨KeepT.of_below (below_new _ _) (Nat.zero_le _) (by simp only [List.mem_cons, List.not_mem_nil, or_false]; rintro k (rfl | rfl); exact H7.out.lt; exact hil), ?_⟩
  clear hK K
  have bn := below_new w7 (.cells (itL x).toArray 59)
  have H8 := Lib.hid (H7.out.below bn)
  have BI8 := Lib.hid (blk_below bn BI7.out)
  have R8 := Lib.hid (R7.out.trans (ButL.of_below bn))
  have RC := Lib.hid (RdC.new w7 (itL x) 59)
  clear bn H7 BI7 R7 hbl hil
  obtain ⟨nb, hnb⟩ : ∃ q, w7.heap.size = q := ⟨_, rfl⟩
  rw [hnb] at RC ⊢
  clear hnb
  generalize w7.alloc (.cells (itL x).toArray 59) = w8 at *
  rw [Flow.wpPre_call, Flow.callAt_eq]
  simp only [List.getElem?_toArray, List.getElem?_cons_succ, List.getElem?_cons_zero]
  rw [if_pos (by rfl)]
  refine Flow.wp_behind (fun K hK => ?_)
  have hxl : B.wait.length + 1 ≤ 1000000000 := by omega
  have hrow : w8.ownsRow base 59 36 (.slice A B.wait.length c) B.wait.length (B.wait.flatMap itL) := hv ▸ H8.out.row
  have hbs : base ≤ w8.heap.size := Nat.le_trans H8.out.lb (Nat.le_of_lt H8.out.lt)
  refine wp_appC Tryz.underlying30 HI.out.1 HI.out.2.1 HI.out.2.2.1 HI.out.2.2.2 rfl (by decide) _ _ rfl base _ B.wait.length _ hrow rfl (some ⟨nb, 0, none⟩) 1 1 (itL x) (by rw [itL_length]) RC.out rfl (one_itL x) hxl (by decide) hbs ?_
  intro v9 w9 o9 g9 b9
  have g9' : w8.grownBy w9 v.ownBlock := hv ▸ g9
  clear g9
  refine hK.out _ _ ⟨KeepT.grown g9' (Nat.zero_le _) (fun _ _ => Nat.zero_le _) (by
   simp only [List.mem_cons, List.not_mem_nil, or_false]
   rintro k (rfl | rfl)
   ·exact ⟨H8.out.lt, fun e => (H8.out.ne_bg e.symm).1 rfl⟩
   ·exact ⟨blk_lt BI8.out, fun e => by
     obtain ⟨_, cur, e2⟩ := row_blk H.out.row e.symm
     have := blk_lt e2
     have := HIB.out
     omega⟩), ?_⟩
  clear hK K
  obtain ⟨A9, c9, rfl⟩ := own2_slice o9
  have s9 : w9.heap[bb]? = some (.cells (blL ⟨B.ti, B.vo, B.cap, B.mins, B.taken, B.wait, F, B.added ++ [x.ky]⟩ v mb).toArray 109 (0, 0)) := (g9'.block bb H8.out.lt (fun e => (H8.out.ne_bg e.symm).1 rfl)).trans H8.out.blk
  have S9 := Lib.hid s9
  have c9c : w9.cell? ⟨bb, 5, none⟩ = some v := blk_cell s9 5
  have f9c := blk_free s9 5
  have M9 := Lib.hid (H8.out.set.keep (g9'.block mb H8.out.ltm (fun e => (H8.out.ne_bg e.symm).2 rfl)))
  have R9 := Lib.hid (R8.out.trans (ButL.grown g9' (fun k e => by simp [blR, e])))
  have O9 := Lib.hid o9
  clear g9' b9 o9 s9 BI8 R8 RC
  rw [Flow.wpPre_call, Flow.callAt_eq]
  simp only [List.getElem?_toArray, List.getElem?_cons_succ, List.getElem?_cons_zero, Act.put, List.setIfInBounds_toArray, List.set_cons_succ, List.set_cons_zero]
  rw [if_pos (by rfl)]
  refine Flow.wp_behind (fun K hK => ?_)
  go_wp2_with fail
  refine hK.out _ _ ⟨KeepT.refl _ _ _, ?_⟩
  clear hK K
  haveI nonE := cls_keep (B := 0) (K := [bb, ib]) w9
  rw [Flow.wpPre_held]
  simp only [Flow.pick, List.getElem?_toArray, List.getElem?_cons_succ, List.getElem?_cons_zero]
  go_big_quiet_step (fail)
  refine wpQuiet_nil ?_
  clear nonE
  rw [Flow.wpPre_tail, Flow.wpSched_step]
  simp only [Flow.pick]
  refine wpQuiet_nil ?_
  rw [Flow.callAt_eq]
  simp only [List.getElem?_toArray, List.getElem?_cons_succ, List.getElem?_cons_zero]
  rw [if_pos (by rfl)]
  refine Flow.wp_behind (fun K hK => ?_)
  refine wp_store1 _ _ rfl rfl bb 5 A9 (B.wait.length + 1) c9 rfl rfl _ c9c f9c ?_
  refine hK.out _ _ ⟨trivial, ?_⟩
  clear hK K c9c f9c
  rw [Flow.wpSched_done]
  simp only [Flow.pick]
  refine wpQuiet_nil ?_
  have H10 : Hid (BlM (w9.setCell ⟨bb, 5, none⟩ (.slice A9 (B.wait.length + 1) c9)) base bb mb (.slice A9 (B.wait.length + 1) c9) ⟨B.ti, B.vo, B.cap, B.mins, B.taken, B.wait ++ [x], F, B.added ++ [x.ky]⟩) := Lib.hid (by
   have hb5 := blk_set S9.out 5 (.slice A9 (B.wait.length + 1) c9)
   have e1 : (B.wait ++ [x]).length = B.wait.length + 1 := by simp
   have e2 : (B.wait ++ [x]).flatMap itL = B.wait.flatMap itL ++ itL x := by rw [List.flatMap_append, List.flatMap_cons, List.flatMap_nil, List.append_nil]
   refine ⟨hb5, ?_, M9.out.keep (Below.heap_setCell _ _ _ _ (H.out.ne_bm.symm)), ?_, H.out.lb, H.out.lm⟩
   ·show World.ownsRow _ _ _ _ _ (B.wait ++ [x]).length ((B.wait ++ [x]).flatMap itL)
    rw [e1, e2]
    refine row_keep O9.out fun g hg => Below.heap_setCell _ _ _ _ ?_
    rintro rfl
    obtain ⟨_, cur, e3⟩ := row_blk O9.out hg
    rw [S9.out] at e3; cases e3
   ·show ∀ y ∈ B.wait ++ [x], y.ky.length = 32
    intro y hy
    rcases List.mem_append.1 hy with hy | hy
    ·exact H.out.ky y hy
    ·rw [List.mem_singleton.1 hy]; exact HK.out)
  have R10 : Hid (ButL (blR bb mb v) w (w9.setCell ⟨bb, 5, none⟩ (.slice A9 (B.wait.length + 1) c9))) := Lib.hid (R9.out.trans (ButL.setCell _ _ _ (by simp [blR])))
  generalize w9.setCell ⟨bb, 5, none⟩ (.slice A9 (B.wait.length + 1) c9) = w10 at *
  go_wp2_with fail
  go_ret
  rw [HF.out, V.out]
  exact ⟨⟨_, rfl, H10.out⟩, R10.out⟩
 ·have hl0 : ((B.wait.length : Int) == 0) = false := by simp; exact h0
  obtain ⟨F, hF⟩ : ∃ F, B.first = F := ⟨_, rfl⟩
  have HF : Hid (addB B x now = ⟨B.ti, B.vo, B.cap, B.mins, B.taken, B.wait ++ [x], F, B.added ++ [x.ky]⟩) := Lib.hid (by (show _ = _); rw [VY2.out, if_neg h0, hF])
  rw [hF] at H5
  have H6 := H5
  have BI6 := BI5
  have R6 := R5
  clear h0 VY2 H5 BI5 R5 c6
  go_upto_region 17 with fail
  have b' := (Below.refl w5.heap.size w5).drew
  refine Flow.wp_region_pre (KeepT 0 [bb, ib]) (KeepT.refl _ _) (fun _ _ _ h k => h.trans k) [10] (.held [0, 1, 2, 3, 4, 5] (.call 6 (.call 7 (.call 8 (.held [9] (.tail (.step [] 10 (.done []))))))) ) (by kernel_rfl) (by kernel_rfl) ?_
  have H7 := Lib.hid (H6.out.below b')
  have BI7 := Lib.hid (blk_below b' BI6.out)
  have R7 := Lib.hid (R6.out.trans (ButL.of_below b'))
  clear b' H6 BI6 R6
  generalize World.drew _ = w7 at *
  have q5 := fun t => keep0_cell (K := [bb, ib]) (by simp) (hv ▸ H7.out.cells.2.2.2.2.2.1 : w7.cell? ⟨bb, 5, none⟩ = some (.slice A B.wait.length c)) t
  have qR : ∀ t : Flow.Cls (KeepT 0 [bb, ib] w7), t.val.rangeAt ib 0 (itL x) := fun t => range_blk ((t.ok.2 ib (by simp)).trans BI7.out)
  haveI nonE := cls_keep (B := 0) (K := [bb, ib]) w7
  rw [Flow.wpPre_held]
  simp only [Flow.pick, List.getElem?_toArray, List.getElem?_cons_succ, List.getElem?_cons_zero]
  iterate 5 go_big_quiet_step (fail)
  refine BigFrame.wpQuiet_want rfl (fun K hK => quiet_load_mid 59 _ rfl ib 0 rfl (itL x) _ (fun _ he => by obtain ⟨t, rfl⟩ := he; exact qR t) Tryz.underlying59 rfl (by rw [itL_length]; exact HSZ.out) (hK _ ?_))
  clear hK K
  simp only [Act.put, List.setIfInBounds_toArray, List.set_cons_succ, List.set_cons_zero]
  refine wpQuiet_nil ?_
  clear nonE q5 qR
  have hbl := H7.out.lts
  have hil := blk_lt BI7.out
  rw [Flow.wpPre_call, Flow.callAt_eq]
  simp only [List.getElem?_toArray, List.getElem?_cons_succ, List.getElem?_cons_zero]
  rw [if_pos (by rfl)]
  refine Flow.wp_behind (fun K hK => ?_)
  refine wp_one_it _ rfl x rfl ?_
  refine hK.out _ _ ⟨KeepT.of_below (below_new _ _) (Nat.zero_le _) (by simp only [List.mem_cons, List.not_mem_nil, or_false]; rintro k (rfl | rfl); exact H7.out.lt; exact hil), ?_⟩
  clear hK K
  have bn := below_new w7 (.cells (itL x).toArray 59)
  have H8 := Lib.hid (H7.out.below bn)
  have BI8 := Lib.hid (blk_below bn BI7.out)
  have R8 := Lib.hid (R7.out.trans (ButL.of_below bn))
  have RC := Lib.hid (RdC.new w7 (itL x) 59)
  clear bn H7 BI7 R7 hbl hil
  obtain ⟨nb, hnb⟩ : ∃ q, w7.heap.size = q := ⟨_, rfl⟩
  rw [hnb] at RC ⊢
  clear hnb
  generalize w7.alloc (.cells (itL x).toArray 59) = w8 at *
  rw [Flow.wpPre_call, Flow.callAt_eq]
  simp only [List.getElem?_toArray, List.getElem?_cons_succ, List.getElem?_cons_zero]
  rw [if_pos (by rfl)]
  refine Flow.wp_behind (fun K hK => ?_)
  have hxl : B.wait.length + 1 ≤ 1000000000 := by omega
  have hrow : w8.ownsRow base 59 36 (.slice A B.wait.length c) B.wait.length (B.wait.flatMap itL) := hv ▸ H8.out.row
  have hbs : base ≤ w8.heap.size := Nat.le_trans H8.out.lb (Nat.le_of_lt H8.out.lt)
  refine wp_appC Tryz.underlying30 HI.out.1 HI.out.2.1 HI.out.2.2.1 HI.out.2.2.2 rfl (by decide) _ _ rfl base _ B.wait.length _ hrow rfl (some ⟨nb, 0, none⟩) 1 1 (itL x) (by rw [itL_length]) RC.out rfl (one_itL x) hxl (by decide) hbs ?_
  intro v9 w9 o9 g9 b9
  have g9' : w8.grownBy w9 v.ownBlock := hv ▸ g9
  clear g9
  refine hK.out _ _ ⟨KeepT.grown g9' (Nat.zero_le _) (fun _ _ => Nat.zero_le _) (by
   simp only [List.mem_cons, List.not_mem_nil, or_false]
   rintro k (rfl | rfl)
   ·exact ⟨H8.out.lt, fun e => (H8.out.ne_bg e.symm).1 rfl⟩
   ·exact ⟨blk_lt BI8.out, fun e => by
     obtain ⟨_, cur, e2⟩ := row_blk H.out.row e.symm
     have := blk_lt e2
     have := HIB.out
     omega⟩), ?_⟩
  clear hK K
  obtain ⟨A9, c9, rfl⟩ := own2_slice o9
  have s9 : w9.heap[bb]? = some (.cells (blL ⟨B.ti, B.vo, B.cap, B.mins, B.taken, B.wait, F, B.added ++ [x.ky]⟩ v mb).toArray 109 (0, 0)) := (g9'.block bb H8.out.lt (fun e => (H8.out.ne_bg e.symm).1 rfl)).trans H8.out.blk
  have S9 := Lib.hid s9
  have c9c : w9.cell? ⟨bb, 5, none⟩ = some v := blk_cell s9 5
  have f9c := blk_free s9 5
  have M9 := Lib.hid (H8.out.set.keep (g9'.block mb H8.out.ltm (fun e => (H8.out.ne_bg e.symm).2 rfl)))
  have R9 := Lib.hid (R8.out.trans (ButL.grown g9' (fun k e => by simp [blR, e])))
  have O9 := Lib.hid o9
  clear g9' b9 o9 s9 BI8 R8 RC
  rw [Flow.wpPre_call, Flow.callAt_eq]
  simp only [List.getElem?_toArray, List.getElem?_cons_succ, List.getElem?_cons_zero, Act.put, List.setIfInBounds_toArray, List.set_cons_succ, List.set_cons_zero]
  rw [if_pos (by rfl)]
  refine Flow.wp_behind (fun K hK => ?_)
  go_wp2_with fail
  refine hK.out _ _ ⟨KeepT.refl _ _ _, ?_⟩
  clear hK K
  haveI nonE := cls_keep (B := 0) (K := [bb, ib]) w9
  rw [Flow.wpPre_held]
  simp only [Flow.pick, List.getElem?_toArray, List.getElem?_cons_succ, List.getElem?_cons_zero]
  go_big_quiet_step (fail)
  refine wpQuiet_nil ?_
  clear nonE
  rw [Flow.wpPre_tail, Flow.wpSched_step]
  simp only [Flow.pick]
  refine wpQuiet_nil ?_
  rw [Flow.callAt_eq]
  simp only [List.getElem?_toArray, List.getElem?_cons_succ, List.getElem?_cons_zero]
  rw [if_pos (by rfl)]
  refine Flow.wp_behind (fun K hK => ?_)
  refine wp_store1 _ _ rfl rfl bb 5 A9 (B.wait.length + 1) c9 rfl rfl _ c9c f9c ?_
  refine hK.out _ _ ⟨trivial, ?_⟩
  clear hK K c9c f9c
  rw [Flow.wpSched_done]
  simp only [Flow.pick]
  refine wpQuiet_nil ?_
  have H10 : Hid (BlM (w9.setCell ⟨bb, 5, none⟩ (.slice A9 (B.wait.length + 1) c9)) base bb mb (.slice A9 (B.wait.length + 1) c9) ⟨B.ti, B.vo, B.cap, B.mins, B.taken, B.wait ++ [x], F, B.added ++ [x.ky]⟩) := Lib.hid (by
   have hb5 := blk_set S9.out 5 (.slice A9 (B.wait.length + 1) c9)
   have e1 : (B.wait ++ [x]).length = B.wait.length + 1 := by simp
   have e2 : (B.wait ++ [x]).flatMap itL = B.wait.flatMap itL ++ itL x := by rw [List.flatMap_append, List.flatMap_cons, List.flatMap_nil, List.append_nil]
   refine ⟨hb5, ?_, M9.out.keep (Below.heap_setCell _ _ _ _ (H.out.ne_bm.symm)), ?_, H.out.lb, H.out.lm⟩
   ·show World.ownsRow _ _ _ _ _ (B.wait ++ [x]).length ((B.wait ++ [x]).flatMap itL)
    rw [e1, e2]
    refine row_keep O9.out fun g hg => Below.heap_setCell _ _ _ _ ?_
    rintro rfl
    obtain ⟨_, cur, e3⟩ := row_blk O9.out hg
    rw [S9.out] at e3; cases e3
   ·show ∀ y ∈ B.wait ++ [x], y.ky.length = 32
    intro y hy
    rcases List.mem_append.1 hy with hy | hy
    ·exact H.out.ky y hy
    ·rw [List.mem_singleton.1 hy]; exact HK.out)
  have R10 : Hid (ButL (blR bb mb v) w (w9.setCell ⟨bb, 5, none⟩ (.slice A9 (B.wait.length + 1) c9))) := Lib.hid (R9.out.trans (ButL.setCell _ _ _ (by simp [blR])))
  generalize w9.setCell ⟨bb, 5, none⟩ (.slice A9 (B.wait.length + 1) c9) = w10 at *
  go_wp2_with fail
  go_ret
  rw [HF.out, V.out]
  exact ⟨⟨_, rfl, H10.out⟩, R10.out⟩
end Go.Proofs.YtlchcjnbbhpiaaaGreatDoor
