/- Events and statistics in memory: their cells, their maps, what stays while one is written.
   Contracts: the sum of two counts, the day of an event, new statistics.
   Contracts: a count added to that of a day, of a name.
   Contracts: the total, the count of a name from a day to a day.
   Contract: the count of a name from a day to a day.
   Contracts: the name of a site, of the code and of the reference.
   Contracts: the day of a minute; the text of an author's identity, of the code and of the reference.
   Contracts: a strings.Builder in texts, digits, the words of a text, a line written. -/
import Derived.Test.YthgefcoaaommkaaGreatDoorZb
import Derived.Test.YthgefcoaaommkaaGreatDoorZa
import Derived.Deep.MidRow
import Derived.Outline
import Derived.Lib.BitFns
import Derived.Great.BuildSlice
import Derived.Laws.IdiomStrings
namespace Go.Proofs.YthgefcoaaommkaaGreatDoor
open Go.RowKit Go.Gn Go.Sr Go.Maps

abbrev i64 (n : Int) : Value := .int .i64 n
def enB (x : UInt8) : Value := .int .u8 x.toNat
def cV (c : C) : Value := .agg #[i64 c.1, i64 c.2]
def kV (k : Ky) : Value := .agg #[i64 k.1, i64 k.2.1, enS k.2.2]

/-! ### the maps' keys -/
set_option maxRecDepth 100000 in
theorem key_laidOut : laidOutB Tryz.prog = true := by kernel_rfl
theorem key_row : (74 : TypeId) < Tryz.prog.types.size := of_decide_eq_true (by kernel_rfl)
theorem key_wide : (match Tryz.prog.underlying 74 with | some (.array _ _) | some (.struct _) => true | _ => false) = true := by rw [Tryz.underlying74]
set_option maxRecDepth 100000 in
theorem key_law : WideMaps.KeyLaw Tryz.prog 74 := deep_law_laid key_laidOut (m := 2) (by omega) key_row (by kernel_rfl) key_wide
theorem key_keyed : Keyed Tryz.prog 74 := Keyed.of_law key_law
theorem key_cells : Tryz.prog.cellsOf 74 = 3 := by kernel_rfl
theorem int_cells : Tryz.prog.cellsOf 3 = 1 := by kernel_rfl
theorem str_cells : Tryz.prog.cellsOf 9 = 1 := by kernel_rfl
theorem key_keyType : Tryz.prog.keyType 74 = true := by kernel_rfl
/-- A key that a map takes. -/
def okKy (k : Ky) : Prop := (Lit.int .i64 k.1).wf = true ∧ (Lit.int .i64 k.2.1).wf = true ∧ k.2.2.length ≤ maxLen
theorem keyOf_kV (k : Ky) (h : okKy k) : (keyOf Tryz.prog 74 (kV k)).isSome = true := by
  obtain ⟨m, hm⟩ : ∃ m, Tryz.prog.types.size = m + 1 := Nat.exists_eq_succ_of_ne_zero (Nat.ne_of_gt (Nat.lt_of_le_of_lt (Nat.zero_le _) key_row))
  unfold keyOf
  simp only [Tryz.underlying74]
  rw [if_pos (by simp [key_keyType, Value.formed, Tryz.underlying74, key_cells, kV]), hm]
  unfold Program.keyLits
  simp only [Tryz.underlying74, kV, Value.cells]
  rw [if_pos (by rw [key_cells]; exact ⟨rfl, by kernel_rfl⟩)]
  have e0 : (⟨k.2.2.toArray⟩ : ByteArray).size ≤ maxLen := by simpa [ByteArray.size] using h.2.2
  simp [Program.keyLits, int_cells, str_cells, Tryz.underlying3, Tryz.underlying9, h.1, h.2.1, e0]
theorem kV_inj (a b : Ky) (h : kV a = kV b) : a = b := by
  obtain ⟨a1, a2, a3⟩ := a; obtain ⟨b1, b2, b3⟩ := b
  simp [kV] at h
  simp [h]
theorem cV_inj (a b : C) (h : cV a = cV b) : a = b := by
  obtain ⟨a1, a2⟩ := a; obtain ⟨b1, b2⟩ := b
  simp [cV] at h
  simp [h]
noncomputable def dayK : KV Tryz.prog 3 Int C := KV.of (int_keyed Tryz.underlying3) i64 (fun d => (Lit.int .i64 d).wf = true) (fun d h => by rw [keyOf_int_mk Tryz.underlying3 h]; rfl) (fun a b h => by injection h) cV cV_inj
noncomputable def nameK : KV Tryz.prog 74 Ky C := KV.of key_keyed kV okKy keyOf_kV kV_inj cV cV_inj

/-! ### what stays -/
/-- Nothing that was there has turned, but the blocks of R. -/
structure ButL (R : List Nat) (w w' : World) : Prop where
  os : w'.os = w.os
  tape : w'.tape = w.tape
  output : w'.output = w.output
  size : w.heap.size ≤ w'.heap.size
  block : ∀ k, k < w.heap.size → k ∉ R → w'.heap[k]? = w.heap[k]?
theorem ButL.of_below {R : List Nat} {w w' : World} (h : Below w.heap.size w w') : ButL R w w' := ⟨h.os, h.tape, h.output, h.size, fun k hk _ => h.block k hk⟩
theorem ButL.refl (R : List Nat) (w : World) : ButL R w w := .of_below (Below.refl _ _)
theorem ButL.trans {R : List Nat} {u v w : World} (h : ButL R u v) (k : ButL R v w) : ButL R u w :=
  ⟨k.os.trans h.os, k.tape.trans h.tape, k.output.trans h.output, Nat.le_trans h.size k.size, fun i hi hn => (k.block i (Nat.lt_of_lt_of_le hi h.size) hn).trans (h.block i hi hn)⟩
theorem ButL.sub {R S : List Nat} {w w' : World} (h : ButL R w w') (hs : ∀ k ∈ R, k ∈ S) : ButL S w w' := ⟨h.os, h.tape, h.output, h.size, fun k hk hn => h.block k hk fun e => hn (hs k e)⟩
theorem ButL.grown {R : List Nat} {w w' : World} {row : Option Nat} (hg : w.grownBy w' row) (hr : ∀ k, row = some k → k ∈ R) : ButL R w w' := ⟨hg.os, hg.tape, hg.output, hg.size, fun k hk hn => hg.block k hk fun e => hn (hr k e.symm)⟩
theorem ButL.setCell {R : List Nat} (w : World) (a : Addr) (v : Value) (h : a.block ∈ R) : ButL R w (w.setCell a v) := by
  have hb := (Below.refl a.block w).setCell (p := a) (Nat.le_refl _) v
  exact ⟨hb.os, hb.tape, hb.output, hb.size, fun k hk hn => Below.heap_setCell w a v k fun e => hn (e ▸ h)⟩
theorem ButL.toBelow {R : List Nat} {w w' : World} {B : Nat} (h : ButL R w w') (hB : B ≤ w.heap.size) (hR : ∀ k ∈ R, B ≤ k) : Below B w w' :=
  ⟨h.os, h.tape, h.output, h.size, fun k hk => h.block k (Nat.lt_of_lt_of_le hk hB) fun e => by have := hR k e; omega⟩
/-- Blocks that were not there at the first world do not count. -/
theorem ButL.late {R S : List Nat} {u w w' : World} (h : ButL S u w) (k : ButL R w w') (hR : ∀ b ∈ R, u.heap.size ≤ b ∨ b ∈ S) : ButL S u w' :=
  ⟨k.os.trans h.os, k.tape.trans h.tape, k.output.trans h.output, Nat.le_trans h.size k.size, fun i hi hn => (k.block i (Nat.lt_of_lt_of_le hi h.size) fun e => by
    rcases hR i e with h1 | h1
    · omega
    · exact hn h1).trans (h.block i hi hn)⟩

/-! ### statistics -/
/-- The statistics at p: their maps bd, bn. -/
structure StM (w : World) (p bd bn : Nat) (ds : List (Int × C)) (ns : List (Ky × C)) (zs : List Int) : Prop where
  blk : w.heap[p]? = some (.cells (Value.map (some bd) :: Value.map (some bn) :: zs.map i64).toArray 72 (0, 0))
  md : MapA dayK w bd ds
  mn : MapA nameK w bn ns
  ne : bd ≠ bn
  zl : zs.length = 18
section
variable {w w' : World} {p bd bn : Nat} {ds : List (Int × C)} {ns : List (Ky × C)} {zs : List Int}
theorem StM.keep (h : StM w p bd bn ds ns zs) (e0 : w'.heap[p]? = w.heap[p]?) (e1 : w'.heap[bd]? = w.heap[bd]?) (e2 : w'.heap[bn]? = w.heap[bn]?) : StM w' p bd bn ds ns zs := ⟨e0.trans h.blk, h.md.keep e1, h.mn.keep e2, h.ne, h.zl⟩
theorem StM.lp (h : StM w p bd bn ds ns zs) : p < w.heap.size := blk_lt h.blk
theorem StM.ld (h : StM w p bd bn ds ns zs) : bd < w.heap.size := h.md.lt
theorem StM.ln (h : StM w p bd bn ds ns zs) : bn < w.heap.size := h.mn.lt
theorem StM.below (h : StM w p bd bn ds ns zs) (hb : Below w.heap.size w w') : StM w' p bd bn ds ns zs := h.keep (hb.block p h.lp) (hb.block bd h.ld) (hb.block bn h.ln)
theorem StM.but (h : StM w p bd bn ds ns zs) {R : List Nat} (hb : ButL R w w') (h0 : p ∉ R) (h1 : bd ∉ R) (h2 : bn ∉ R) : StM w' p bd bn ds ns zs := h.keep (hb.block p h.lp h0) (hb.block bd h.ld h1) (hb.block bn h.ln h2)
theorem MapA.isMap {κ β : Type} {P : Program} {k : TypeId} {S : KV P k κ β} {b : Nat} {L : List (κ × β)} (h : MapA S w b L) : ∃ es c, w.heap[b]? = some (.map es c) := by
  obtain ⟨D, ⟨es, c, hb, _⟩, _⟩ := h
  exact ⟨es, c, hb⟩
theorem StM.pd (h : StM w p bd bn ds ns zs) : p ≠ bd := fun e => by
  obtain ⟨es, c, hm⟩ := h.md.isMap
  have := h.blk
  rw [e, hm] at this
  cases this
theorem StM.pn (h : StM w p bd bn ds ns zs) : p ≠ bn := fun e => by
  obtain ⟨es, c, hm⟩ := h.mn.isMap
  have := h.blk
  rw [e, hm] at this
  cases this
theorem StM.c0 (h : StM w p bd bn ds ns zs) : w.cell? ⟨p, 0, none⟩ = some (.map (some bd)) := blk_cell h.blk 0
theorem StM.c1 (h : StM w p bd bn ds ns zs) : w.cell? ⟨p, 1, none⟩ = some (.map (some bn)) := blk_cell h.blk 1
theorem StM.cz (h : StM w p bd bn ds ns zs) {k : Nat} (hk : k < 18) : w.cell? ⟨p, 2 + k, none⟩ = some (i64 (zs.getD k 0)) := by
  rw [blk_cell h.blk (2 + k)]
  have hz := h.zl
  have e : (Value.map (some bd) :: Value.map (some bn) :: zs.map i64)[2 + k]? = some (i64 (zs.getD k 0)) := by
    rw [Nat.add_comm 2 k]
    simp only [List.getElem?_cons_succ, List.getElem?_map]
    rw [List.getD_eq_getElem?_getD, List.getElem?_eq_getElem (by omega : k < zs.length)]
    rfl
  simpa using e
theorem StM.fz (h : StM w p bd bn ds ns zs) (k : Nat) : w.frozen? ⟨p, k, none⟩ = false := blk_free h.blk k
/-- An entry of the days is turned. -/
theorem StM.putD (h : StM w p bd bn ds ns zs) {ds' : List (Int × C)} (hm : MapA dayK w' bd ds') (hg : w.grownBy w' (some bd)) : StM w' p bd bn ds' ns zs :=
  ⟨(hg.block p h.lp (fun e => h.pd (by injection e))).trans h.blk, hm, h.mn.kept hg (fun e => h.ne (by injection e with e; exact e.symm)), h.ne, h.zl⟩
theorem StM.putN (h : StM w p bd bn ds ns zs) {ns' : List (Ky × C)} (hm : MapA nameK w' bn ns') (hg : w.grownBy w' (some bn)) : StM w' p bd bn ds ns' zs :=
  ⟨(hg.block p h.lp (fun e => h.pn (by injection e))).trans h.blk, h.md.kept hg (fun e => h.ne (by injection e)), hm, h.ne, h.zl⟩
end

/-! ### events -/
/-- An event in memory: where its lists lie. -/
structure EvM where
  e : Ev
  ga : Option Addr
  gc : Nat
  sa : Option Addr
  sc : Nat
/-- A byte of an author's identity. -/
def auB (a : List UInt8) (i : Nat) : Value := enB (a.getD i 0)
/-- The cells of an event. -/
def evL (m : EvM) : List Value := [i64 m.e.minute, auB m.e.author 0, auB m.e.author 1, auB m.e.author 2, auB m.e.author 3, auB m.e.author 4, auB m.e.author 5, auB m.e.author 6, auB m.e.author 7, auB m.e.author 8, auB m.e.author 9, auB m.e.author 10, auB m.e.author 11, auB m.e.author 12, auB m.e.author 13, auB m.e.author 14, auB m.e.author 15, .slice m.ga m.e.groups.length m.gc, .slice m.sa m.e.sites.length m.sc, i64 m.e.bytes]
abbrev evA (m : EvM) : Value := .agg (evL m).toArray
def auA (a : List UInt8) : Value := .agg #[auB a 0, auB a 1, auB a 2, auB a 3, auB a 4, auB a 5, auB a 6, auB a 7, auB a 8, auB a 9, auB a 10, auB a 11, auB a 12, auB a 13, auB a 14, auB a 15]
/-- The event's lists read as they must. -/
structure GoodM (w : World) (m : EvM) : Prop where
  au : m.e.author.length = 16
  rg : Rd w m.ga m.e.groups
  rs : Rd w m.sa m.e.sites
  gc : m.e.groups.length ≤ m.gc
  sc : m.e.sites.length ≤ m.sc
  gl : m.gc ≤ maxLen
  sl : m.sc ≤ maxLen
  gt : ∀ x ∈ m.e.groups, x.length ≤ maxLen
  st : ∀ x ∈ m.e.sites, x.length ≤ maxLen
  wm : (Lit.int .i64 m.e.minute).wf = true
  wb : (Lit.int .i64 m.e.bytes).wf = true
theorem GoodM.below {w w' : World} {m : EvM} (h : GoodM w m) (hb : Below w.heap.size w w') : GoodM w' m := ⟨h.au, h.rg.below hb, h.rs.below hb, h.gc, h.sc, h.gl, h.sl, h.gt, h.st, h.wm, h.wb⟩
theorem Rd.but {w w' : World} {A : Option Addr} {xs : List (List UInt8)} {R : List Nat} (h : Rd w A xs) (hb : ButL R w w') (hR : ∀ p, A = some p → p.block ∉ R) : Rd w' A xs := fun hl => by
  obtain ⟨b, o, e, hlt, hc⟩ := h hl
  refine ⟨b, o, e, Nat.lt_of_lt_of_le hlt hb.size, fun j x hj => ?_⟩
  rw [World.cell?_of_block (w := w) (hb.block b hlt (hR _ e))]
  exact hc j x hj
/-- A slice of events. -/
structure RdE (w : World) (A : Option Addr) (ms : List EvM) : Prop where
  rd : 0 < ms.length → ∃ b o, A = some ⟨b, o, none⟩ ∧ b < w.heap.size ∧ ∀ j m, ms[j]? = some m → w.rangeAt b (o + j * 20) (evL m)
  good : ∀ m ∈ ms, GoodM w m
theorem RdE.below {w w' : World} {A : Option Addr} {ms : List EvM} (h : RdE w A ms) (hb : Below w.heap.size w w') : RdE w' A ms :=
  ⟨fun hl => by
    obtain ⟨b, o, e, hlt, hc⟩ := h.rd hl
    exact ⟨b, o, e, Nat.lt_of_lt_of_le hlt hb.size, fun j m hj t v hv => Below.cellv hb (hc j m hj t v hv)⟩, fun m hm => (h.good m hm).below hb⟩
theorem RdE.at_ {w : World} {A : Option Addr} {ms : List EvM} {k : Nat} (h : RdE w A ms) (hk : k < ms.length) : ∃ b o m, A = some ⟨b, o, none⟩ ∧ b < w.heap.size ∧ ms[k]? = some m ∧ w.rangeAt b (o + k * 20) (evL m) ∧ GoodM w m := by
  obtain ⟨b, o, e, hlt, hc⟩ := h.rd (by omega)
  have hx : ms[k]? = some ms[k] := List.getElem?_eq_getElem hk
  exact ⟨b, o, ms[k], e, hlt, hx, hc k _ hx, h.good _ (List.getElem_mem hk)⟩
theorem ev_size : (Tryz.prog.info? 51).map (·.size) = some 20 := by kernel_rfl
theorem evL_length (m : EvM) : (evL m).length = 20 := rfl
theorem one_evL (m : EvM) : ∀ u ∈ evL m, u.oneCell' = true := fun u hu => by
  simp only [evL, List.mem_cons, List.not_mem_nil, or_false] at hu
  rcases hu with rfl | rfl | rfl | rfl | rfl | rfl | rfl | rfl | rfl | rfl | rfl | rfl | rfl | rfl | rfl | rfl | rfl | rfl | rfl | rfl <;> rfl
end Go.Proofs.YthgefcoaaommkaaGreatDoor

namespace Go.Proofs.YthgefcoaaommkaaGreatDoor
open Go.RowKit Go.Gn Go.Sr Go.Maps

/-- A count that may be added to another one. -/
def okC (c : C) : Prop := -1000000000000000000 ≤ c.1 ∧ c.1 ≤ 1000000000000000000 ∧ -1000000000000000000 ≤ c.2 ∧ c.2 ≤ 1000000000000000000
set_option maxHeartbeats 1000000 in
theorem plus_any (a b : C) (w : World) (ha : okC a) (hb : okC b) : Calls Tryz.prog 33 #[cV a, cV b] w fun e w' => e = .returned (cV (plus a b)) ∧ Below w.heap.size w w' := by
  obtain ⟨a1, a2⟩ := a
  obtain ⟨b1, b2⟩ := b
  obtain ⟨h1, h2, h3, h4⟩ := ha
  obtain ⟨k1, k2, k3, k4⟩ := hb
  simp only at h1 h2 h3 h4 k1 k2 k3 k4
  unfold cV plus
  simp only
  go_enter Tryz.func33, Tryz.ntmps33
  go_wp2_with fail
  refine bodyPost_ret (v := .agg #[i64 (a1 + b1), i64 (a2 + b2)]) (by simp [results, Tryz.results33, go_sem]) rfl ⟨rfl, ?_⟩
  exact ((below_new _ _).tr (below_new _ _)).tr (below_new _ _)
set_option maxHeartbeats 1000000 in
theorem day_any (m : EvM) (w : World) (h : 0 ≤ m.e.minute) (h2 : m.e.minute ≤ 1000000000000) : Calls Tryz.prog 41 #[evA m] w fun e w' => e = .returned (i64 (dayE m.e)) ∧ Below w.heap.size w w' := by
  unfold evA evL
  go_enter Tryz.func41, Tryz.ntmps41
  go_wp2_with fail
  go_ret
  exact ⟨rfl, below_new _ _⟩
set_option maxHeartbeats 1000000 in
theorem new_any (w : World) : Calls Tryz.prog 24 #[] w fun e w' => ∃ p bd bn, e = .returned (.pointer (some ⟨p, 0, none⟩)) ∧ StM w' p bd bn [] [] (List.replicate 18 0) ∧ Below w.heap.size w w' ∧ w.heap.size ≤ p ∧ w.heap.size ≤ bd ∧ w.heap.size ≤ bn := by
  have hmm := @run_makeMap Tryz.prog
  go_enter Tryz.func24, Tryz.ntmps24
  go_wp2_with fail
  go_ret
  refine ⟨w.heap.size + 1 + 1, w.heap.size, w.heap.size + 1, rfl, ?_, ((below_new _ _).tr (below_new _ _)).tr (below_new _ _), by omega, by omega, by omega⟩
  have m1 := (MapA.made dayK w).below (below_new _ (.map #[] 0))
  have m2 := MapA.made nameK (w.alloc (.map #[] 0))
  have e1 : (w.alloc (.map #[] 0)).heap.size = w.heap.size + 1 := by simp
  rw [e1] at m2
  refine ⟨?_, m1.below (below_new _ _), m2.below (below_new _ _), by omega, by simp⟩
  have := blk_new ((w.alloc (.map #[] 0)).alloc (.map #[] 0)) (.cells (Value.map (some w.heap.size) :: Value.map (some (w.heap.size + 1)) :: (List.replicate 18 (0 : Int)).map i64).toArray 72)
  simpa using this
end Go.Proofs.YthgefcoaaommkaaGreatDoor

namespace Go.Proofs.YthgefcoaaommkaaGreatDoor
open Go.RowKit Go.Gn Go.Sr Go.Maps

theorem zeroC (w : World) : (zeroValue 34).run Tryz.prog w = .ok (.agg #[i64 0, i64 0]) w := by kernel_rfl
theorem getC {κ : Type} [DecidableEq κ] (L : List (κ × C)) (y : κ) : ((getA L y).map cV).getD (.agg #[i64 0, i64 0]) = cV ((getA L y).getD (0, 0)) := by
  cases getA L y <;> rfl
theorem quiet_lookup_r {P : Program} {k : TypeId} {κ β : Type} {o : Oper} {a : Act} [DecidableEq κ] {C : World → Prop} {K : Act → Prop} (m x : Operand) (t : TypeId) (ho : o.op = .lookup t m x false)
    (S : KV P k κ β) (e : TypeId) (ht : P.underlying t = some (.map k e)) (z : Value) (hz : ∀ w, (zeroValue e).run P w = .ok z w) (b : Nat) (L : List (κ × β))
    (hm : a.eval m = .map (some b)) (hown : ∀ w, C w → MapA S w b L) (y : κ) (hy : S.ok y) (hx : a.eval x = S.kv y) (r : Value) (hr : ((getA L y).map S.vv).getD z = r) (hk : K (a.put o.dst r)) : o.quiet P a C K :=
  quiet_lookup_a m x t ho S e ht z hz b L hm hown y hy hx (by rw [hr]; exact hk)
set_option maxRecDepth 100000 in
set_option maxHeartbeats 2000000 in
theorem count_any (p bd bn : Nat) (ds : List (Int × C)) (ns : List (Ky × C)) (zs : List Int) (d : Int) (c : C) (w : World) (h : StM w p bd bn ds ns zs) (hk : (Lit.int .i64 d).wf = true) (hc : okC c) (ho : okC ((getA ds d).getD (0, 0))) (hn : ds.length < 1000000) :
    Calls Tryz.prog 64 #[.pointer (some ⟨p, 0, none⟩), i64 d, cV c] w fun e w' => e = .returned (.tuple #[]) ∧ StM w' p bd bn (addA ds d c) ns zs ∧ ButL [bd] w w' := by
  obtain ⟨c1, c2⟩ := c
  have hcell := h.c0
  have hpl := h.lp
  have qT : ∀ (w : World) (r : Option Nat), (binOp .eql 69 (.map r) (.map none)).run Tryz.prog w = .ok (.bool r.isNone) w := fun w r => run_eql_map_nil w _ _ _ r Tryz.underlying69
  have hfz := h.fz 0
  have H0 := Lib.hid h
  clear h
  go_enter Tryz.func64, Tryz.ntmps64
  unfold cV 
  simp only
  go_wp2_with fail
  have Kc := Lib.hid (blk_new w (.cells #[i64 c1, i64 c2] 34))
  have Bc := Lib.hid (below_new w (.cells #[i64 c1, i64 c2] 34))
  have H1 := Lib.hid ((H0.out.below Bc.out).below (Below.refl _ _).drew)
  have B1 := Lib.hid Bc.out.drew
  have Lc := Lib.hid (blk_below (Below.refl _ _).drew Kc.out)
  clear Kc Bc H0 hcell hfz hpl qT
  refine Flow.wp_region_pre Flow.Later Flow.Later.refl Flow.Later.trans [13] (.held [0, 1, 2, 3, 4, 5, 6, 7, 8, 9, 10, 11] (.call 12 (.tail (.step [] 13 (.done []))))) (by kernel_rfl) (by kernel_rfl) ?_
  generalize World.drew (w.alloc (.cells #[i64 c1, i64 c2] 34)) = wd at *
  have ec := Lc.out
  have qp : ∀ t : Flow.Cls (Flow.Later wd), t.val.cell? ⟨p, 0, none⟩ = some (.map (some bd)) := fun t => Flow.cls_cell H1.out.c0 t
  have qc0 : ∀ t : Flow.Cls (Flow.Later wd), t.val.cell? ⟨w.heap.size, 0, none⟩ = some (i64 c1) := fun t => Flow.cls_cell (blk_cell ec 0) t
  have qc1 : ∀ t : Flow.Cls (Flow.Later wd), t.val.cell? ⟨w.heap.size, 1, none⟩ = some (i64 c2) := fun t => Flow.cls_cell (blk_cell ec 1) t
  haveI nonE := Flow.cls_nonempty wd
  rw [Flow.wpPre_held]
  simp only [Flow.pick, List.getElem?_toArray, List.getElem?_cons_succ, List.getElem?_cons_zero]
  iterate 10 go_big_quiet_step (fail)
  refine BigFrame.wpQuiet_want rfl (fun K hK => quiet_lookup_r _ _ 69 rfl dayK 34 Tryz.underlying69 (.agg #[i64 0, i64 0]) zeroC bd ds rfl (fun _ he => by obtain ⟨t, rfl⟩ := he; exact H1.out.md.below t.ok) d hk rfl (cV ((getA ds d).getD (0, 0))) (getC _ _) (hK _ ?_))
  clear hK K
  simp only [Act.put, List.setIfInBounds_toArray, List.set_cons_succ, List.set_cons_zero]
  go_big_quiet_step (fail)
  refine wpQuiet_nil ?_
  clear nonE qp qc0 qc1
  rw [Flow.wpPre_call, Flow.callAt_eq]
  simp only [List.getElem?_toArray, List.getElem?_cons_succ, List.getElem?_cons_zero]
  rw [if_pos (by rfl)]
  refine Flow.wp_behind (fun K hK => ?_)
  go_wp2_with fail
  refine (plus_any ((getA ds d).getD (0, 0)) (c1, c2) wd ho hc).mono ?_; rintro e w1 ⟨rfl, b⟩
  refine hK.out _ _ ⟨b, ?_⟩
  clear hK K
  have H2 := Lib.hid (H1.out.below b)
  have B2 := Lib.hid (B1.out.tr b)
  clear b
  rw [Flow.wpPre_tail, Flow.wpSched_step]
  simp only [Flow.pick]
  refine wpQuiet_nil ?_
  rw [Flow.callAt_eq]
  simp only [List.getElem?_toArray, List.getElem?_cons_succ, List.getElem?_cons_zero]
  rw [if_pos (by rfl)]
  refine Flow.wp_behind (fun K hK => ?_)
  refine wp_mapUpdate_a w1 _ _ _ 69 rfl dayK 34 Tryz.underlying69 bd ds rfl H2.out.md (by unfold maxLen; omega) d hk (plus ((getA ds d).getD (0, 0)) (c1, c2)) rfl rfl ?_
  intro w2 hm2 hg2
  refine hK.out _ _ ⟨trivial, ?_⟩
  clear hK K
  have H3 := Lib.hid (H2.out.putD hm2 hg2)
  have B3 := Lib.hid (((ButL.of_below B2.out : ButL [bd] w w1)).trans (ButL.grown hg2 (fun k e => by cases e; simp)))
  clear hm2 hg2
  rw [Flow.wpSched_done]
  simp only [Flow.pick, Act.put]
  refine wpQuiet_nil ?_
  go_wp2_with fail
  go_end0
  exact ⟨rfl, H3.out, B3.out⟩
set_option maxRecDepth 100000 in
set_option maxHeartbeats 2000000 in
theorem countName_any (p bd bn : Nat) (ds : List (Int × C)) (ns : List (Ky × C)) (zs : List Int) (k : Ky) (c : C) (w : World) (h : StM w p bd bn ds ns zs) (hk : okKy k) (hc : okC c) (ho : okC ((getA ns k).getD (0, 0))) (hn : ns.length < 1000000) :
    Calls Tryz.prog 65 #[.pointer (some ⟨p, 0, none⟩), kV k, cV c] w fun e w' => e = .returned (.tuple #[]) ∧ StM w' p bd bn ds (addA ns k c) zs ∧ ButL [bn] w w' := by
  obtain ⟨c1, c2⟩ := c
  have hcell := h.c1
  have hpl := h.lp
  have qT : ∀ (w : World) (r : Option Nat), (binOp .eql 70 (.map r) (.map none)).run Tryz.prog w = .ok (.bool r.isNone) w := fun w r => run_eql_map_nil w _ _ _ r Tryz.underlying70
  have hfz := h.fz 1
  have H0 := Lib.hid h
  clear h
  go_enter Tryz.func65, Tryz.ntmps65
  unfold cV kV
  simp only
  go_wp2_with fail
  have Kk := Lib.hid (blk_new w (.cells #[i64 k.1, i64 k.2.1, enS k.2.2] 74))
  have Bk := Lib.hid (below_new w (.cells #[i64 k.1, i64 k.2.1, enS k.2.2] 74))
  have Kc := Lib.hid (blk_new (w.alloc (.cells #[i64 k.1, i64 k.2.1, enS k.2.2] 74)) (.cells #[i64 c1, i64 c2] 34))
  have Bc := Lib.hid (Bk.out.tr (below_new (w.alloc (.cells #[i64 k.1, i64 k.2.1, enS k.2.2] 74)) (.cells #[i64 c1, i64 c2] 34)))
  have Kk := Lib.hid (blk_below (below_new (w.alloc (.cells #[i64 k.1, i64 k.2.1, enS k.2.2] 74)) (.cells #[i64 c1, i64 c2] 34)) Kk.out)
  have H1 := Lib.hid ((H0.out.below Bc.out).below (Below.refl _ _).drew)
  have B1 := Lib.hid Bc.out.drew
  have Lk := Lib.hid (blk_below (Below.refl _ _).drew Kk.out)
  have Lc := Lib.hid (blk_below (Below.refl _ _).drew Kc.out)
  clear Kk Bk Kc Bc H0 hcell hfz hpl qT
  refine Flow.wp_region_pre Flow.Later Flow.Later.refl Flow.Later.trans [13] (.held [0, 1, 2, 3, 4, 5, 6, 7, 8, 9, 10, 11] (.call 12 (.tail (.step [] 13 (.done []))))) (by kernel_rfl) (by kernel_rfl) ?_
  generalize World.drew ((w.alloc (.cells #[i64 k.1, i64 k.2.1, enS k.2.2] 74)).alloc (.cells #[i64 c1, i64 c2] 34)) = wd at *
  have ek := Lk.out
  have ec := Lc.out
  simp only [World.size_alloc] at ek ec
  have qp : ∀ t : Flow.Cls (Flow.Later wd), t.val.cell? ⟨p, 1, none⟩ = some (.map (some bn)) := fun t => Flow.cls_cell H1.out.c1 t
  have qk0 : ∀ t : Flow.Cls (Flow.Later wd), t.val.cell? ⟨w.heap.size, 0, none⟩ = some (i64 k.1) := fun t => Flow.cls_cell (blk_cell ek 0) t
  have qk1 : ∀ t : Flow.Cls (Flow.Later wd), t.val.cell? ⟨w.heap.size, 1, none⟩ = some (i64 k.2.1) := fun t => Flow.cls_cell (blk_cell ek 1) t
  have qk2 : ∀ t : Flow.Cls (Flow.Later wd), t.val.cell? ⟨w.heap.size, 2, none⟩ = some (enS k.2.2) := fun t => Flow.cls_cell (blk_cell ek 2) t
  have qc0 : ∀ t : Flow.Cls (Flow.Later wd), t.val.cell? ⟨w.heap.size + 1, 0, none⟩ = some (i64 c1) := fun t => Flow.cls_cell (blk_cell ec 0) t
  have qc1 : ∀ t : Flow.Cls (Flow.Later wd), t.val.cell? ⟨w.heap.size + 1, 1, none⟩ = some (i64 c2) := fun t => Flow.cls_cell (blk_cell ec 1) t
  haveI nonE := Flow.cls_nonempty wd
  rw [Flow.wpPre_held]
  simp only [Flow.pick, List.getElem?_toArray, List.getElem?_cons_succ, List.getElem?_cons_zero]
  iterate 10 go_big_quiet_step (fail)
  refine BigFrame.wpQuiet_want rfl (fun K hK => quiet_lookup_r _ _ 70 rfl nameK 34 Tryz.underlying70 (.agg #[i64 0, i64 0]) zeroC bn ns rfl (fun _ he => by obtain ⟨t, rfl⟩ := he; exact H1.out.mn.below t.ok) k hk rfl (cV ((getA ns k).getD (0, 0))) (getC _ _) (hK _ ?_))
  clear hK K
  simp only [Act.put, List.setIfInBounds_toArray, List.set_cons_succ, List.set_cons_zero]
  go_big_quiet_step (fail)
  refine wpQuiet_nil ?_
  clear nonE qp qk0 qk1 qk2 qc0 qc1
  rw [Flow.wpPre_call, Flow.callAt_eq]
  simp only [List.getElem?_toArray, List.getElem?_cons_succ, List.getElem?_cons_zero]
  rw [if_pos (by rfl)]
  refine Flow.wp_behind (fun K hK => ?_)
  go_wp2_with fail
  refine (plus_any ((getA ns k).getD (0, 0)) (c1, c2) wd ho hc).mono ?_; rintro e w1 ⟨rfl, b⟩
  refine hK.out _ _ ⟨b, ?_⟩
  clear hK K
  have H2 := Lib.hid (H1.out.below b)
  have B2 := Lib.hid (B1.out.tr b)
  clear b
  rw [Flow.wpPre_tail, Flow.wpSched_step]
  simp only [Flow.pick]
  refine wpQuiet_nil ?_
  rw [Flow.callAt_eq]
  simp only [List.getElem?_toArray, List.getElem?_cons_succ, List.getElem?_cons_zero]
  rw [if_pos (by rfl)]
  refine Flow.wp_behind (fun K hK => ?_)
  refine wp_mapUpdate_a w1 _ _ _ 70 rfl nameK 34 Tryz.underlying70 bn ns rfl H2.out.mn (by unfold maxLen; omega) k hk (plus ((getA ns k).getD (0, 0)) (c1, c2)) rfl rfl ?_
  intro w2 hm2 hg2
  refine hK.out _ _ ⟨trivial, ?_⟩
  clear hK K
  have H3 := Lib.hid (H2.out.putN hm2 hg2)
  have B3 := Lib.hid (((ButL.of_below B2.out : ButL [bn] w w1)).trans (ButL.grown hg2 (fun k e => by cases e; simp)))
  clear hm2 hg2
  rw [Flow.wpSched_done]
  simp only [Flow.pick, Act.put]
  refine wpQuiet_nil ?_
  go_wp2_with fail
  go_end0
  exact ⟨rfl, H3.out, B3.out⟩
end Go.Proofs.YthgefcoaaommkaaGreatDoor

namespace Go.Proofs.YthgefcoaaommkaaGreatDoor
open Go.RowKit Go.Gn Go.Sr Go.Maps

/-- A count of a moderate number of articles. -/
def smallC (c : C) : Prop := 0 ≤ c.1 ∧ c.1 ≤ 1000000000000 ∧ 0 ≤ c.2 ∧ c.2 ≤ 1000000000000
theorem sumC_small : ∀ (l : List C), (∀ c ∈ l, smallC c) → 0 ≤ (sumC l).1 ∧ (sumC l).1 ≤ l.length * 1000000000000 ∧ 0 ≤ (sumC l).2 ∧ (sumC l).2 ≤ l.length * 1000000000000
  | [], _ => by simp [sumC_nil]
  | a :: r, h => by
    have ih := sumC_small r fun c hc => h c (by simp [hc])
    obtain ⟨h1, h2, h3, h4⟩ := h a (by simp)
    rw [sumC_cons]
    simp only [plus, List.length_cons]
    omega
theorem sumC_ok {l : List C} (h : ∀ c ∈ l, smallC c) (hl : l.length ≤ 100000) : okC (sumC l) := by
  have := sumC_small l h
  unfold okC
  omega
theorem smallC.ok {c : C} (h : smallC c) : okC c := by unfold smallC at h; unfold okC; omega
section
variable {w : World} {ops : Array Oper} {rest : List Oper} {o : Oper} {a : Act} {Q : Exit → Act → World → Prop}
theorem wpList_next_day (hg : o.guard = none) (it : Operand) (hop : o.op = Op.next it false) (b r : Nat) (L done : List (Int × C)) (hit : a.eval it = .pointer (some ⟨r, 0, none⟩)) (h : RngA dayK w b r L done)
    (hDone : done.Perm L → wpList Tryz.prog ops Q rest (a.put o.dst (.tuple #[.bool false])) w)
    (hMore : ∀ x c1 c2 w', (x, (c1, c2)) ∈ L → x ∉ done.map (·.1) → (Lit.int .i64 x).wf = true → RngA dayK w' b r L (done ++ [(x, (c1, c2))]) → w.grownBy w' (some r) → w'.heap.size = w.heap.size →
      (Instr.entry (.pointer (some ⟨r, 0, none⟩))).run Tryz.prog w' = .ok (.tuple #[i64 x, .agg #[i64 c1, i64 c2]]) w' → wpList Tryz.prog ops Q rest (a.put o.dst (.tuple #[.bool true, i64 x, .agg #[i64 c1, i64 c2]])) w') :
    wpList Tryz.prog ops Q (o :: rest) a w :=
  wpList_next_a w hg it hop dayK b r L done hit h hDone fun x c w' h1 h2 h3 h4 h5 h6 h7 => hMore x c.1 c.2 w' h1 h2 h3 h4 h5 h6 h7
theorem wpList_next_name (hg : o.guard = none) (it : Operand) (hop : o.op = Op.next it false) (b r : Nat) (L done : List (Ky × C)) (hit : a.eval it = .pointer (some ⟨r, 0, none⟩)) (h : RngA nameK w b r L done)
    (hDone : done.Perm L → wpList Tryz.prog ops Q rest (a.put o.dst (.tuple #[.bool false])) w)
    (hMore : ∀ x1 x2 x3 c1 c2 w', ((x1, x2, x3), (c1, c2)) ∈ L → (x1, x2, x3) ∉ done.map (·.1) → okKy (x1, x2, x3) → RngA nameK w' b r L (done ++ [((x1, x2, x3), (c1, c2))]) → w.grownBy w' (some r) → w'.heap.size = w.heap.size →
      (Instr.entry (.pointer (some ⟨r, 0, none⟩))).run Tryz.prog w' = .ok (.tuple #[.agg #[i64 x1, i64 x2, enS x3], .agg #[i64 c1, i64 c2]]) w' → wpList Tryz.prog ops Q rest (a.put o.dst (.tuple #[.bool true, .agg #[i64 x1, i64 x2, enS x3], .agg #[i64 c1, i64 c2]])) w') :
    wpList Tryz.prog ops Q (o :: rest) a w :=
  wpList_next_a w hg it hop nameK b r L done hit h hDone fun x c w' h1 h2 h3 h4 h5 h6 h7 => hMore x.1 x.2.1 x.2.2 c.1 c.2 w' h1 h2 h3 h4 h5 h6 h7
end
theorem sum_snoc {κ : Type} (L : List (κ × C)) (x : κ) (c : C) : sumC ((L ++ [(x, c)]).map (·.2)) = plus (sumC (L.map (·.2))) c := by
  rw [List.map_append, sumC_append]
  simp [sumC_cons, sumC_nil, plus_zero]
theorem sumP_snoc {κ : Type} (p : κ → Bool) (L : List (κ × C)) (x : κ) (c : C) : sumP p (L ++ [(x, c)]) = plus (sumP p L) (if p x then c else (0, 0)) := by
  rw [sumP_append, sumP_cons, sumP_nil, plus_zero]
theorem sub_small {κ : Type} {L done : List (κ × C)} (h : ∀ q ∈ L, smallC q.2) (hd : ∀ q ∈ done, q ∈ L) : ∀ c ∈ done.map (·.2), smallC c := fun c hc => by
  obtain ⟨q, hq, rfl⟩ := List.mem_map.1 hc
  exact h q (hd q hq)
theorem RngA.sub {κ β : Type} {P : Program} {k : TypeId} {S : KV P k κ β} {w : World} {b r : Nat} {L done : List (κ × β)} (h : RngA S w b r L done) : ∀ q ∈ done, q ∈ L := by
  obtain ⟨D, n, left, cnt, _, _, _, h4, _⟩ := h
  exact h4
theorem cV_zero : cV (0, 0) = .agg #[i64 0, i64 0] := rfl
/-- The blocks of the loops over the counts: the result's, the sum's. -/
structure SumW (w wr : World) (s : C) : Prop where
  res : wr.heap[w.heap.size]? = some (.cells #[i64 0, i64 0] 34 (0, 0))
  sum : wr.heap[w.heap.size + 1]? = some (.cells #[i64 s.1, i64 s.2] 34 (0, 0))
  bel : Below w.heap.size w wr
theorem SumW.tr {w wr wr2 : World} {s : C} (h : SumW w wr s) (hb : Below wr.heap.size wr wr2) : SumW w wr2 s := ⟨blk_below hb h.res, blk_below hb h.sum, h.bel.tr hb⟩
theorem SumW.set {w wr : World} {s : C} (h : SumW w wr s) (a b : Int) : SumW w ((wr.setCell ⟨w.heap.size + 1, 0, none⟩ (i64 a)).setCell ⟨w.heap.size + 1, 1, none⟩ (i64 b)) (a, b) := by
  refine ⟨?_, ?_, (h.bel.setCell (p := ⟨w.heap.size + 1, 0, none⟩) (Nat.le_succ _) _).setCell (p := ⟨w.heap.size + 1, 1, none⟩) (Nat.le_succ _) _⟩
  · rw [blk_set_ne 1 _ (by omega), blk_set_ne 0 _ (by omega)]; exact h.res
  · have := blk_set (blk_set h.sum 0 (i64 a)) 1 (i64 b)
    simpa using this
theorem RngA.set {κ β : Type} {P : Program} {k : TypeId} {S : KV P k κ β} {w : World} {b r g : Nat} {L done : List (κ × β)} (h : RngA S w b r L done) (hb : g ≠ b) (hr : g ≠ r) (u v : Value) : RngA S ((w.setCell ⟨g, 0, none⟩ u).setCell ⟨g, 1, none⟩ v) b r L done :=
  h.keep (by rw [blk_set_ne 1 _ hb.symm, blk_set_ne 0 _ hb.symm]) (by rw [blk_set_ne 1 _ hr.symm, blk_set_ne 0 _ hr.symm])
theorem SumW.grown {w wr wr2 : World} {s : C} (h : SumW w wr s) {r : Nat} (hg : wr.grownBy wr2 (some r)) (hr : w.heap.size + 1 < r) : SumW w wr2 s := by
  have h1 := blk_lt h.res
  have h2 := blk_lt h.sum
  exact ⟨(hg.block _ h1 (fun e => by injection e; omega)).trans h.res, (hg.block _ h2 (fun e => by injection e; omega)).trans h.sum, h.bel.grown hg h.bel.size (fun k e => by cases e; omega)⟩
set_option maxRecDepth 100000 in
set_option maxHeartbeats 4000000 in
theorem total_any (p bd bn : Nat) (ds : List (Int × C)) (ns : List (Ky × C)) (zs : List Int) (w : World) (h : StM w p bd bn ds ns zs) (hs : ∀ q ∈ ds, smallC q.2) (hn : ds.length ≤ 100000) :
    Calls Tryz.prog 19 #[.pointer (some ⟨p, 0, none⟩)] w fun e w' => e = .returned (cV (sumC (ds.map (·.2)))) ∧ Below w.heap.size w w' := by
  have hcell := h.c0
  have hpl := h.lp
  have H0 := Lib.hid h
  have HS := Lib.hid hs
  clear h hs
  go_enter Tryz.func19, Tryz.ntmps19
  have H1 := Lib.hid ((H0.out.md.below (below_new w (.cells #[i64 0, i64 0] 34))).below (below_new _ (.cells #[i64 0, i64 0] 34)))
  have S1 : Hid (SumW w ((w.alloc (.cells #[i64 0, i64 0] 34)).alloc (.cells #[i64 0, i64 0] 34)) (0, 0)) := Lib.hid ⟨blk_below (below_new _ _) (blk_new _ _), by have := blk_new (w.alloc (.cells #[i64 0, i64 0] 34)) (.cells #[i64 0, i64 0] 34); simpa using this, (below_new _ _).tr (below_new _ _)⟩
  go_wp2_with (first | (at_range; refine wpList_range_a _ rfl _ 69 rfl dayK 34 Tryz.underlying69 bd ds rfl H1.out ?_; intro w0 hrg0 hg0 hs0) | go_in)
  go_frame
  have hbt : Below ((w.alloc (.cells #[i64 0, i64 0] 34)).alloc (.cells #[i64 0, i64 0] 34)).heap.size ((w.alloc (.cells #[i64 0, i64 0] 34)).alloc (.cells #[i64 0, i64 0] 34)) w0 := (Below.refl _ _).grown hg0 (Nat.le_refl _) (fun k hk => by cases hk)
  have S2 := Lib.hid (S1.out.tr hbt)
  have e1 : ((w.alloc (.cells #[i64 0, i64 0] 34)).alloc (.cells #[i64 0, i64 0] 34)).heap.size = w.heap.size + 1 + 1 := by simp
  rw [e1] at hrg0 hs0 ⊢
  have R2 := Lib.hid hrg0
  clear hbt hg0 hs0 hrg0 S1 H1 hcell hpl e1
  go_loopg [5] ds.length (fun gg cv wr => ∃ done : List (Int × C), ds.length - done.length ≤ gg ∧ Hid (RngA dayK wr bd (w.heap.size + 1 + 1) ds done) ∧ Hid (SumW w wr (sumC (done.map (·.2)))))
  case atStart => exact ⟨[], by simp, R2, S2⟩
  case round =>
    obtain ⟨done, hgg, R3, S3⟩ := hrel
    obtain ⟨s, hsum⟩ : ∃ q, sumC (done.map (·.2)) = q := ⟨_, rfl⟩
    have hsok : okC s := by rw [← hsum]; exact sumC_ok (sub_small HS.out R3.out.sub) (by have := R3.out.len; simp; omega)
    obtain ⟨s1, s2⟩ := s
    rw [hsum] at S3
    have HSUM := Lib.hid hsum
    clear hsum
    have hk0 := blk_cell S3.out.res 0
    go_wp2_with (first | (at_next; refine wpList_next_day rfl _ rfl bd (w.heap.size + 1 + 1) ds done rfl R3.out ?_ ?_) | go_in)
    · intro hp
      have hc0 := blk_cell S3.out.sum 0
      have hc1 := blk_cell S3.out.sum 1
      have hr0 := blk_cell S3.out.res 0
      have hr1 := blk_cell S3.out.res 1
      have hf0 := blk_free S3.out.res 0
      have hf1 := blk_free S3.out.res 1
      go_wp2_with fail
      have hb := blk_set (blk_set S3.out.res 0 (i64 s1)) 1 (i64 s2)
      have d0 := blk_cell hb 0
      have d1 := blk_cell hb 1
      have B3 := (S3.out.bel.setCell (p := ⟨w.heap.size, 0, none⟩) (Nat.le_refl _) (i64 s1)).setCell (p := ⟨w.heap.size, 1, none⟩) (Nat.le_refl _) (i64 s2)
      refine bodyPost_ret (v := .agg #[i64 s1, i64 s2]) (by simp [results, Tryz.results19, go_sem, d0, d1]) rfl ⟨?_, B3⟩
      rw [← sumC_perm (hp.map (·.2)), HSUM.out]; rfl
    · intro x c1 c2 w1 hmem hnd hwf R4 hg4 hs4 hen
      have S4 := Lib.hid (S3.out.grown hg4 (by omega))
      have HR4 := Lib.hid R4
      have hcs := HS.out _ hmem
      clear hmem hnd hwf R4 hg4 hs4
      have hc0 := blk_cell S4.out.sum 0
      have hc1 := blk_cell S4.out.sum 1
      have hlt := blk_lt S4.out.sum
      go_wp2_with fail
      refine (plus_any (s1, s2) (c1, c2) _ hsok hcs.ok).mono ?_; rintro e w2 ⟨rfl, b⟩
      have b2 := (below_new w1 (.cells #[i64 c1, i64 c2] 34)).tr b
      have S5 := Lib.hid (S4.out.tr b2)
      have HR5 := Lib.hid (HR4.out.below b2)
      have hsum5 := sum_snoc done x (c1, c2)
      rw [HSUM.out] at hsum5
      have hc0 := blk_cell S5.out.sum 0
      have hc1 := blk_cell S5.out.sum 1
      have hf0 := blk_free S5.out.sum 0
      have hf1 := blk_free S5.out.sum 1
      have HSU := Lib.hid hsum5
      clear hsum5 b b2 S4 HR4
      simp only [cV, plus]
      go_wp2_with fail
      go_roundg (ds.length - (done.length + 1))
      case measure =>
        have := HR5.out.len
        simp at this
        omega
      case rel => exact ⟨done ++ [(x, (c1, c2))], by simp, Lib.hid (HR5.out.set (by have := H0.out.ld; omega) (by omega) _ _), by rw [HSU.out]; exact Lib.hid (S5.out.set _ _)⟩
end Go.Proofs.YthgefcoaaommkaaGreatDoor

namespace Go.Proofs.YthgefcoaaommkaaGreatDoor
open Go.RowKit Go.Gn Go.Sr Go.Maps

/-- The keys with a kind, a name and a day between two others. -/
def pickKy (kind : Int) (name : List UInt8) (a b : Int) (x : Ky) : Bool := decide (x.2.1 = kind) && decide (x.2.2 = name) && decide (a ≤ x.1) && decide (x.1 ≤ b)
theorem sumP_ok {κ : Type} {p : κ → Bool} {l : List (κ × C)} (h : ∀ c ∈ l.map (·.2), smallC c) (hl : l.length ≤ 100000) : okC (sumP p l) :=
  sumC_ok (fun c hc => by
    obtain ⟨q, hq, rfl⟩ := List.mem_map.1 hc
    exact h _ (List.mem_map.2 ⟨q, (List.mem_filter.1 hq).1, rfl⟩)) (by rw [List.length_map]; exact Nat.le_trans (List.length_filter_le _ _) hl)
theorem str_dec {a b : List UInt8} : decide ((⟨a.toArray⟩ : ByteArray) = ⟨b.toArray⟩) = decide (a = b) := by
  rw [Bool.eq_iff_iff, decide_eq_true_eq, decide_eq_true_eq]
  constructor
  · intro e; injection e with e; simpa using e
  · rintro rfl; rfl
set_option maxRecDepth 100000 in
set_option maxHeartbeats 8000000 in
theorem of_any (p bd bn : Nat) (ds : List (Int × C)) (ns : List (Ky × C)) (zs : List Int) (kind : Int) (name : List UInt8) (a b : Int) (w : World) (h : StM w p bd bn ds ns zs) (hs : ∀ q ∈ ns, smallC q.2) (hn : ns.length ≤ 100000) :
    Calls Tryz.prog 29 #[.pointer (some ⟨p, 0, none⟩), i64 kind, enS name, i64 a, i64 b] w fun e w' => e = .returned (cV (sumP (pickKy kind name a b) ns)) ∧ Below w.heap.size w w' := by
  have hcell := h.c1
  have hpl := h.lp
  have H0 := Lib.hid h
  have HS := Lib.hid hs
  clear h hs
  go_enter Tryz.func29, Tryz.ntmps29
  have H1 := Lib.hid ((H0.out.mn.below (below_new w (.cells #[i64 0, i64 0] 34))).below (below_new _ (.cells #[i64 0, i64 0] 34)))
  have S1 : Hid (SumW w ((w.alloc (.cells #[i64 0, i64 0] 34)).alloc (.cells #[i64 0, i64 0] 34)) (0, 0)) := Lib.hid ⟨blk_below (below_new _ _) (blk_new _ _), by have := blk_new (w.alloc (.cells #[i64 0, i64 0] 34)) (.cells #[i64 0, i64 0] 34); simpa using this, (below_new _ _).tr (below_new _ _)⟩
  go_wp2_with (first | (at_range; refine wpList_range_a _ rfl _ 70 rfl nameK 34 Tryz.underlying70 bn ns rfl H1.out ?_; intro w0 hrg0 hg0 hs0) | go_in)
  go_frame
  have hbt : Below ((w.alloc (.cells #[i64 0, i64 0] 34)).alloc (.cells #[i64 0, i64 0] 34)).heap.size ((w.alloc (.cells #[i64 0, i64 0] 34)).alloc (.cells #[i64 0, i64 0] 34)) w0 := (Below.refl _ _).grown hg0 (Nat.le_refl _) (fun k hk => by cases hk)
  have S2 := Lib.hid (S1.out.tr hbt)
  have e1 : ((w.alloc (.cells #[i64 0, i64 0] 34)).alloc (.cells #[i64 0, i64 0] 34)).heap.size = w.heap.size + 1 + 1 := by simp
  rw [e1] at hrg0 hs0 ⊢
  have R2 := Lib.hid hrg0
  clear hbt hg0 hs0 hrg0 S1 H1 hcell hpl e1
  go_loopg [12, 13] ns.length (fun gg cv dv wr => ∃ done : List (Ky × C), ns.length - done.length ≤ gg ∧ Hid (RngA nameK wr bn (w.heap.size + 1 + 1) ns done) ∧ Hid (SumW w wr (sumP (pickKy kind name a b) done)))
  case atStart => exact ⟨[], by simp, R2, S2⟩
  case round =>
    obtain ⟨done, hgg, R3, S3⟩ := hrel
    obtain ⟨s, hsum⟩ : ∃ q, sumP (pickKy kind name a b) done = q := ⟨_, rfl⟩
    have hsok : okC s := by rw [← hsum]; exact sumP_ok (sub_small HS.out R3.out.sub) (by have := R3.out.len; omega)
    obtain ⟨s1, s2⟩ := s
    rw [hsum] at S3
    have HSUM := Lib.hid hsum
    clear hsum
    go_wp2_with (first | (at_next; refine wpList_next_name rfl _ rfl bn (w.heap.size + 1 + 1) ns done rfl R3.out ?_ ?_) | go_in)
    · intro hp
      have hc0 := blk_cell S3.out.sum 0
      have hc1 := blk_cell S3.out.sum 1
      have hr0 := blk_cell S3.out.res 0
      have hr1 := blk_cell S3.out.res 1
      have hf0 := blk_free S3.out.res 0
      have hf1 := blk_free S3.out.res 1
      go_wp2_with fail
      have hb := blk_set (blk_set S3.out.res 0 (i64 s1)) 1 (i64 s2)
      have d0 := blk_cell hb 0
      have d1 := blk_cell hb 1
      have B3 := (S3.out.bel.setCell (p := ⟨w.heap.size, 0, none⟩) (Nat.le_refl _) (i64 s1)).setCell (p := ⟨w.heap.size, 1, none⟩) (Nat.le_refl _) (i64 s2)
      refine bodyPost_ret (v := .agg #[i64 s1, i64 s2]) (by simp [results, Tryz.results29, go_sem, d0, d1]) rfl ⟨?_, B3⟩
      rw [← sumP_perm _ hp, HSUM.out]; rfl
    · intro x1 x2 x3 c1 c2 w1 hmem hnd hwf R4 hg4 hs4 hen
      have S4 := Lib.hid (S3.out.grown hg4 (by omega))
      have HR4 := Lib.hid R4
      have hcs := HS.out _ hmem
      have hsn := sumP_snoc (pickKy kind name a b) done (x1, x2, x3) (c1, c2)
      rw [HSUM.out] at hsn
      have HSN := Lib.hid hsn
      clear hmem hnd hwf R4 hg4 hs4 hsn
      have hc0 := blk_cell S4.out.sum 0
      have hc1 := blk_cell S4.out.sum 1
      have hlt := blk_lt S4.out.sum
      have hlt2 := blk_lt S4.out.res
      have b1 := Lib.hid ((below_new w1 (.cells #[i64 x1, i64 x2, enS x3] 74)).tr (below_new _ (.cells #[i64 c1, i64 c2] 34)))
      by_cases hk : x2 = kind
      case neg =>
        have hkd : decide (x2 = kind) = false := decide_eq_false hk
        have hkb : (x2 == kind) = false := by simp [hk]
        have S5 := Lib.hid (S4.out.tr b1.out)
        have HR5 := Lib.hid (HR4.out.below b1.out)
        have hpf : pickKy kind name a b (x1, x2, x3) = false := by unfold pickKy; simp only; rw [hkd, Bool.false_and, Bool.false_and, Bool.false_and]
        have HSU : Hid (sumP (pickKy kind name a b) (done ++ [((x1, x2, x3), (c1, c2))]) = (s1, s2)) := Lib.hid (by rw [HSN.out, hpf, if_neg Bool.false_ne_true, plus_zero])
        clear hpf
        go_wp2_with fail
        go_roundg (ns.length - (done.length + 1))
        case measure =>
          have := HR5.out.len
          simp at this
          omega
        case rel => exact ⟨done ++ [((x1, x2, x3), (c1, c2))], by simp, HR5, by rw [HSU.out]; exact S5⟩
      have hkd : decide (x2 = kind) = true := decide_eq_true hk
      have hkb : (x2 == kind) = true := by simp [hk]
      clear hk
      by_cases hm : x3 = name
      case neg =>
        have hmd : decide (x3 = name) = false := decide_eq_false hm
        have S5 := Lib.hid (S4.out.tr b1.out)
        have HR5 := Lib.hid (HR4.out.below b1.out)
        have hpf : pickKy kind name a b (x1, x2, x3) = false := by unfold pickKy; simp only; rw [hkd, hmd, Bool.true_and, Bool.false_and, Bool.false_and]
        have HSU : Hid (sumP (pickKy kind name a b) (done ++ [((x1, x2, x3), (c1, c2))]) = (s1, s2)) := Lib.hid (by rw [HSN.out, hpf, if_neg Bool.false_ne_true, plus_zero])
        clear hpf
        go_wp2_with fail
        go_roundg (ns.length - (done.length + 1))
        case measure =>
          have := HR5.out.len
          simp at this
          omega
        case rel => exact ⟨done ++ [((x1, x2, x3), (c1, c2))], by simp, HR5, by rw [HSU.out]; exact S5⟩
      subst hm
      by_cases ha : a ≤ x1
      case neg =>
        have had : decide (a ≤ x1) = false := decide_eq_false ha
        have S5 := Lib.hid (S4.out.tr b1.out)
        have HR5 := Lib.hid (HR4.out.below b1.out)
        have hpf : pickKy kind x3 a b (x1, x2, x3) = false := by unfold pickKy; simp only; rw [hkd, had, Bool.and_false, Bool.false_and]
        have HSU : Hid (sumP (pickKy kind x3 a b) (done ++ [((x1, x2, x3), (c1, c2))]) = (s1, s2)) := Lib.hid (by rw [HSN.out, hpf, if_neg Bool.false_ne_true, plus_zero])
        clear hpf
        go_wp2_with fail
        go_roundg (ns.length - (done.length + 1))
        case measure =>
          have := HR5.out.len
          simp at this
          omega
        case rel => exact ⟨done ++ [((x1, x2, x3), (c1, c2))], by simp, HR5, by rw [HSU.out]; exact S5⟩
      have had : decide (a ≤ x1) = true := decide_eq_true ha
      by_cases hb : x1 ≤ b
      case neg =>
        have hbd : decide (x1 ≤ b) = false := decide_eq_false hb
        have S5 := Lib.hid (S4.out.tr b1.out)
        have HR5 := Lib.hid (HR4.out.below b1.out)
        have hpf : pickKy kind x3 a b (x1, x2, x3) = false := by unfold pickKy; simp only; rw [hbd, Bool.and_false]
        have HSU : Hid (sumP (pickKy kind x3 a b) (done ++ [((x1, x2, x3), (c1, c2))]) = (s1, s2)) := Lib.hid (by rw [HSN.out, hpf, if_neg Bool.false_ne_true, plus_zero])
        clear hpf
        go_wp2_with fail
        go_roundg (ns.length - (done.length + 1))
        case measure =>
          have := HR5.out.len
          simp at this
          omega
        case rel => exact ⟨done ++ [((x1, x2, x3), (c1, c2))], by simp, HR5, by rw [HSU.out]; exact S5⟩
      have hbd : decide (x1 ≤ b) = true := decide_eq_true hb
      have hpf : pickKy kind x3 a b (x1, x2, x3) = true := by unfold pickKy; simp only; rw [hkd, had, hbd]; simp
      have HSU := Lib.hid HSN.out
      rw [hpf, if_pos rfl] at HSU
      clear hpf
      go_wp2_with fail
      refine (plus_any (s1, s2) (c1, c2) _ hsok hcs.ok).mono ?_; rintro e w2 ⟨rfl, bb⟩
      have b2 := b1.out.tr bb
      have S5 := Lib.hid (S4.out.tr b2)
      have HR5 := Lib.hid (HR4.out.below b2)
      have hc0 := blk_cell S5.out.sum 0
      have hc1 := blk_cell S5.out.sum 1
      have hf0 := blk_free S5.out.sum 0
      have hf1 := blk_free S5.out.sum 1
      clear bb b2 S4 HR4
      simp only [cV, plus]
      go_wp2_with fail
      go_roundg (ns.length - (done.length + 1))
      case measure =>
        have := HR5.out.len
        simp at this
        omega
      case rel => exact ⟨done ++ [((x1, x2, x3), (c1, c2))], by simp, Lib.hid (HR5.out.set (by have := H0.out.ln; omega) (by omega) _ _), by rw [HSU.out]; exact Lib.hid (S5.out.set _ _)⟩
end Go.Proofs.YthgefcoaaommkaaGreatDoor

namespace Go.Proofs.YthgefcoaaommkaaGreatDoor
open Go.RowKit Go.Gn

def isDg (c : UInt8) : Bool := decide (48 ≤ c.toNat) && decide (c.toNat ≤ 57)
/-- A byte of a site's name. -/
def permB (c : UInt8) : Bool := isLow c || isDg c || decide (c.toNat = 45) || decide (c.toNat = 46)
/-- The byte at k stands where it must not. -/
def badS (s : List UInt8) (k : Nat) : Bool := (decide (k = 0) && !isLow (s.getD k 0)) || (decide (0 < k) && decide ((s.getD k 0).toNat = 46) && decide ((s.getD (k - 1) 0).toNat = 46)) || (decide (k + 1 = s.length) && (decide ((s.getD k 0).toNat = 45) || decide ((s.getD k 0).toNat = 46)))
/-- The error of a site's name. -/
def siteE (s : List UInt8) : Nat := if s = [] then 4 else if 30 < s.length then 5 else if s.all permB = false then 6 else if (List.range s.length).any (badS s) then 12 else 0
theorem siteE_zero {s : List UInt8} (h : siteE s = 0) : s.length ≤ 30 := by
  unfold siteE at h
  split at h
  · cases h
  · split at h
    · cases h
    · omega
theorem take_all_snoc2 (p : UInt8 → Bool) (s : List UInt8) (k : Nat) (d : UInt8) (h : k < s.length) : (s.take (k + 1)).all p = ((s.take k).all p && p (s.getD k d)) := by
  rw [List.take_succ_eq_append_getElem h, List.all_append, List.getD_eq_getElem?_getD, List.getElem?_eq_getElem h]
  simp
set_option maxHeartbeats 1000000 in
theorem asciiLower_any (c : UInt8) (w : World) : Calls Tryz.prog 103 #[.int .u8 c.toNat] w fun e w' => e = .returned (.bool (isLow c)) ∧ w = w' := by
  have hc := c.toNat_lt
  by_cases a0 : 97 ≤ c.toNat <;> by_cases a1 : c.toNat ≤ 122
  all_goals
    first
      | (have V : Hid (isLow c = true) := by (show isLow c = true); simp only [isLow, Bool.and_eq_true, decide_eq_true_eq]; omega)
      | (have V : Hid (isLow c = false) := by (show isLow c = false); simp only [isLow, Bool.and_eq_false_iff, decide_eq_false_iff_not]; omega)
    generalize c.toNat = n at *
    go_enter Tryz.func103, Tryz.ntmps103
    go_wp2
    all_goals first | (exfalso; omega) | skip
    all_goals
      go_ret
      exact ⟨ret_bool (by first | (rw [V.out]; done) | (rw [V.out]; simp; done) | (rw [V.out]; simp; omega)), rfl⟩
set_option maxHeartbeats 1000000 in
theorem asciiDigit_any (c : UInt8) (w : World) : Calls Tryz.prog 129 #[.int .u8 c.toNat] w fun e w' => e = .returned (.bool (isDg c)) ∧ w = w' := by
  have hc := c.toNat_lt
  by_cases a0 : 48 ≤ c.toNat <;> by_cases a1 : c.toNat ≤ 57
  all_goals
    first
      | (have V : Hid (isDg c = true) := by (show isDg c = true); simp only [isDg, Bool.and_eq_true, decide_eq_true_eq]; omega)
      | (have V : Hid (isDg c = false) := by (show isDg c = false); simp only [isDg, Bool.and_eq_false_iff, decide_eq_false_iff_not]; omega)
    generalize c.toNat = n at *
    go_enter Tryz.func129, Tryz.ntmps129
    go_wp2
    all_goals first | (exfalso; omega) | skip
    all_goals
      go_ret
      exact ⟨ret_bool (by first | (rw [V.out]; done) | (rw [V.out]; simp; done) | (rw [V.out]; simp; omega)), rfl⟩
set_option maxRecDepth 100000 in
set_option maxHeartbeats 2000000 in
theorem isPermitted_any (c : UInt8) (w : World) : Calls Tryz.prog 102 #[.int .u8 c.toNat] w fun e w' => e = .returned (.bool (permB c)) ∧ w = w' := by
  have hc := c.toNat_lt
  have h1 := asciiLower_any c w
  have h2 := asciiDigit_any c w
  cases hx : isLow c with
  | true =>
    rw [hx] at h1
    have V : Hid (permB c = true) := by (show permB c = _); unfold permB; rw [hx]; rfl
    clear hx h2
    generalize permB c = v at *
    generalize c.toNat = n at *
    go_enter Tryz.func102, Tryz.ntmps102
    go_wp2_with (go_at_call 103; refine h1.mono ?_; rintro e w1 ⟨rfl, rfl⟩)
    all_goals first | (exfalso; omega) | skip
    all_goals
      go_ret
      exact ⟨ret_bool V.out.symm, rfl⟩
  | false =>
    rw [hx] at h1
    cases hy : isDg c with
    | true =>
      rw [hy] at h2
      have V : Hid (permB c = true) := by (show permB c = _); unfold permB; rw [hx, hy]; rfl
      clear hx hy
      generalize permB c = v at *
      generalize c.toNat = n at *
      go_enter Tryz.func102, Tryz.ntmps102
      go_wp2_with (first | (go_at_call 103; refine h1.mono ?_; rintro e w1 ⟨rfl, rfl⟩) | (go_at_call 129; refine h2.mono ?_; rintro e w1 ⟨rfl, rfl⟩))
      all_goals first | (exfalso; omega) | skip
      all_goals
        go_ret
        exact ⟨ret_bool V.out.symm, rfl⟩
    | false =>
      rw [hy] at h2
      by_cases e5 : c.toNat = 45
      · have b5 : ((c.toNat : Int) == 45) = true := by rw [e5]; rfl
        have V : Hid (permB c = true) := by (show permB c = _); unfold permB; rw [hx, hy, decide_eq_true e5]; rfl
        clear hx hy e5
        generalize permB c = v at *
        generalize c.toNat = n at *
        go_enter Tryz.func102, Tryz.ntmps102
        go_wp2_with (first | (go_at_call 103; refine h1.mono ?_; rintro e w1 ⟨rfl, rfl⟩) | (go_at_call 129; refine h2.mono ?_; rintro e w1 ⟨rfl, rfl⟩))
        all_goals first | (exfalso; omega) | skip
        all_goals
          go_ret
          exact ⟨ret_bool V.out.symm, rfl⟩
      · have b5 : ((c.toNat : Int) == 45) = false := by simp; omega
        by_cases e6 : c.toNat = 46
        · have b6 : ((c.toNat : Int) == 46) = true := by rw [e6]; rfl
          have V : Hid (permB c = true) := by (show permB c = _); unfold permB; rw [hx, hy, decide_eq_false e5, decide_eq_true e6]; rfl
          clear hx hy e6
          generalize permB c = v at *
          generalize c.toNat = n at *
          go_enter Tryz.func102, Tryz.ntmps102
          go_wp2_with (first | (go_at_call 103; refine h1.mono ?_; rintro e w1 ⟨rfl, rfl⟩) | (go_at_call 129; refine h2.mono ?_; rintro e w1 ⟨rfl, rfl⟩))
          all_goals first | (exfalso; omega) | skip
          all_goals
            go_ret
            exact ⟨ret_bool V.out.symm, rfl⟩
        · have b6 : ((c.toNat : Int) == 46) = false := by simp; omega
          have V : Hid (permB c = false) := by (show permB c = _); unfold permB; rw [hx, hy, decide_eq_false e5, decide_eq_false e6]; rfl
          clear hx hy
          generalize permB c = v at *
          generalize c.toNat = n at *
          go_enter Tryz.func102, Tryz.ntmps102
          go_wp2_with (first | (go_at_call 103; refine h1.mono ?_; rintro e w1 ⟨rfl, rfl⟩) | (go_at_call 129; refine h2.mono ?_; rintro e w1 ⟨rfl, rfl⟩))
          all_goals first | (exfalso; omega) | skip
          all_goals
            go_ret
            exact ⟨ret_bool V.out.symm, rfl⟩
set_option maxRecDepth 100000 in
set_option maxHeartbeats 8000000 in
theorem site_any (s : List UInt8) (w : World) (hl : s.length ≤ maxLen) : Calls Tryz.prog 79 #[enS s] w fun e w' => (∃ at_ : Int, e = .returned (.tuple #[.int .i64 at_, .int .i64 (siteE s : Nat)])) ∧ w = w' := by
  unfold maxLen at hl
  by_cases h0 : s = []
  · subst h0
    go_enter Tryz.func79, Tryz.ntmps79
    go_wp2_with fail
    go_ret2
    exact ⟨⟨_, rfl⟩, rfl⟩
  have hpos : 0 < s.length := List.length_pos_iff.2 h0
  have hem : s.isEmpty = false := by simp [h0]
  by_cases h30 : 30 < s.length
  · have V : Hid (siteE s = 5) := by (show siteE s = 5); unfold siteE; rw [if_neg h0, if_pos h30]
    generalize siteE s = v at *
    clear h0
    go_enter Tryz.func79, Tryz.ntmps79
    go_wp2_with fail
    go_ret2
    exact ⟨⟨_, by rw [V.out]; rfl⟩, rfl⟩
  have V0 : Hid (siteE s = if s.all permB = false then 6 else if (List.range s.length).any (badS s) then 12 else 0) := by (show siteE s = _); unfold siteE; rw [if_neg h0, if_neg h30]
  generalize siteE s = v at *
  clear h0
  go_enter Tryz.func79, Tryz.ntmps79
  go_wp2_with fail
  go_loopg [4, 17] s.length (fun gg _ iv wr => ∃ k : Nat, k ≤ s.length ∧ s.length - k ≤ gg ∧ iv = .int .i64 k ∧ w = wr ∧ Hid ((s.take k).all permB = true))
  case atStart => exact ⟨0, by omega, by omega, rfl, rfl, Lib.hid (by simp)⟩
  case round =>
    obtain ⟨k, hk, hg, rfl, rfl, A0⟩ := hrel
    by_cases hlt : k < s.length
    · have bg := bget (t := s) (p := k) (show k < s.toArray.size by simpa using hlt) hlt
      have hsn := take_all_snoc2 permB s k 0 hlt
      obtain ⟨c, hb⟩ : ∃ b, s.getD k 0 = b := ⟨_, rfl⟩
      rw [hb] at bg hsn
      have HB := Lib.hid hb; clear hb
      have HS := Lib.hid hsn; clear hsn
      have hc := c.toNat_lt
      have hp := isPermitted_any c w
      cases hq : permB c with
      | true =>
        rw [hq] at hp
        have HQ := Lib.hid hq; clear hq
        go_wp2_with (go_at_call 102; refine hp.mono ?_; rintro e w1 ⟨rfl, rfl⟩)
        go_roundg (s.length - (k + 1))
        case measure => omega
        case rel => exact ⟨k + 1, by omega, by omega, by go_num, rfl, (show (s.take (k + 1)).all permB = true by rw [HS.out, A0.out, HQ.out]; rfl)⟩
      | false =>
        rw [hq] at hp
        have HQ := Lib.hid hq; clear hq
        go_wp2_with (go_at_call 102; refine hp.mono ?_; rintro e w1 ⟨rfl, rfl⟩)
        go_ret2
        have hf : s.all permB = false := List.all_eq_false.2 ⟨c, by rw [← HB.out]; simp [hlt], by rw [HQ.out]; exact Bool.false_ne_true⟩
        exact ⟨⟨_, by rw [V0.out, if_pos hf]; rfl⟩, rfl⟩
    · obtain rfl : k = s.length := by omega
      rw [List.take_length] at A0
      have V1 : Hid (v = if (List.range s.length).any (badS s) then 12 else 0) := by (show v = _); rw [V0.out, if_neg (by rw [A0.out]; exact Bool.false_ne_true.symm)]
      clear V0 A0 hg
      go_wp2_with fail
      go_loopg [5, 6, 7, 29] s.length (fun gg _ _ _ iv wr => ∃ k : Nat, k ≤ s.length ∧ s.length - k ≤ gg ∧ iv = .int .i64 k ∧ w = wr ∧ Hid (∀ j, j < k → badS s j = false))
      case atStart => exact ⟨0, by omega, by omega, rfl, rfl, Lib.hid (by simp)⟩
      case round =>
        obtain ⟨k, hk, hg, rfl, rfl, A0⟩ := hrel
        by_cases hlt : k < s.length
        · have bg := bget (t := s) (p := k) (show k < s.toArray.size by simpa using hlt) hlt
          obtain ⟨c, hb⟩ : ∃ b, s.getD k 0 = b := ⟨_, rfl⟩
          have HV : Hid (badS s k = ((decide (k = 0) && !isLow c) || (decide (0 < k) && decide (c.toNat = 46) && decide ((s.getD (k - 1) 0).toNat = 46)) || (decide (k + 1 = s.length) && (decide (c.toNat = 45) || decide (c.toNat = 46))))) := by (show badS s k = _); unfold badS; rw [hb]
          rw [hb] at bg
          clear hb
          have hc := c.toNat_lt
          have HN : Hid (badS s k = false → ∀ j, j < k + 1 → badS s j = false) := Lib.hid fun h j hj => by
            rcases Nat.lt_or_ge j k with h2 | h2
            · exact A0.out j h2
            · rw [show j = k by omega]; exact h
          have HY : Hid (badS s k = true → v = 12) := Lib.hid fun h => by rw [V1.out, if_pos (List.any_eq_true.2 ⟨k, List.mem_range.2 hlt, h⟩)]
          generalize badS s k = bad at *
          have hlow : isLow c = (decide (97 ≤ c.toNat) && decide (c.toNat ≤ 122)) := rfl
          have HL := Lib.hid hlow
          clear hlow
          have hlo := asciiLower_any c w
          by_cases hk0 : k = 0
          · subst hk0
            by_cases hw : 97 ≤ c.toNat ∧ c.toNat ≤ 122
            · obtain ⟨l0, l1⟩ := hw
              have hv : isLow c = true := by rw [HL.out]; simp [l0, l1]
              rw [hv] at hlo
              have HR : Hid (bad = false) := by (show bad = _); rw [HV.out]; rw [hv]; simp; omega
              first | (have b5 : ((c.toNat : Int) == 45) = false := by simp; omega) | (have b5 : ((c.toNat : Int) == 45) = true := by simp; omega) | skip
              first | (have b6 : ((c.toNat : Int) == 46) = false := by simp; omega) | (have b6 : ((c.toNat : Int) == 46) = true := by simp; omega) | skip
              clear HV
              go_wp2_with (first | (go_at_call 103; refine hlo.mono ?_; rintro e w1 ⟨rfl, rfl⟩) | go_in)
              all_goals first | (exfalso; omega) | skip
              all_goals
                go_roundg (s.length - (0 + 1))
                case measure => omega
                case rel => exact ⟨0 + 1, by omega, by omega, by go_num, rfl, Lib.hid (HN.out HR.out)⟩
            · have hv : isLow c = false := by rw [HL.out]; simp; omega
              rw [hv] at hlo
              have HR : Hid (bad = true) := by (show bad = _); rw [HV.out]; rw [hv]; simp
              first | (have b5 : ((c.toNat : Int) == 45) = false := by simp; omega) | (have b5 : ((c.toNat : Int) == 45) = true := by simp; omega) | skip
              first | (have b6 : ((c.toNat : Int) == 46) = false := by simp; omega) | (have b6 : ((c.toNat : Int) == 46) = true := by simp; omega) | skip
              clear HV
              go_wp2_with (first | (go_at_call 103; refine hlo.mono ?_; rintro e w1 ⟨rfl, rfl⟩) | go_in)
              all_goals first | (exfalso; omega) | skip
              all_goals
                go_ret2
                exact ⟨⟨_, by rw [HY.out HR.out]; rfl⟩, rfl⟩
          · have hkp : 0 < k := by omega
            have bp := bget (t := s) (p := k - 1) (show k - 1 < s.toArray.size by simp; omega) (by omega)
            obtain ⟨d, hd⟩ : ∃ b, s.getD (k - 1) 0 = b := ⟨_, rfl⟩
            rw [hd] at bp HV
            have HD := Lib.hid hd; clear hd
            have hdl := d.toNat_lt
            by_cases e6 : c.toNat = 46
            · have ec : c = 46 := UInt8.toNat_inj.1 (by simpa using e6)
              by_cases d6 : d.toNat = 46
              · have HR : Hid (bad = true) := by (show bad = _); rw [HV.out]; simp [e6, d6, hkp]
                first | (have b5 : ((c.toNat : Int) == 45) = false := by simp; omega) | (have b5 : ((c.toNat : Int) == 45) = true := by simp; omega) | skip
                first | (have b6 : ((c.toNat : Int) == 46) = false := by simp; omega) | (have b6 : ((c.toNat : Int) == 46) = true := by simp; omega) | skip
                clear HV
                go_wp2_with (first | (go_at_call 103; refine hlo.mono ?_; rintro e w1 ⟨rfl, rfl⟩) | go_in)
                all_goals first | (exfalso; omega) | skip
                all_goals
                  go_ret2
                  exact ⟨⟨_, by rw [HY.out HR.out]; rfl⟩, rfl⟩
              · by_cases kl : k + 1 = s.length
                · have HR : Hid (bad = true) := by (show bad = _); rw [HV.out]; simp [e6, kl]
                  first | (have b5 : ((c.toNat : Int) == 45) = false := by simp; omega) | (have b5 : ((c.toNat : Int) == 45) = true := by simp; omega) | skip
                  first | (have b6 : ((c.toNat : Int) == 46) = false := by simp; omega) | (have b6 : ((c.toNat : Int) == 46) = true := by simp; omega) | skip
                  clear HV
                  go_wp2_with (first | (go_at_call 103; refine hlo.mono ?_; rintro e w1 ⟨rfl, rfl⟩) | go_in)
                  all_goals first | (exfalso; omega) | skip
                  all_goals
                    go_ret2
                    exact ⟨⟨_, by rw [HY.out HR.out]; rfl⟩, rfl⟩
                · have HR : Hid (bad = false) := by (show bad = _); rw [HV.out]; simp [d6, kl, hk0]
                  first | (have b5 : ((c.toNat : Int) == 45) = false := by simp; omega) | (have b5 : ((c.toNat : Int) == 45) = true := by simp; omega) | skip
                  first | (have b6 : ((c.toNat : Int) == 46) = false := by simp; omega) | (have b6 : ((c.toNat : Int) == 46) = true := by simp; omega) | skip
                  clear HV
                  go_wp2_with (first | (go_at_call 103; refine hlo.mono ?_; rintro e w1 ⟨rfl, rfl⟩) | go_in)
                  all_goals first | (exfalso; omega) | skip
                  all_goals
                    go_roundg (s.length - (k + 1))
                    case measure => omega
                    case rel => exact ⟨k + 1, by omega, by omega, by go_num, rfl, Lib.hid (HN.out HR.out)⟩
            · by_cases kl : k + 1 = s.length
              · by_cases e5 : c.toNat = 45
                · have HR : Hid (bad = true) := by (show bad = _); rw [HV.out]; simp [e5, kl]
                  first | (have b5 : ((c.toNat : Int) == 45) = false := by simp; omega) | (have b5 : ((c.toNat : Int) == 45) = true := by simp; omega) | skip
                  first | (have b6 : ((c.toNat : Int) == 46) = false := by simp; omega) | (have b6 : ((c.toNat : Int) == 46) = true := by simp; omega) | skip
                  clear HV
                  go_wp2_with (first | (go_at_call 103; refine hlo.mono ?_; rintro e w1 ⟨rfl, rfl⟩) | go_in)
                  all_goals first | (exfalso; omega) | skip
                  all_goals
                    go_ret2
                    exact ⟨⟨_, by rw [HY.out HR.out]; rfl⟩, rfl⟩
                · have HR : Hid (bad = false) := by (show bad = _); rw [HV.out]; simp [e5, e6, hk0]
                  first | (have b5 : ((c.toNat : Int) == 45) = false := by simp; omega) | (have b5 : ((c.toNat : Int) == 45) = true := by simp; omega) | skip
                  first | (have b6 : ((c.toNat : Int) == 46) = false := by simp; omega) | (have b6 : ((c.toNat : Int) == 46) = true := by simp; omega) | skip
                  clear HV
                  go_wp2_with (first | (go_at_call 103; refine hlo.mono ?_; rintro e w1 ⟨rfl, rfl⟩) | go_in)
                  all_goals first | (exfalso; omega) | skip
                  all_goals
                    go_roundg (s.length - (k + 1))
                    case measure => omega
                    case rel => exact ⟨k + 1, by omega, by omega, by go_num, rfl, Lib.hid (HN.out HR.out)⟩
              · have HR : Hid (bad = false) := by (show bad = _); rw [HV.out]; simp [e6, kl, hk0]
                first | (have b5 : ((c.toNat : Int) == 45) = false := by simp; omega) | (have b5 : ((c.toNat : Int) == 45) = true := by simp; omega) | skip
                first | (have b6 : ((c.toNat : Int) == 46) = false := by simp; omega) | (have b6 : ((c.toNat : Int) == 46) = true := by simp; omega) | skip
                clear HV
                go_wp2_with (first | (go_at_call 103; refine hlo.mono ?_; rintro e w1 ⟨rfl, rfl⟩) | go_in)
                all_goals first | (exfalso; omega) | skip
                all_goals
                  go_roundg (s.length - (k + 1))
                  case measure => omega
                  case rel => exact ⟨k + 1, by omega, by omega, by go_num, rfl, Lib.hid (HN.out HR.out)⟩
        · obtain rfl : k = s.length := by omega
          have hf : ¬ (List.range s.length).any (badS s) = true := fun h => by
            obtain ⟨j, hj, e⟩ := List.any_eq_true.1 h
            rw [A0.out j (List.mem_range.1 hj)] at e
            cases e
          have HF := Lib.hid hf
          clear hf
          go_wp2_with fail
          go_ret2
          exact ⟨⟨_, by rw [V1.out, if_neg HF.out]; rfl⟩, rfl⟩
set_option maxRecDepth 100000 in
set_option maxHeartbeats 8000000 in
theorem refSite_any (s : List UInt8) (w : World) (hl : s.length ≤ maxLen) : Calls Tryz.prog 77 #[enS s] w fun e w' => (∃ at_ : Int, e = .returned (.tuple #[.int .i64 at_, .int .i64 (siteE s : Nat)])) ∧ w = w' := by
  unfold maxLen at hl
  by_cases h0 : s = []
  · subst h0
    go_enter Tryz.func77, Tryz.ntmps77
    go_wp2_with fail
    go_ret2
    exact ⟨⟨_, rfl⟩, rfl⟩
  have hpos : 0 < s.length := List.length_pos_iff.2 h0
  have hem : s.isEmpty = false := by simp [h0]
  by_cases h30 : 30 < s.length
  · have V : Hid (siteE s = 5) := by (show siteE s = 5); unfold siteE; rw [if_neg h0, if_pos h30]
    generalize siteE s = v at *
    clear h0
    go_enter Tryz.func77, Tryz.ntmps77
    go_wp2_with fail
    go_ret2
    exact ⟨⟨_, by rw [V.out]; rfl⟩, rfl⟩
  have V0 : Hid (siteE s = if s.all permB = false then 6 else if (List.range s.length).any (badS s) then 12 else 0) := by (show siteE s = _); unfold siteE; rw [if_neg h0, if_neg h30]
  generalize siteE s = v at *
  clear h0
  go_enter Tryz.func77, Tryz.ntmps77
  go_wp2_with fail
  go_loopg [4, 5] s.length (fun gg iv _ wr => ∃ k : Nat, k ≤ s.length ∧ s.length - k ≤ gg ∧ iv = .int .i64 k ∧ w = wr ∧ Hid ((s.take k).all permB = true))
  case atStart => exact ⟨0, by omega, by omega, rfl, rfl, Lib.hid (by simp)⟩
  case round =>
    obtain ⟨k, hk, hg, rfl, rfl, A0⟩ := hrel
    by_cases hlt : k < s.length
    · have bg := bget (t := s) (p := k) (show k < s.toArray.size by simpa using hlt) hlt
      have hsn := take_all_snoc2 permB s k 0 hlt
      obtain ⟨c, hb⟩ : ∃ b, s.getD k 0 = b := ⟨_, rfl⟩
      rw [hb] at bg hsn
      have HB := Lib.hid hb; clear hb
      have HS := Lib.hid hsn; clear hsn
      have hc := c.toNat_lt
      have HV : Hid (permB c = ((decide (97 ≤ c.toNat) && decide (c.toNat ≤ 122)) || (decide (48 ≤ c.toNat) && decide (c.toNat ≤ 57)) || decide (c.toNat = 45) || decide (c.toNat = 46))) := Lib.hid rfl
      obtain ⟨q, hq⟩ : ∃ q, permB c = q := ⟨_, rfl⟩
      rw [hq] at HV HS
      have HQ : Hid (q = false → s.all permB = false) := Lib.hid fun e => List.all_eq_false.2 ⟨c, by rw [← HB.out]; simp [hlt], by rw [hq, e]; exact Bool.false_ne_true⟩
      clear hq
      by_cases a0 : 97 ≤ c.toNat <;> by_cases a1 : c.toNat ≤ 122 <;> by_cases b0 : 48 ≤ c.toNat <;> by_cases b1 : c.toNat ≤ 57 <;> by_cases e0 : c.toNat = 45 <;> by_cases e1 : c.toNat = 46
      all_goals first | (exfalso; omega) | skip
      all_goals
        first | (have Q : Hid (q = true) := by (show q = true); rw [HV.out]; simp only [a0, a1, b0, b1, e0, e1, decide_true, decide_false]; decide) | (have Q : Hid (q = false) := by (show q = false); rw [HV.out]; simp only [a0, a1, b0, b1, e0, e1, decide_true, decide_false]; decide)
        first | (have b5 : ((c.toNat : Int) == 45) = false := by simp; omega) | (have b5 : ((c.toNat : Int) == 45) = true := by simp; omega)
        first | (have b6 : ((c.toNat : Int) == 46) = false := by simp; omega) | (have b6 : ((c.toNat : Int) == 46) = true := by simp; omega)
        try (have d57 : decide ((c.toNat : Int) ≤ 57) = false := decide_eq_false (by omega))
        try (have d122 : decide ((c.toNat : Int) ≤ 122) = false := decide_eq_false (by omega))
        clear HV e0 e1
        go_wp2_with fail
        all_goals first | (exfalso; omega) | skip
      all_goals first
        | (go_roundg (s.length - (k + 1))
           case measure => omega
           case rel => exact ⟨k + 1, by omega, by omega, by go_num, rfl, (show (s.take (k + 1)).all permB = true by rw [HS.out, A0.out, Q.out]; rfl)⟩)
        | (go_ret2
           have hf := HQ.out Q.out
           exact ⟨⟨_, by rw [V0.out, if_pos hf]; rfl⟩, rfl⟩)
    · obtain rfl : k = s.length := by omega
      rw [List.take_length] at A0
      have V1 : Hid (v = if (List.range s.length).any (badS s) then 12 else 0) := by (show v = _); rw [V0.out, if_neg (by rw [A0.out]; exact Bool.false_ne_true.symm)]
      clear V0 A0 hg
      go_wp2_with fail
      go_loopg [6, 7, 8] s.length (fun gg iv _ _ wr => ∃ k : Nat, k ≤ s.length ∧ s.length - k ≤ gg ∧ iv = .int .i64 k ∧ w = wr ∧ Hid (∀ j, j < k → badS s j = false))
      case atStart => exact ⟨0, by omega, by omega, rfl, rfl, Lib.hid (by simp)⟩
      case round =>
        obtain ⟨k, hk, hg, rfl, rfl, A0⟩ := hrel
        by_cases hlt : k < s.length
        · have bg := bget (t := s) (p := k) (show k < s.toArray.size by simpa using hlt) hlt
          obtain ⟨c, hb⟩ : ∃ b, s.getD k 0 = b := ⟨_, rfl⟩
          have HV : Hid (badS s k = ((decide (k = 0) && !isLow c) || (decide (0 < k) && decide (c.toNat = 46) && decide ((s.getD (k - 1) 0).toNat = 46)) || (decide (k + 1 = s.length) && (decide (c.toNat = 45) || decide (c.toNat = 46))))) := by (show badS s k = _); unfold badS; rw [hb]
          rw [hb] at bg
          clear hb
          have hc := c.toNat_lt
          have HN : Hid (badS s k = false → ∀ j, j < k + 1 → badS s j = false) := Lib.hid fun h j hj => by
            rcases Nat.lt_or_ge j k with h2 | h2
            · exact A0.out j h2
            · rw [show j = k by omega]; exact h
          have HY : Hid (badS s k = true → v = 12) := Lib.hid fun h => by rw [V1.out, if_pos (List.any_eq_true.2 ⟨k, List.mem_range.2 hlt, h⟩)]
          generalize badS s k = bad at *
          have hlow : isLow c = (decide (97 ≤ c.toNat) && decide (c.toNat ≤ 122)) := rfl
          have HL := Lib.hid hlow
          clear hlow
          by_cases hk0 : k = 0
          · subst hk0
            by_cases hw : 97 ≤ c.toNat ∧ c.toNat ≤ 122
            · obtain ⟨l0, l1⟩ := hw
              have hv : isLow c = true := by rw [HL.out]; simp [l0, l1]
              have HR : Hid (bad = false) := by (show bad = _); rw [HV.out]; rw [hv]; simp; omega
              first | (have b5 : ((c.toNat : Int) == 45) = false := by simp; omega) | (have b5 : ((c.toNat : Int) == 45) = true := by simp; omega) | skip
              first | (have b6 : ((c.toNat : Int) == 46) = false := by simp; omega) | (have b6 : ((c.toNat : Int) == 46) = true := by simp; omega) | skip
              clear HV
              go_wp2_with fail
              all_goals first | (exfalso; omega) | skip
              all_goals
                go_roundg (s.length - (0 + 1))
                case measure => omega
                case rel => exact ⟨0 + 1, by omega, by omega, by go_num, rfl, Lib.hid (HN.out HR.out)⟩
            · have hv : isLow c = false := by rw [HL.out]; simp; omega
              have hw1 : ¬ 97 ≤ c.toNat ∨ ¬ c.toNat ≤ 122 := by omega
              by_cases l0 : 97 ≤ c.toNat <;> by_cases l1 : c.toNat ≤ 122
              all_goals first | (exfalso; omega) | skip
              all_goals
                have HR : Hid (bad = true) := by (show bad = _); rw [HV.out]; rw [hv]; simp
                first | (have b5 : ((c.toNat : Int) == 45) = false := by simp; omega) | (have b5 : ((c.toNat : Int) == 45) = true := by simp; omega) | skip
                first | (have b6 : ((c.toNat : Int) == 46) = false := by simp; omega) | (have b6 : ((c.toNat : Int) == 46) = true := by simp; omega) | skip
                clear HV
                go_wp2_with fail
                all_goals first | (exfalso; omega) | skip
                all_goals
                  go_ret2
                  exact ⟨⟨_, by rw [HY.out HR.out]; rfl⟩, rfl⟩
          · have hkp : 0 < k := by omega
            have bp := bget (t := s) (p := k - 1) (show k - 1 < s.toArray.size by simp; omega) (by omega)
            obtain ⟨d, hd⟩ : ∃ b, s.getD (k - 1) 0 = b := ⟨_, rfl⟩
            rw [hd] at bp HV
            have HD := Lib.hid hd; clear hd
            have hdl := d.toNat_lt
            by_cases e6 : c.toNat = 46
            · have ec : c = 46 := UInt8.toNat_inj.1 (by simpa using e6)
              by_cases d6 : d.toNat = 46
              · have HR : Hid (bad = true) := by (show bad = _); rw [HV.out]; simp [e6, d6, hkp]
                first | (have b5 : ((c.toNat : Int) == 45) = false := by simp; omega) | (have b5 : ((c.toNat : Int) == 45) = true := by simp; omega) | skip
                first | (have b6 : ((c.toNat : Int) == 46) = false := by simp; omega) | (have b6 : ((c.toNat : Int) == 46) = true := by simp; omega) | skip
                clear HV
                go_wp2_with fail
                all_goals first | (exfalso; omega) | skip
                all_goals
                  go_ret2
                  exact ⟨⟨_, by rw [HY.out HR.out]; rfl⟩, rfl⟩
              · by_cases kl : k + 1 = s.length
                · have HR : Hid (bad = true) := by (show bad = _); rw [HV.out]; simp [e6, kl]
                  first | (have b5 : ((c.toNat : Int) == 45) = false := by simp; omega) | (have b5 : ((c.toNat : Int) == 45) = true := by simp; omega) | skip
                  first | (have b6 : ((c.toNat : Int) == 46) = false := by simp; omega) | (have b6 : ((c.toNat : Int) == 46) = true := by simp; omega) | skip
                  clear HV
                  go_wp2_with fail
                  all_goals first | (exfalso; omega) | skip
                  all_goals
                    go_ret2
                    exact ⟨⟨_, by rw [HY.out HR.out]; rfl⟩, rfl⟩
                · have HR : Hid (bad = false) := by (show bad = _); rw [HV.out]; simp [d6, kl, hk0]
                  first | (have b5 : ((c.toNat : Int) == 45) = false := by simp; omega) | (have b5 : ((c.toNat : Int) == 45) = true := by simp; omega) | skip
                  first | (have b6 : ((c.toNat : Int) == 46) = false := by simp; omega) | (have b6 : ((c.toNat : Int) == 46) = true := by simp; omega) | skip
                  clear HV
                  go_wp2_with fail
                  all_goals first | (exfalso; omega) | skip
                  all_goals
                    go_roundg (s.length - (k + 1))
                    case measure => omega
                    case rel => exact ⟨k + 1, by omega, by omega, by go_num, rfl, Lib.hid (HN.out HR.out)⟩
            · by_cases kl : k + 1 = s.length
              · by_cases e5 : c.toNat = 45
                · have HR : Hid (bad = true) := by (show bad = _); rw [HV.out]; simp [e5, kl]
                  first | (have b5 : ((c.toNat : Int) == 45) = false := by simp; omega) | (have b5 : ((c.toNat : Int) == 45) = true := by simp; omega) | skip
                  first | (have b6 : ((c.toNat : Int) == 46) = false := by simp; omega) | (have b6 : ((c.toNat : Int) == 46) = true := by simp; omega) | skip
                  clear HV
                  go_wp2_with fail
                  all_goals first | (exfalso; omega) | skip
                  all_goals
                    go_ret2
                    exact ⟨⟨_, by rw [HY.out HR.out]; rfl⟩, rfl⟩
                · have HR : Hid (bad = false) := by (show bad = _); rw [HV.out]; simp [e5, e6, hk0]
                  first | (have b5 : ((c.toNat : Int) == 45) = false := by simp; omega) | (have b5 : ((c.toNat : Int) == 45) = true := by simp; omega) | skip
                  first | (have b6 : ((c.toNat : Int) == 46) = false := by simp; omega) | (have b6 : ((c.toNat : Int) == 46) = true := by simp; omega) | skip
                  clear HV
                  go_wp2_with fail
                  all_goals first | (exfalso; omega) | skip
                  all_goals
                    go_roundg (s.length - (k + 1))
                    case measure => omega
                    case rel => exact ⟨k + 1, by omega, by omega, by go_num, rfl, Lib.hid (HN.out HR.out)⟩
              · have HR : Hid (bad = false) := by (show bad = _); rw [HV.out]; simp [e6, kl, hk0]
                first | (have b5 : ((c.toNat : Int) == 45) = false := by simp; omega) | (have b5 : ((c.toNat : Int) == 45) = true := by simp; omega) | skip
                first | (have b6 : ((c.toNat : Int) == 46) = false := by simp; omega) | (have b6 : ((c.toNat : Int) == 46) = true := by simp; omega) | skip
                clear HV
                go_wp2_with fail
                all_goals first | (exfalso; omega) | skip
                all_goals
                  go_roundg (s.length - (k + 1))
                  case measure => omega
                  case rel => exact ⟨k + 1, by omega, by omega, by go_num, rfl, Lib.hid (HN.out HR.out)⟩
        · obtain rfl : k = s.length := by omega
          have hf : ¬ (List.range s.length).any (badS s) = true := fun h => by
            obtain ⟨j, hj, e⟩ := List.any_eq_true.1 h
            rw [A0.out j (List.mem_range.1 hj)] at e
            cases e
          have HF := Lib.hid hf
          clear hf
          go_wp2_with fail
          go_ret2
          exact ⟨⟨_, by rw [V1.out, if_neg HF.out]; rfl⟩, rfl⟩
end Go.Proofs.YthgefcoaaommkaaGreatDoor

namespace Go.Proofs.YthgefcoaaommkaaGreatDoor
open Go.RowKit Go.Gn Go.Sr Go.Maps

/-- Is a number a minute? -/
def vld (m : Int) : Bool := decide (0 ≤ m ∧ m ≤ 105190559)
theorem vld_true {m : Int} (h : vld m = true) : 0 ≤ m ∧ m ≤ 105190559 := by simpa [vld] using h
theorem vld_mk {m : Int} (h : 0 ≤ m ∧ m ≤ 105190559) : vld m = true := by simpa [vld] using h
theorem vld_mkn {m : Int} (h : m < 0 ∨ 105190559 < m) : vld m = false := by simp [vld]; omega
set_option maxHeartbeats 400000 in
theorem valid_any (m : Int) (w : World) : Calls Tryz.prog 92 #[.int .i64 m] w fun e w' => e = .returned (.bool (vld m)) ∧ w = w' := by
  by_cases a : 0 ≤ m
  · by_cases b : m ≤ 105190559
    · have A := Lib.hid (vld_mk ⟨a, b⟩)
      go_enter Tryz.func92, Tryz.ntmps92
      go_wp2
      go_ret
      exact ⟨ret_bool A.out.symm, rfl⟩
    · have A := Lib.hid (vld_mkn (m := m) (by omega))
      go_enter Tryz.func92, Tryz.ntmps92
      go_wp2
      go_ret
      exact ⟨ret_bool A.out.symm, rfl⟩
  · have A := Lib.hid (vld_mkn (m := m) (by omega))
    have a' : m < 0 := by omega
    go_enter Tryz.func92, Tryz.ntmps92
    go_wp2
    go_ret
    exact ⟨ret_bool A.out.symm, rfl⟩
set_option maxHeartbeats 400000 in
theorem day_yes (m : Int) (w : World) (h0 : 0 ≤ m) (h1 : m ≤ 105190559) : Calls Tryz.prog 66 #[.int .i64 m] w fun e w' => e = .returned (.tuple #[.int .i64 (m / 1440), .int .i64 0]) ∧ w = w' := by
  have A := vld_mk ⟨h0, h1⟩
  go_enter Tryz.func66, Tryz.ntmps66
  go_wp2_with (go_at_call 92; refine (valid_any _ _).mono ?_; rintro e w' ⟨rfl, rfl⟩)
  go_ret2
  exact ⟨rfl, rfl⟩
/-- The size's number of digits, as the library counts them. -/
theorem blen_lib {n : Int} (h : n ≤ 65536) : ((Lib.bitLen n.toNat : Nat) : Int) = blen n := by
  have hh : ∀ f x : Nat, x < 2 ^ f → Lib.bitLenAux f x = if x = 0 then 0 else x.log2 + 1 := by
    intro f
    induction f with
    | zero => intro x hx; have : x = 0 := by simpa using hx
              subst this; rfl
    | succ f ih =>
      intro x hx
      unfold Lib.bitLenAux
      by_cases h0 : x = 0
      · rw [if_pos h0, if_pos h0]
      · rw [if_neg h0, if_neg h0, ih (x / 2) (by rw [Nat.pow_succ] at hx; omega)]
        by_cases h1 : x / 2 = 0
        · rw [if_pos h1]
          have : x = 1 := by omega
          subst this; rfl
        · rw [if_neg h1, Nat.log2_def x, if_pos (by omega)]; omega
  unfold Lib.bitLen blen
  rw [hh 64 n.toNat (by omega)]
  by_cases h0 : n ≤ 0
  · rw [if_pos h0, if_pos (by omega)]
  · rw [if_neg h0, if_neg (by omega)]
section
variable {P : Program} {C : World → Prop} {Q : Act → Prop} {a : Act} {o : Oper}
/-- An index in a quiet walk, by its run equation. -/
theorem quiet_index {K : Act → Prop} (t : TypeId) (x i : Operand) (ho : o.op = .index t x i) (v : Value) (hr : ∀ w, (Instr.index t (a.eval x) (a.eval i)).run P w = .ok v w) (hk : K (a.put o.dst v)) : o.quiet P a C K :=
  ⟨_, fun w _ => by
    unfold Oper.quietAt execOp
    simp only [ho, Sem.run_bind, Sem.run_pure, hr, Result.andThen_ok]
    exact ⟨rfl, rfl⟩, hk⟩
end
theorem run_cat (a b : List UInt8) (h : a.length + b.length ≤ 1000000) (u : World) : (Op.stringOp .add ⟨a.toArray⟩ ⟨b.toArray⟩).run Tryz.prog u = .ok (enS (a ++ b)) u := by
  have e : IntKind.i64.max = 9223372036854775807 := by decide
  have hs : ¬ (((⟨a.toArray⟩ : ByteArray).size + (⟨b.toArray⟩ : ByteArray).size : Nat) : Int) > IntKind.i64.max := by
    rw [e]
    show ¬ ((a.toArray.size + b.toArray.size : Nat) : Int) > _
    simp; omega
  unfold Op.stringOp
  simp only
  rw [if_neg hs, bcat]
  rfl
/-- A sum of texts in a quiet walk. -/
theorem quiet_cat {C : World → Prop} {K : Act → Prop} {a : Act} {o : Oper} (x y : Operand) (ty ty2 : TypeId) (ho : o.op = .binOp .add ty x y ty2) (v : Value) (hr : ∀ w, (binOp .add ty (a.eval x) (a.eval y)).run Tryz.prog w = .ok v w) (hk : K (a.put o.dst v)) : o.quiet Tryz.prog a C K :=
  ⟨_, fun w _ => by
    unfold Oper.quietAt execOp
    simp only [ho, Sem.run_bind, Sem.run_pure, hr]
    exact ⟨rfl, rfl⟩, hk⟩
theorem hexX (k : Nat) (h : k < 16) : (⟨#[48, 49, 50, 51, 52, 53, 54, 55, 56, 57, 97, 98, 99, 100, 101, 102]⟩ : ByteArray).extract k (k + 1) = ⟨[hexd k].toArray⟩ := by
  rcases (by omega : k = 0 ∨ k = 1 ∨ k = 2 ∨ k = 3 ∨ k = 4 ∨ k = 5 ∨ k = 6 ∨ k = 7 ∨ k = 8 ∨ k = 9 ∨ k = 10 ∨ k = 11 ∨ k = 12 ∨ k = 13 ∨ k = 14 ∨ k = 15) with rfl | rfl | rfl | rfl | rfl | rfl | rfl | rfl | rfl | rfl | rfl | rfl | rfl | rfl | rfl | rfl
  all_goals rfl
theorem cat_hex (s : List UInt8) (n : Nat) (h : n < 16) (hs : s.length ≤ 1000) (w : World) : (binOp .add 9 (enS s) (.string ((⟨#[48, 49, 50, 51, 52, 53, 54, 55, 56, 57, 97, 98, 99, 100, 101, 102]⟩ : ByteArray).extract n (n + 1)))).run Tryz.prog w = .ok (enS (s ++ [hexd n])) w := by
  rw [hexX n h]
  have := run_cat s [hexd n] (by simp; omega) w
  simpa [binOp] using this
theorem auB_at (a : List UInt8) (k : Nat) (hk : k < 16) (w : World) : (Instr.index 49 (.agg #[auB a 0, auB a 1, auB a 2, auB a 3, auB a 4, auB a 5, auB a 6, auB a 7, auB a 8, auB a 9, auB a 10, auB a 11, auB a 12, auB a 13, auB a 14, auB a 15]) (.int .i64 k)).run Tryz.prog w = .ok (auB a k) w := by
  rcases (by omega : k = 0 ∨ k = 1 ∨ k = 2 ∨ k = 3 ∨ k = 4 ∨ k = 5 ∨ k = 6 ∨ k = 7 ∨ k = 8 ∨ k = 9 ∨ k = 10 ∨ k = 11 ∨ k = 12 ∨ k = 13 ∨ k = 14 ∨ k = 15) with rfl | rfl | rfl | rfl | rfl | rfl | rfl | rfl | rfl | rfl | rfl | rfl | rfl | rfl | rfl | rfl
  all_goals kernel_rfl
theorem hex_at (n : Int) (h0 : 0 ≤ n) (h1 : n < 16) (w : World) : (Instr.index 9 (.string ⟨#[48, 49, 50, 51, 52, 53, 54, 55, 56, 57, 97, 98, 99, 100, 101, 102]⟩) (.int .u8 n)).run Tryz.prog w = .ok (.int .u8 (hexd n.toNat).toNat) w := by
  obtain ⟨k, rfl⟩ : ∃ k : Nat, n = k := ⟨n.toNat, by omega⟩
  rcases (by omega : k = 0 ∨ k = 1 ∨ k = 2 ∨ k = 3 ∨ k = 4 ∨ k = 5 ∨ k = 6 ∨ k = 7 ∨ k = 8 ∨ k = 9 ∨ k = 10 ∨ k = 11 ∨ k = 12 ∨ k = 13 ∨ k = 14 ∨ k = 15) with rfl | rfl | rfl | rfl | rfl | rfl | rfl | rfl | rfl | rfl | rfl | rfl | rfl | rfl | rfl | rfl
  all_goals kernel_rfl
theorem hexN_at (n : Nat) (h1 : n < 16) (w : World) : (Instr.index 9 (.string ⟨#[48, 49, 50, 51, 52, 53, 54, 55, 56, 57, 97, 98, 99, 100, 101, 102]⟩) (.int .u8 n)).run Tryz.prog w = .ok (.int .u8 (hexd n).toNat) w := hex_at n (by omega) (by omega) w
theorem hexT_length (a : List UInt8) : (hexT a).length = 2 * a.length := by
  unfold hexT
  induction a with
  | nil => rfl
  | cons x r ih => rw [List.flatMap_cons, List.length_append, ih]; simp; omega
theorem hexT_snoc (a : List UInt8) {k : Nat} (hk : k < a.length) : hexT (a.take (k + 1)) = hexT (a.take k) ++ [hexd ((a.getD k 0).toNat / 16), hexd ((a.getD k 0).toNat % 16)] := by
  rw [List.take_succ_eq_append_getElem hk]
  unfold hexT
  rw [List.flatMap_append, List.getD_eq_getElem?_getD, List.getElem?_eq_getElem hk]
  simp
theorem u8_info : (Tryz.prog.info? 5).map (fun i => (i.zero, i.size, i.bytes)) = some (some (.int .u8 0), 1, 1) := by kernel_rfl
set_option maxRecDepth 100000 in
set_option maxHeartbeats 8000000 in
theorem authorText_any (a : List UInt8) (w : World) (ha : a.length = 16) : Calls Tryz.prog 67 #[auA a] w fun e w' => e = .returned (enS (hexT a)) ∧ Below w.heap.size w w' := by
  obtain ⟨i0, hi, hz0, hz1, hz2⟩ := info_parts u8_info
  unfold auA
  go_enter Tryz.func67, Tryz.ntmps67
  go_wp2_with (at_make; refine wpList_make_own _ rfl _ _ 90 rfl w.heap.size 5 i0 (.int .u8 0) 1 Tryz.underlying90 hi hz0 hz1 .i64 .i64 32 32 rfl rfl rfl ?m1 ?m2 ?m3 ?_)
  case m1 => rw [hz2]; decide
  case m2 => decide
  case m3 => simp
  intro w0 ho0 hg0
  have B0 : Below w.heap.size w w0 := (below_new w (.cells #[auB a 0, auB a 1, auB a 2, auB a 3, auB a 4, auB a 5, auB a 6, auB a 7, auB a 8, auB a 9, auB a 10, auB a 11, auB a 12, auB a 13, auB a 14, auB a 15] 49)).grown hg0 (by simp) (fun k hk => by cases hk)
  obtain ⟨A0, c0, e0⟩ : ∃ A0 c0, (Value.slice (some ⟨(w.alloc (.cells #[auB a 0, auB a 1, auB a 2, auB a 3, auB a 4, auB a 5, auB a 6, auB a 7, auB a 8, auB a 9, auB a 10, auB a 11, auB a 12, auB a 13, auB a 14, auB a 15] 49)).heap.size, 0, none⟩) 0 32) = .slice A0 0 c0 := ⟨_, _, rfl⟩
  have HO0 := Lib.hid ho0
  have HB0 := Lib.hid B0
  have HK0 := Lib.hid (blk_below ((Below.refl (w.alloc (.cells #[auB a 0, auB a 1, auB a 2, auB a 3, auB a 4, auB a 5, auB a 6, auB a 7, auB a 8, auB a 9, auB a 10, auB a 11, auB a 12, auB a 13, auB a 14, auB a 15] 49)).heap.size _).grown hg0 (Nat.le_refl _) (fun k hk => by cases hk)) (blk_new w (.cells #[auB a 0, auB a 1, auB a 2, auB a 3, auB a 4, auB a 5, auB a 6, auB a 7, auB a 8, auB a 9, auB a 10, auB a 11, auB a 12, auB a 13, auB a 14, auB a 15] 49)))
  clear ho0 hg0 B0
  have cc0 := blk_cell HK0.out 0
  have cc1 := blk_cell HK0.out 1
  have cc2 := blk_cell HK0.out 2
  have cc3 := blk_cell HK0.out 3
  have cc4 := blk_cell HK0.out 4
  have cc5 := blk_cell HK0.out 5
  have cc6 := blk_cell HK0.out 6
  have cc7 := blk_cell HK0.out 7
  have cc8 := blk_cell HK0.out 8
  have cc9 := blk_cell HK0.out 9
  have cc10 := blk_cell HK0.out 10
  have cc11 := blk_cell HK0.out 11
  have cc12 := blk_cell HK0.out 12
  have cc13 := blk_cell HK0.out 13
  have cc14 := blk_cell HK0.out 14
  have cc15 := blk_cell HK0.out 15
  go_wp2_with fail
  clear cc0 cc1 cc2 cc3 cc4 cc5 cc6 cc7 cc8 cc9 cc10 cc11 cc12 cc13 cc14 cc15
  go_loopg [3, 5, 8] 16 (fun gg ov cv iv wr => ∃ (k : Nat) (A : Option Addr) (c : Nat), k ≤ 16 ∧ 16 - k ≤ gg ∧ iv = .int .i64 k ∧ ov = .slice A (hexT (a.take k)).length c ∧ Hid (wr.ownsRow w.heap.size 5 1 (.slice A (hexT (a.take k)).length c) (hexT (a.take k)).length ((hexT (a.take k)).map enB)) ∧ Hid (Below w.heap.size w wr))
  case atStart => exact ⟨0, _, _, by omega, by omega, rfl, rfl, HO0, HB0⟩
  case round =>
    obtain ⟨k, A, c, hk, hgk, rfl, rfl, O1, B1⟩ := hrel
    by_cases hlt : k < 16
    · have hidx := auB_at a k hlt
      have hsn := hexT_snoc a (k := k) (by omega)
      obtain ⟨x, hx⟩ : ∃ x, a.getD k 0 = x := ⟨_, rfl⟩
      rw [hx] at hsn
      have ex : auB a k = .int .u8 x.toNat := by unfold auB enB; rw [hx]
      rw [ex] at hidx
      have HSN := Lib.hid hsn
      have hxl := x.toNat_lt
      clear hx ex hsn
      go_wp2_with fail
      refine Flow.wp_region_segs (fun u v => Below w.heap.size u v) (fun _ => Below.refl _ _) (fun u v x h k => Below.trans h k) [([0, 1, 2, 3, 4, 5, 6], 7), ([], 8)] [9] (by kernel_rfl) (by kernel_rfl) ?_
      have HBD := Lib.hid B1.out.drew
      have HOD := Lib.hid (own_below O1.out (Below.refl _ _).drew)
      clear O1 B1 hidx
      generalize hwd : World.drew wr = wd at *
      clear hwd
      haveI nonE : Nonempty (Flow.Cls (fun v => Below w.heap.size wd v)) := ⟨⟨wd, Below.refl _ _⟩⟩
      rw [Flow.wpSegs_cons]
      simp only [Flow.pick, List.getElem?_toArray, List.getElem?_cons_succ, List.getElem?_cons_zero]
      iterate 3 go_big_quiet_step (fail)
      refine BigFrame.wpQuiet_want rfl (fun K hK => quiet_index 9 _ _ rfl (.int .u8 (hexd (x.toNat / 16)).toNat) (hexN_at (x.toNat / 16) (by omega)) (hK _ ?_))
      clear hK K
      simp only [Act.put, List.setIfInBounds_toArray, List.set_cons_succ, List.set_cons_zero]
      iterate 2 go_big_quiet_step (fail)
      refine BigFrame.wpQuiet_want rfl (fun K hK => quiet_index 9 _ _ rfl (.int .u8 (hexd (x.toNat % 16)).toNat) (hexN_at (x.toNat % 16) (by omega)) (hK _ ?_))
      clear hK K
      simp only [Act.put, List.setIfInBounds_toArray, List.set_cons_succ, List.set_cons_zero]
      refine wpQuiet_nil ?_
      clear nonE
      rw [Flow.callAt_eq]
      simp only [List.getElem?_toArray, List.getElem?_cons_succ, List.getElem?_cons_zero]
      rw [if_pos (by rfl)]
      refine Flow.wp_behind (fun K hK => ?_)
      go_wp2_with fail
      refine hK.out _ _ ⟨(Below.refl _ _).alloc HBD.out.size _, ?_⟩
      clear hK K
      rw [Flow.wpSegs_cons]
      simp only [Flow.pick]
      refine wpQuiet_nil ?_
      rw [Flow.callAt_eq]
      simp only [List.getElem?_toArray, List.getElem?_cons_succ, List.getElem?_cons_zero]
      rw [if_pos (by rfl)]
      refine Flow.wp_behind (fun K hK => ?_)
      refine wp_append_own _ _ _ 90 rfl w.heap.size 5 i0 (.int .u8 0) 1 1 Tryz.underlying90 hi hz0 hz1 hz2 rfl (by decide) (.slice A (hexT (a.take k)).length c) (hexT (a.take k)).length ((hexT (a.take k)).map enB) rfl (own_below HOD.out (below_new _ _)) ⟨wd.heap.size, 0, none⟩ 2 2 [enB (hexd (x.toNat / 16)), enB (hexd (x.toNat % 16))] rfl rfl ?c1 ?c2 ?c3 ?c4 ?c5 ?_
      case c1 =>
        intro j u hj
        rw [addr_addN, new_cell _ _ _ _ _ rfl]
        simpa [enB] using hj
      case c2 => intro u hu; simp at hu; rcases hu with rfl | rfl <;> rfl
      case c3 => unfold maxLen; have := hexT_length (a.take k); have := List.length_take_le k a; omega
      case c4 => have := hexT_length (a.take k); have := List.length_take_le k a; omega
      case c5 => have := HBD.out.size; simp; omega
      intro v' w2 hown2 hg2 _
      obtain ⟨A3, c3, rfl⟩ := own2_slice hown2
      have b2 := own_grown_below (own_below HOD.out (below_new wd (.cells #[.int .u8 (hexd (x.toNat / 16)).toNat, .int .u8 (hexd (x.toNat % 16)).toNat] 5))) (by have := HBD.out.size; simp; omega) hg2
      refine hK.out _ _ ⟨b2, ?_⟩
      clear hK K
      have HO2 := Lib.hid hown2
      have HB2 := Lib.hid ((HBD.out.alloc HBD.out.size (.cells #[.int .u8 (hexd (x.toNat / 16)).toNat, .int .u8 (hexd (x.toNat % 16)).toNat] 5)).trans b2)
      clear hown2 hg2 b2
      haveI nonE : Nonempty (Flow.Cls (fun v => Below w.heap.size w2 v)) := ⟨⟨w2, Below.refl _ _⟩⟩
      simp only [Act.put, List.setIfInBounds_toArray, List.set_cons_succ, List.set_cons_zero]
      rw [Flow.wpSegs_nil]
      simp only [Flow.pick, List.getElem?_toArray, List.getElem?_cons_succ, List.getElem?_cons_zero]
      repeat go_big_quiet_step (fail)
      refine wpQuiet_nil ?_
      clear nonE
      go_wp2_with fail
      go_roundg (16 - (k + 1))
      case measure => omega
      case rel =>
        refine ⟨k + 1, A3, c3, by omega, by omega, by go_num, ?_, ?_, HB2⟩
        · rw [HSN.out, List.length_append]; rfl
        · rw [HSN.out, List.length_append, List.map_append]; exact HO2
    · obtain rfl : k = 16 := by omega
      have et : a.take 16 = a := by rw [← ha, List.take_length]
      rw [et] at O1
      obtain ⟨g, rfl⟩ : ∃ g, A = some ⟨g, 0, none⟩ := by
        rcases O1.out.2 with ⟨e1, e2⟩ | ⟨g, cap, cur, e1, h2⟩
        · have := hexT_length a; omega
        · injection e1 with e1; exact ⟨g, e1⟩
      have hconv := run_convert_bytes_back (P := Tryz.prog) wr 90 9 5 ⟨g, 0, none⟩ c (hexT a) Tryz.underlying90 Tryz.underlying5 Tryz.underlying9 (fun j hj => O1.out.cells (g := g) rfl j _ (by rw [List.getElem?_map, List.getElem?_eq_getElem hj]; rfl))
      rw [et]
      go_wp2_with fail
      go_ret
      exact ⟨rfl, B1.out⟩
set_option maxRecDepth 100000 in
set_option maxHeartbeats 8000000 in
theorem refAuthor_any (a : List UInt8) (w : World) (ha : a.length = 16) : Calls Tryz.prog 30 #[auA a] w fun e w' => e = .returned (enS (hexT a)) ∧ Below w.heap.size w w' := by
  unfold auA
  go_enter Tryz.func30, Tryz.ntmps30
  go_wp2_with fail
  have HK := Lib.hid (blk_new w (.cells #[auB a 0, auB a 1, auB a 2, auB a 3, auB a 4, auB a 5, auB a 6, auB a 7, auB a 8, auB a 9, auB a 10, auB a 11, auB a 12, auB a 13, auB a 14, auB a 15] 48))
  have HB := Lib.hid (below_new w (.cells #[auB a 0, auB a 1, auB a 2, auB a 3, auB a 4, auB a 5, auB a 6, auB a 7, auB a 8, auB a 9, auB a 10, auB a 11, auB a 12, auB a 13, auB a 14, auB a 15] 48))
  generalize w.alloc (.cells #[auB a 0, auB a 1, auB a 2, auB a 3, auB a 4, auB a 5, auB a 6, auB a 7, auB a 8, auB a 9, auB a 10, auB a 11, auB a 12, auB a 13, auB a 14, auB a 15] 48) = w0 at *
  go_loopg [4, 5] 16 (fun gg sv iv wr => ∃ k : Nat, k ≤ 16 ∧ 16 - k ≤ gg ∧ iv = .int .i64 k ∧ sv = enS (hexT (a.take k)) ∧ Hid (Below w0.heap.size w0 wr))
  case atStart => exact ⟨0, by omega, by omega, rfl, rfl, Lib.hid (Below.refl _ _)⟩
  case round =>
    obtain ⟨k, hk, hgk, rfl, rfl, B1⟩ := hrel
    by_cases hlt : k < 16
    · have hcell := blk_cell (blk_below B1.out HK.out) k
      have hsn := hexT_snoc a (k := k) (by omega)
      obtain ⟨x, hx⟩ : ∃ x, a.getD k 0 = x := ⟨_, rfl⟩
      rw [hx] at hsn
      have ex : (#[auB a 0, auB a 1, auB a 2, auB a 3, auB a 4, auB a 5, auB a 6, auB a 7, auB a 8, auB a 9, auB a 10, auB a 11, auB a 12, auB a 13, auB a 14, auB a 15] : Array Value)[k]? = some (.int .u8 x.toNat) := by
        have e1 : (#[auB a 0, auB a 1, auB a 2, auB a 3, auB a 4, auB a 5, auB a 6, auB a 7, auB a 8, auB a 9, auB a 10, auB a 11, auB a 12, auB a 13, auB a 14, auB a 15] : Array Value)[k]? = some (auB a k) := by
          rcases (by omega : k = 0 ∨ k = 1 ∨ k = 2 ∨ k = 3 ∨ k = 4 ∨ k = 5 ∨ k = 6 ∨ k = 7 ∨ k = 8 ∨ k = 9 ∨ k = 10 ∨ k = 11 ∨ k = 12 ∨ k = 13 ∨ k = 14 ∨ k = 15) with rfl | rfl | rfl | rfl | rfl | rfl | rfl | rfl | rfl | rfl | rfl | rfl | rfl | rfl | rfl | rfl
          all_goals rfl
        rw [e1]; unfold auB enB; rw [hx]
      rw [ex] at hcell
      have HC := Lib.hid hcell
      have HSN := Lib.hid hsn
      have hxl := x.toNat_lt
      clear hx ex hsn hcell
      go_wp2_with fail
      refine Flow.wp_region_segs Flow.Later Flow.Later.refl Flow.Later.trans [] [0, 1, 2, 3, 4, 5, 6, 7, 8, 9, 10, 11, 12, 13, 14, 15, 16, 17, 18, 19, 20, 21, 22, 23, 24, 25] (by kernel_rfl) (by kernel_rfl) ?_
      have HCD : Hid ((World.drew wr).cell? ⟨w.heap.size, k, none⟩ = some (.int .u8 x.toNat)) := HC
      have HBD := Lib.hid B1.out.drew
      clear HC B1
      generalize hwd : World.drew wr = wd at *
      clear hwd
      have q0 : ∀ t : Flow.Cls (Flow.Later wd), t.val.cell? ⟨w.heap.size, k, none⟩ = some (.int .u8 x.toNat) := fun t => Flow.cls_cell HCD.out t
      haveI nonE := Flow.cls_nonempty wd
      rw [Flow.wpSegs_nil]
      simp only [Flow.pick, List.getElem?_toArray, List.getElem?_cons_succ, List.getElem?_cons_zero]
      have hl2 := hexT_length (a.take k)
      have hl3 := List.length_take_le k a
      iterate 12 go_big_quiet_step (fail)
      refine BigFrame.wpQuiet_want rfl (fun K hK => quiet_cat _ _ _ _ rfl _ (cat_hex (hexT (a.take k)) (x.toNat / 16) (by omega) (by omega)) (hK _ ?_))
      clear hK K
      simp only [Act.put, List.setIfInBounds_toArray, List.set_cons_succ, List.set_cons_zero]
      iterate 11 go_big_quiet_step (fail)
      refine BigFrame.wpQuiet_want rfl (fun K hK => quiet_cat _ _ _ _ rfl _ (cat_hex (hexT (a.take k) ++ [hexd (x.toNat / 16)]) (x.toNat % 16) (by omega) (by simp; omega)) (hK _ ?_))
      clear hK K
      simp only [Act.put, List.setIfInBounds_toArray, List.set_cons_succ, List.set_cons_zero]
      repeat go_big_quiet_step (fail)
      refine wpQuiet_nil ?_
      clear nonE q0 hl2 hl3
      go_wp2_with fail
      go_roundg (16 - (k + 1))
      case measure => omega
      case rel => exact ⟨k + 1, by omega, by omega, by go_num, by rw [HSN.out, List.append_assoc]; rfl, HBD⟩
    · obtain rfl : k = 16 := by omega
      have et : a.take 16 = a := by rw [← ha, List.take_length]
      rw [et]
      go_wp2_with fail
      go_ret
      exact ⟨rfl, HB.out.tr B1.out⟩
end Go.Proofs.YthgefcoaaommkaaGreatDoor

namespace Go.Proofs.YthgefcoaaommkaaGreatDoor
open Go.RowKit Go.Gn Go.Sr Go.Maps Go.Nr

/-- The table of powers of ten of strconv lies as the program's text lays it. -/
def Tab (w : World) : Prop := Lib.TabIs Tryz.prog w "internal/strconv.uint64pow10" .u64 Lib.pow10Tab
theorem tab_global : ∃ g, Tryz.prog.globalNamed "internal/strconv.uint64pow10" = some g := Option.isSome_iff_exists.1 (by kernel_rfl)
theorem Tab.lt {w : World} (h : Tab w) {g : Nat} (hg : Tryz.prog.globalNamed "internal/strconv.uint64pow10" = some g) : g < w.heap.size := by
  unfold Tab Lib.TabIs World.var? at h
  simp only [hg, Option.bind_some] at h
  rcases Nat.lt_or_ge g w.heap.size with h' | h'
  · exact h'
  · rw [Array.getElem?_eq_none h'] at h; cases h
theorem Tab.below {w w' : World} (h : Tab w) (hb : Below w.heap.size w w') : Tab w' := by
  obtain ⟨g, hg⟩ := tab_global
  exact var?_below hb hg (h.lt hg) h
theorem below_grow (w : World) (k : Nat) (os : Array Obj) : Below w.heap.size w (Sort.grow (w.drewN k) os) :=
  ⟨rfl, rfl, rfl, by simp [Sort.grow, World.drewN], fun i hi => by simp only [Sort.grow, World.drewN]; rw [Array.getElem?_append_left hi]⟩
theorem itoa_any (n : Int) (w : World) (h0 : 0 ≤ n) (h1 : n ≤ 1000000000000000) (ht : Tab w) : Calls Tryz.prog 89 #[i64 n] w fun e w' => e = .returned (enS (dg n)) ∧ Below w.heap.size w w' := by
  refine (Tryz.strconv_Itoa n (by omega) (by omega) w ht).mono fun e w' ⟨h2, k, os, h3⟩ => ⟨?_, by rw [h3]; exact below_grow w k os⟩
  rw [h2]; unfold Lib.itoa; rw [if_neg (by omega)]; rfl
theorem digits_any (n : Int) (w : World) (h0 : 0 ≤ n) (h1 : n ≤ 1000000000000000) (ht : Tab w) : Calls Tryz.prog 52 #[i64 n] w fun e w' => e = .returned (enS (dg n)) ∧ Below w.heap.size w w' := by
  have h := itoa_any n w h0 h1 ht
  go_enter Tryz.func52, Tryz.ntmps52
  go_wp2_with fail
  refine h.mono ?_; rintro e w' ⟨rfl, b⟩
  go_wp2_with fail
  go_ret
  exact ⟨rfl, b⟩
/-- A builder of the call's own that holds a text. -/
def Bd (B b : Nat) (l : List UInt8) (w : World) : Prop := Lib.IsBuilder 92 5 B b (Lib.byteCells l) w
theorem Bd.below {B b : Nat} {l : List UInt8} {w w' : World} (h : Bd B b l w) (hb : Below w.heap.size w w') : Bd B b l w' := by
  have one : ∀ p, Lib.BuilderAt 92 5 B b p (Lib.byteCells l) w → Lib.BuilderAt 92 5 B b p (Lib.byteCells l) w' := fun p h => by
    have hlt := h.lt
    obtain ⟨hB, v, hv, hown, hne⟩ := h
    exact ⟨hB, v, (hb.block b hlt).trans hv, own_below hown hb, hne⟩
  exact h.elim (fun x => .inl (one _ x)) (fun x => .inr (one _ x))
theorem bd_new (w : World) : Bd w.heap.size w.heap.size [] (w.alloc (.cells #[.pointer none, .slice none 0 0] 92)) := Lib.fresh_isBuilder _ _ w
theorem bdByte (B b : Nat) (l : List UInt8) (c : UInt8) (w : World) (h : Bd B b l w) (hl : l.length + 1 ≤ 100000000000) (hB : B ≤ w.heap.size) :
    Calls Tryz.prog 48 #[.pointer (some ⟨b, 0, none⟩), .int .u8 c.toNat] w fun e w' => e = .returned .nilIface ∧ Bd B b (l ++ [c]) w' ∧ Below B w w' ∧ Lib.OthersKept 5 (some b) w w' :=
  (bldByte B b (Lib.byteCells l) c.toNat w h (by rw [Lib.byteCells_length]; omega) hB).mono fun e w' ⟨h1, h2, h3⟩ => ⟨h1, .inr (by simpa [Lib.byteCells] using h2), h3.1, h3.2⟩
theorem bdStr (B b : Nat) (l s : List UInt8) (w : World) (h : Bd B b l w) (hl : l.length + s.length ≤ 100000000000) (hB : B ≤ w.heap.size) :
    Calls Tryz.prog 46 #[.pointer (some ⟨b, 0, none⟩), .string ⟨s.toArray⟩] w fun e w' => e = .returned (.tuple #[i64 s.length, .nilIface]) ∧ Bd B b (l ++ s) w' ∧ Below B w w' ∧ Lib.OthersKept 5 (some b) w w' :=
  (bldStr B b (Lib.byteCells l) ⟨s.toArray⟩ w h (by rw [Lib.byteCells_length]; show l.length + s.toArray.size ≤ _; simp; omega) hB).mono fun e w' ⟨h1, h2, h3⟩ => ⟨h1, .inr (by rw [show Lib.strCells ⟨s.toArray⟩ = Lib.byteCells s from rfl] at h2; simpa [Lib.byteCells] using h2), h3.1, h3.2⟩
theorem OthersKept.of_below {B : Nat} {w w' : World} (h : Below B w w') (hB : w.heap.size ≤ B) (b : Option Nat) : Lib.OthersKept 5 b w w' := fun k o hk _ _ => by
  have hlt := (Array.getElem?_eq_some_iff.1 hk).1
  rw [h.block k (by omega)]; exact hk

theorem run_index5 (cs : Array Value) (_hc : cs.size = 5) (k : Nat) (hk : k < 5) (v : Value) (hv : cs[k]? = some v) (w : World) : (Instr.index 144 (.agg cs) (.int .i64 k)).run Tryz.prog w = .ok v w := by
  have hag : ∀ u : World, (isAgg 9).run Tryz.prog u = .ok false u := fun u => by kernel_rfl
  have hso : ∀ u : World, (sizeOf 9).run Tryz.prog u = .ok 1 u := fun u => by kernel_rfl
  unfold Instr.index part
  simp [run_underlying Tryz.underlying144, asIntOf, hag, hso, hv, hk]
theorem wpList_index5 {ops : Array Oper} {rest : List Oper} {op : Oper} {a : Act} {w : World} {Q : Exit → Act → World → Prop} (hgd : op.guard = none) (x y : Operand) (ho : op.op = .index 144 x y) (cs : Array Value) (hc : cs.size = 5) (k : Nat) (hk : k < 5) (v : Value) (hv : cs[k]? = some v) (hx : a.eval x = .agg cs) (hy : a.eval y = .int .i64 k)
    (h : wpList Tryz.prog ops Q rest (a.put op.dst v) w) : wpList Tryz.prog ops Q (op :: rest) a w :=
  wpList_plain hgd fun _ hK => by
    unfold Oper.wp execOp
    simp only [ho, hx, hy, Sem.run_bind, Sem.run_pure, run_index5 cs hc k hk v hv, Result.andThen_ok]
    exact hK _ _ h
set_option maxRecDepth 100000 in
theorem word_any (k : Int) (w : World) (h0 : 0 ≤ k) (h1 : k ≤ 4) : Calls Tryz.prog 51 #[i64 k] w fun e w' => e = .returned (enS (wordT k)) ∧ Below w.heap.size w w' := by
  obtain ⟨n, rfl⟩ : ∃ n : Nat, k = n := ⟨k.toNat, by omega⟩
  rcases (by omega : n = 0 ∨ n = 1 ∨ n = 2 ∨ n = 3 ∨ n = 4) with rfl | rfl | rfl | rfl | rfl
  all_goals
    go_enter Tryz.func51, Tryz.ntmps51
    go_wp2_with (first | (refine wpList_index5 rfl _ _ rfl _ rfl _ (by decide) _ rfl rfl rfl ?_))
    go_ret
    exact ⟨rfl, by first | exact Below.refl _ _ | exact below_new _ _⟩

set_option maxRecDepth 100000 in
set_option maxHeartbeats 2000000 in
/-- A line of words is written. -/
theorem write_any (B b : Nat) (l : List UInt8) (A : Option Addr) (c : Nat) (xs : List (List UInt8)) (w : World) (h : Bd B b l w) (hr : Rd w A xs) (hn : xs.length ≤ 10) (hc : xs.length ≤ c) (t : List UInt8) (ht : text 32 xs = t) (hx : t.length ≤ 1000000) (hl : l.length ≤ 10000000000) (hB : B ≤ w.heap.size) :
    Calls Tryz.prog 45 #[.slice A xs.length c, .pointer (some ⟨b, 0, none⟩)] w fun e w' => e = .returned (.tuple #[]) ∧ Bd B b (l ++ t ++ [10]) w' ∧ Below B w w' ∧ Lib.OthersKept 5 (some b) w w' := by
  have HD := Lib.hid h
  have HJ := Lib.hid (join_any A c xs 32 w hr (by omega) hc (by rw [ht]; omega))
  have HW := Lib.hid (fun W (h : Bd B b l W) (hb : B ≤ W.heap.size) => bdStr B b l t W h (by omega) hb)
  have HY := Lib.hid (fun W (h : Bd B b (l ++ t) W) (hb : B ≤ W.heap.size) => bdByte B b (l ++ t) 10 W h (by simp; omega) hb)
  have hB1 := hB
  rw [ht] at HJ
  clear h hr ht
  go_enter Tryz.func45, Tryz.ntmps45
  go_wp2_with fail
  refine HJ.out.mono ?_; rintro e w1 ⟨rfl, b1⟩
  have h1 := HD.out.below b1
  have s1 := b1.size
  have K1 := Lib.hid (OthersKept.of_below b1 (Nat.le_refl _) (some b))
  have B1 := Lib.hid (b1.mono hB)
  have HW1 := Lib.hid (HW.out w1 h1 (by omega))
  clear HD HJ b1 h1 HW
  go_wp2_with fail
  refine HW1.out.mono ?_; rintro e w2 ⟨rfl, d2, b2, k2⟩
  have s2 := b2.size
  have HY2 := Lib.hid (HY.out w2 d2 (by omega))
  have B2 := Lib.hid (B1.out.trans b2)
  have K2 := Lib.hid (K1.out.trans k2)
  clear HW1 d2 b2 k2 HY B1 K1
  go_wp2_with fail
  refine HY2.out.mono ?_; rintro e w3 ⟨rfl, d3, b3, k3⟩
  have B3 := Lib.hid (B2.out.trans b3)
  have K3 := Lib.hid (K2.out.trans k3)
  have D3 := Lib.hid d3
  clear HY2 d3 b3 k3 B2 K2
  go_wp2_with fail
  go_end0
  exact ⟨rfl, D3.out, B3.out, K3.out⟩
end Go.Proofs.YthgefcoaaommkaaGreatDoor
