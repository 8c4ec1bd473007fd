/- Events and statistics in memory: their cells, their maps, what stays while one is written. -/
import Derived.Test.YthgefcoaaommkaaDoorRow
import Derived.Test.YthgefcoaaommkaaDoorSrList
import Derived.Deep.MidRow
namespace Go.Proofs.YthgefcoaaommkaaDoor
open Go.RowKit Go.Gn Go.Sr Go.Maps

abbrev i64 (n : Int) : Value := .int .i64 n
def enB (x : UInt8) : Value := .int .u8 x.toNat
def cV (c : C) : Value := .agg #[i64 c.1, i64 c.2]
def kV (k : Ky) : Value := .agg #[i64 k.1, i64 k.2.1, enS k.2.2]

/-! ### the maps' keys -/
set_option maxRecDepth 100000 in
theorem key_laidOut : laidOutB Tryd.prog = true := by kernel_rfl
theorem key_row : (59 : TypeId) < Tryd.prog.types.size := of_decide_eq_true (by kernel_rfl)
theorem key_wide : (match Tryd.prog.underlying 59 with | some (.array _ _) | some (.struct _) => true | _ => false) = true := by rw [Tryd.underlying59]
set_option maxRecDepth 100000 in
theorem key_law : WideMaps.KeyLaw Tryd.prog 59 := deep_law_laid key_laidOut (m := 2) (by omega) key_row (by kernel_rfl) key_wide
theorem key_keyed : Keyed Tryd.prog 59 := Keyed.of_law key_law
theorem key_cells : Tryd.prog.cellsOf 59 = 3 := by kernel_rfl
theorem int_cells : Tryd.prog.cellsOf 3 = 1 := by kernel_rfl
theorem str_cells : Tryd.prog.cellsOf 9 = 1 := by kernel_rfl
theorem key_keyType : Tryd.prog.keyType 59 = true := by kernel_rfl
/-- A key that a map takes. -/
def okKy (k : Ky) : Prop := (Lit.int .i64 k.1).wf = true ∧ (Lit.int .i64 k.2.1).wf = true ∧ k.2.2.length ≤ maxLen
theorem keyOf_kV (k : Ky) (h : okKy k) : (keyOf Tryd.prog 59 (kV k)).isSome = true := by
  obtain ⟨m, hm⟩ : ∃ m, Tryd.prog.types.size = m + 1 := Nat.exists_eq_succ_of_ne_zero (Nat.ne_of_gt (Nat.lt_of_le_of_lt (Nat.zero_le _) key_row))
  unfold keyOf
  simp only [Tryd.underlying59]
  rw [if_pos (by simp [key_keyType, Value.formed, Tryd.underlying59, key_cells, kV]), hm]
  unfold Program.keyLits
  simp only [Tryd.underlying59, kV, Value.cells]
  rw [if_pos (by rw [key_cells]; exact ⟨rfl, by kernel_rfl⟩)]
  have e0 : (⟨k.2.2.toArray⟩ : ByteArray).size ≤ maxLen := by simpa [ByteArray.size] using h.2.2
  simp [Program.keyLits, int_cells, str_cells, Tryd.underlying3, Tryd.underlying9, h.1, h.2.1, e0]
theorem kV_inj (a b : Ky) (h : kV a = kV b) : a = b := by
  obtain ⟨a1, a2, a3⟩ := a; obtain ⟨b1, b2, b3⟩ := b
  simp [kV] at h
  simp [h]
theorem cV_inj (a b : C) (h : cV a = cV b) : a = b := by
  obtain ⟨a1, a2⟩ := a; obtain ⟨b1, b2⟩ := b
  simp [cV] at h
  simp [h]
noncomputable def dayK : KV Tryd.prog 3 Int C := KV.of (int_keyed Tryd.underlying3) i64 (fun d => (Lit.int .i64 d).wf = true) (fun d h => by rw [keyOf_int_mk Tryd.underlying3 h]; rfl) (fun a b h => by injection h) cV cV_inj
noncomputable def nameK : KV Tryd.prog 59 Ky C := KV.of key_keyed kV okKy keyOf_kV kV_inj cV cV_inj

/-! ### what stays -/
/-- Nothing that was there has turned, but the blocks of R. -/
structure ButL (R : List Nat) (w w' : World) : Prop where
  os : w'.os = w.os
  tape : w'.tape = w.tape
  output : w'.output = w.output
  size : w.heap.size ≤ w'.heap.size
  block : ∀ k, k < w.heap.size → k ∉ R → w'.heap[k]? = w.heap[k]?
theorem ButL.of_below {R : List Nat} {w w' : World} (h : Below w.heap.size w w') : ButL R w w' := ⟨h.os, h.tape, h.output, h.size, fun k hk _ => h.block k hk⟩
theorem ButL.refl (R : List Nat) (w : World) : ButL R w w := .of_below (Below.refl _ _)
theorem ButL.trans {R : List Nat} {u v w : World} (h : ButL R u v) (k : ButL R v w) : ButL R u w :=
  ⟨k.os.trans h.os, k.tape.trans h.tape, k.output.trans h.output, Nat.le_trans h.size k.size, fun i hi hn => (k.block i (Nat.lt_of_lt_of_le hi h.size) hn).trans (h.block i hi hn)⟩
theorem ButL.sub {R S : List Nat} {w w' : World} (h : ButL R w w') (hs : ∀ k ∈ R, k ∈ S) : ButL S w w' := ⟨h.os, h.tape, h.output, h.size, fun k hk hn => h.block k hk fun e => hn (hs k e)⟩
theorem ButL.grown {R : List Nat} {w w' : World} {row : Option Nat} (hg : w.grownBy w' row) (hr : ∀ k, row = some k → k ∈ R) : ButL R w w' := ⟨hg.os, hg.tape, hg.output, hg.size, fun k hk hn => hg.block k hk fun e => hn (hr k e.symm)⟩
theorem ButL.setCell {R : List Nat} (w : World) (a : Addr) (v : Value) (h : a.block ∈ R) : ButL R w (w.setCell a v) := by
  have hb := (Below.refl a.block w).setCell (p := a) (Nat.le_refl _) v
  exact ⟨hb.os, hb.tape, hb.output, hb.size, fun k hk hn => Below.heap_setCell w a v k fun e => hn (e ▸ h)⟩
theorem ButL.toBelow {R : List Nat} {w w' : World} {B : Nat} (h : ButL R w w') (hB : B ≤ w.heap.size) (hR : ∀ k ∈ R, B ≤ k) : Below B w w' :=
  ⟨h.os, h.tape, h.output, h.size, fun k hk => h.block k (Nat.lt_of_lt_of_le hk hB) fun e => by have := hR k e; omega⟩
/-- Blocks that were not there at the first world do not count. -/
theorem ButL.late {R S : List Nat} {u w w' : World} (h : ButL S u w) (k : ButL R w w') (hR : ∀ b ∈ R, u.heap.size ≤ b ∨ b ∈ S) : ButL S u w' :=
  ⟨k.os.trans h.os, k.tape.trans h.tape, k.output.trans h.output, Nat.le_trans h.size k.size, fun i hi hn => (k.block i (Nat.lt_of_lt_of_le hi h.size) fun e => by
    rcases hR i e with h1 | h1
    · omega
    · exact hn h1).trans (h.block i hi hn)⟩

/-! ### statistics -/
/-- The statistics at p: their maps bd, bn. -/
structure StM (w : World) (p bd bn : Nat) (ds : List (Int × C)) (ns : List (Ky × C)) (zs : List Int) : Prop where
  blk : w.heap[p]? = some (.cells (Value.map (some bd) :: Value.map (some bn) :: zs.map i64).toArray 57 (0, 0))
  md : MapA dayK w bd ds
  mn : MapA nameK w bn ns
  ne : bd ≠ bn
  zl : zs.length = 18
section
variable {w w' : World} {p bd bn : Nat} {ds : List (Int × C)} {ns : List (Ky × C)} {zs : List Int}
theorem StM.keep (h : StM w p bd bn ds ns zs) (e0 : w'.heap[p]? = w.heap[p]?) (e1 : w'.heap[bd]? = w.heap[bd]?) (e2 : w'.heap[bn]? = w.heap[bn]?) : StM w' p bd bn ds ns zs := ⟨e0.trans h.blk, h.md.keep e1, h.mn.keep e2, h.ne, h.zl⟩
theorem StM.lp (h : StM w p bd bn ds ns zs) : p < w.heap.size := blk_lt h.blk
theorem StM.ld (h : StM w p bd bn ds ns zs) : bd < w.heap.size := h.md.lt
theorem StM.ln (h : StM w p bd bn ds ns zs) : bn < w.heap.size := h.mn.lt
theorem StM.below (h : StM w p bd bn ds ns zs) (hb : Below w.heap.size w w') : StM w' p bd bn ds ns zs := h.keep (hb.block p h.lp) (hb.block bd h.ld) (hb.block bn h.ln)
theorem StM.but (h : StM w p bd bn ds ns zs) {R : List Nat} (hb : ButL R w w') (h0 : p ∉ R) (h1 : bd ∉ R) (h2 : bn ∉ R) : StM w' p bd bn ds ns zs := h.keep (hb.block p h.lp h0) (hb.block bd h.ld h1) (hb.block bn h.ln h2)
theorem MapA.isMap {κ β : Type} {P : Program} {k : TypeId} {S : KV P k κ β} {b : Nat} {L : List (κ × β)} (h : MapA S w b L) : ∃ es c, w.heap[b]? = some (.map es c) := by
  obtain ⟨D, ⟨es, c, hb, _⟩, _⟩ := h
  exact ⟨es, c, hb⟩
theorem StM.pd (h : StM w p bd bn ds ns zs) : p ≠ bd := fun e => by
  obtain ⟨es, c, hm⟩ := h.md.isMap
  have := h.blk
  rw [e, hm] at this
  cases this
theorem StM.pn (h : StM w p bd bn ds ns zs) : p ≠ bn := fun e => by
  obtain ⟨es, c, hm⟩ := h.mn.isMap
  have := h.blk
  rw [e, hm] at this
  cases this
theorem StM.c0 (h : StM w p bd bn ds ns zs) : w.cell? ⟨p, 0, none⟩ = some (.map (some bd)) := blk_cell h.blk 0
theorem StM.c1 (h : StM w p bd bn ds ns zs) : w.cell? ⟨p, 1, none⟩ = some (.map (some bn)) := blk_cell h.blk 1
theorem StM.cz (h : StM w p bd bn ds ns zs) {k : Nat} (hk : k < 18) : w.cell? ⟨p, 2 + k, none⟩ = some (i64 (zs.getD k 0)) := by
  rw [blk_cell h.blk (2 + k)]
  have hz := h.zl
  have e : (Value.map (some bd) :: Value.map (some bn) :: zs.map i64)[2 + k]? = some (i64 (zs.getD k 0)) := by
    rw [Nat.add_comm 2 k]
    simp only [List.getElem?_cons_succ, List.getElem?_map]
    rw [List.getD_eq_getElem?_getD, List.getElem?_eq_getElem (by omega : k < zs.length)]
    rfl
  simpa using e
theorem StM.fz (h : StM w p bd bn ds ns zs) (k : Nat) : w.frozen? ⟨p, k, none⟩ = false := blk_free h.blk k
/-- An entry of the days is turned. -/
theorem StM.putD (h : StM w p bd bn ds ns zs) {ds' : List (Int × C)} (hm : MapA dayK w' bd ds') (hg : w.grownBy w' (some bd)) : StM w' p bd bn ds' ns zs :=
  ⟨(hg.block p h.lp (fun e => h.pd (by injection e))).trans h.blk, hm, h.mn.kept hg (fun e => h.ne (by injection e with e; exact e.symm)), h.ne, h.zl⟩
theorem StM.putN (h : StM w p bd bn ds ns zs) {ns' : List (Ky × C)} (hm : MapA nameK w' bn ns') (hg : w.grownBy w' (some bn)) : StM w' p bd bn ds ns' zs :=
  ⟨(hg.block p h.lp (fun e => h.pn (by injection e))).trans h.blk, h.md.kept hg (fun e => h.ne (by injection e)), hm, h.ne, h.zl⟩
end

/-! ### events -/
/-- An event in memory: where its lists lie. -/
structure EvM where
  e : Ev
  ga : Option Addr
  gc : Nat
  sa : Option Addr
  sc : Nat
/-- A byte of an author's identity. -/
def auB (a : List UInt8) (i : Nat) : Value := enB (a.getD i 0)
/-- The cells of an event. -/
def evL (m : EvM) : List Value := [i64 m.e.minute, auB m.e.author 0, auB m.e.author 1, auB m.e.author 2, auB m.e.author 3, auB m.e.author 4, auB m.e.author 5, auB m.e.author 6, auB m.e.author 7, auB m.e.author 8, auB m.e.author 9, auB m.e.author 10, auB m.e.author 11, auB m.e.author 12, auB m.e.author 13, auB m.e.author 14, auB m.e.author 15, .slice m.ga m.e.groups.length m.gc, .slice m.sa m.e.sites.length m.sc, i64 m.e.bytes]
abbrev evA (m : EvM) : Value := .agg (evL m).toArray
def auA (a : List UInt8) : Value := .agg #[auB a 0, auB a 1, auB a 2, auB a 3, auB a 4, auB a 5, auB a 6, auB a 7, auB a 8, auB a 9, auB a 10, auB a 11, auB a 12, auB a 13, auB a 14, auB a 15]
/-- The event's lists read as they must. -/
structure GoodM (w : World) (m : EvM) : Prop where
  au : m.e.author.length = 16
  rg : Rd w m.ga m.e.groups
  rs : Rd w m.sa m.e.sites
  gc : m.e.groups.length ≤ m.gc
  sc : m.e.sites.length ≤ m.sc
  gl : m.gc ≤ maxLen
  sl : m.sc ≤ maxLen
  gt : ∀ x ∈ m.e.groups, x.length ≤ maxLen
  st : ∀ x ∈ m.e.sites, x.length ≤ maxLen
  wm : (Lit.int .i64 m.e.minute).wf = true
  wb : (Lit.int .i64 m.e.bytes).wf = true
theorem GoodM.below {w w' : World} {m : EvM} (h : GoodM w m) (hb : Below w.heap.size w w') : GoodM w' m := ⟨h.au, h.rg.below hb, h.rs.below hb, h.gc, h.sc, h.gl, h.sl, h.gt, h.st, h.wm, h.wb⟩
theorem Rd.but {w w' : World} {A : Option Addr} {xs : List (List UInt8)} {R : List Nat} (h : Rd w A xs) (hb : ButL R w w') (hR : ∀ p, A = some p → p.block ∉ R) : Rd w' A xs := fun hl => by
  obtain ⟨b, o, e, hlt, hc⟩ := h hl
  refine ⟨b, o, e, Nat.lt_of_lt_of_le hlt hb.size, fun j x hj => ?_⟩
  rw [World.cell?_of_block (w := w) (hb.block b hlt (hR _ e))]
  exact hc j x hj
/-- A slice of events. -/
structure RdE (w : World) (A : Option Addr) (ms : List EvM) : Prop where
  rd : 0 < ms.length → ∃ b o, A = some ⟨b, o, none⟩ ∧ b < w.heap.size ∧ ∀ j m, ms[j]? = some m → w.rangeAt b (o + j * 20) (evL m)
  good : ∀ m ∈ ms, GoodM w m
theorem RdE.below {w w' : World} {A : Option Addr} {ms : List EvM} (h : RdE w A ms) (hb : Below w.heap.size w w') : RdE w' A ms :=
  ⟨fun hl => by
    obtain ⟨b, o, e, hlt, hc⟩ := h.rd hl
    exact ⟨b, o, e, Nat.lt_of_lt_of_le hlt hb.size, fun j m hj t v hv => Below.cellv hb (hc j m hj t v hv)⟩, fun m hm => (h.good m hm).below hb⟩
theorem RdE.at_ {w : World} {A : Option Addr} {ms : List EvM} {k : Nat} (h : RdE w A ms) (hk : k < ms.length) : ∃ b o m, A = some ⟨b, o, none⟩ ∧ b < w.heap.size ∧ ms[k]? = some m ∧ w.rangeAt b (o + k * 20) (evL m) ∧ GoodM w m := by
  obtain ⟨b, o, e, hlt, hc⟩ := h.rd (by omega)
  have hx : ms[k]? = some ms[k] := List.getElem?_eq_getElem hk
  exact ⟨b, o, ms[k], e, hlt, hx, hc k _ hx, h.good _ (List.getElem_mem hk)⟩
theorem ev_size : (Tryd.prog.info? 37).map (·.size) = some 20 := by kernel_rfl
theorem evL_length (m : EvM) : (evL m).length = 20 := rfl
theorem one_evL (m : EvM) : ∀ u ∈ evL m, u.oneCell' = true := fun u hu => by
  simp only [evL, List.mem_cons, List.not_mem_nil, or_false] at hu
  rcases hu with rfl | rfl | rfl | rfl | rfl | rfl | rfl | rfl | rfl | rfl | rfl | rfl | rfl | rfl | rfl | rfl | rfl | rfl | rfl | rfl <;> rfl
end Go.Proofs.YthgefcoaaommkaaDoor
