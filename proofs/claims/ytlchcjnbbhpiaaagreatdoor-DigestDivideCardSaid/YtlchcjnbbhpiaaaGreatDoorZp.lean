/- Contract of the scanner's read. -/
import Derived.Test.YtlchcjnbbhpiaaaGreatDoorZd
import Derived.Test.YtlchcjnbbhpiaaaGreatDoorZe
namespace Go.Proofs.YtlchcjnbbhpiaaaGreatDoor.Dt
open Go.Dt
open Go.RowKit
theorem day_cells {w : World} {nb : Nat} (h : w.heap[nb]? = some (.cells #[.string ⟨#[77, 111, 110]⟩, .string ⟨#[84, 117, 101]⟩, .string ⟨#[87, 101, 100]⟩, .string ⟨#[84, 104, 117]⟩, .string ⟨#[70, 114, 105]⟩, .string ⟨#[83, 97, 116]⟩, .string ⟨#[83, 117, 110]⟩] 203 (0, 0))) (i : Nat) (hi : i < dayTab.length) : w.cell? ⟨nb, i, none⟩ = some (.string ⟨(dayTab.getD i []).toArray⟩) := by
 rw [blk_cell h]
 have h7 : i < 7 := hi
 have : i = 0 ∨ i = 1 ∨ i = 2 ∨ i = 3 ∨ i = 4 ∨ i = 5 ∨ i = 6 := by omega
 rcases this with rfl | rfl | rfl | rfl | rfl | rfl | rfl <;> rfl
theorem mon_cells {w : World} {nb : Nat} (h : w.heap[nb]? = some (.cells #[.string ⟨#[74, 97, 110]⟩, .string ⟨#[70, 101, 98]⟩, .string ⟨#[77, 97, 114]⟩, .string ⟨#[65, 112, 114]⟩, .string ⟨#[77, 97, 121]⟩, .string ⟨#[74, 117, 110]⟩, .string ⟨#[74, 117, 108]⟩, .string ⟨#[65, 117, 103]⟩, .string ⟨#[83, 101, 112]⟩, .string ⟨#[79, 99, 116]⟩, .string ⟨#[78, 111, 118]⟩, .string ⟨#[68, 101, 99]⟩] 205 (0, 0))) (i : Nat) (hi : i < monTab.length) : w.cell? ⟨nb, i, none⟩ = some (.string ⟨(monTab.getD i []).toArray⟩) := by
 rw [blk_cell h]
 have h7 : i < 12 := hi
 have : i = 0 ∨ i = 1 ∨ i = 2 ∨ i = 3 ∨ i = 4 ∨ i = 5 ∨ i = 6 ∨ i = 7 ∨ i = 8 ∨ i = 9 ∨ i = 10 ∨ i = 11 := by omega
 rcases this with rfl | rfl | rfl | rfl | rfl | rfl | rfl | rfl | rfl | rfl | rfl | rfl <;> rfl
theorem day_lens (i : Nat) (hi : i < dayTab.length) : (dayTab.getD i []).length ≤ 1000 := by
 have h7 : i < 7 := hi
 have : i = 0 ∨ i = 1 ∨ i = 2 ∨ i = 3 ∨ i = 4 ∨ i = 5 ∨ i = 6 := by omega
 rcases this with rfl | rfl | rfl | rfl | rfl | rfl | rfl <;> decide
theorem mon_lens (i : Nat) (hi : i < monTab.length) : (monTab.getD i []).length ≤ 1000 := by
 have h7 : i < 12 := hi
 have : i = 0 ∨ i = 1 ∨ i = 2 ∨ i = 3 ∨ i = 4 ∨ i = 5 ∨ i = 6 ∨ i = 7 ∨ i = 8 ∨ i = 9 ∨ i = 10 ∨ i = 11 := by omega
 rcases this with rfl | rfl | rfl | rfl | rfl | rfl | rfl | rfl | rfl | rfl | rfl | rfl <;> decide
theorem bnew2 (w : World) (o p : Obj) : ((w.alloc o).alloc p).heap[w.heap.size + 1]? = some p := by
 have := blk_new (w.alloc o) p
 simpa using this
/-- Where read stands: the scanner, the result's cells, the parts' cells, the two arrays of names; all else as it was. -/
structure RD (w : World) (b rb pb dn mn : Nat) (t : List UInt8) (wr : World) (st : St) (cs : Array Value) : Prop where
 S : Scn wr b t st
 R : wr.heap[rb]? = some (.cells #[.int .i64 0, .int .i64 0, .int .i64 0, .int .i64 0, .int .i64 0, .int .i64 0, .int .i64 0, .int .i64 0, .int .i64 0, .int .i64 0, .int .i64 0, .int .i64 0, .int .i64 0] 172 (0, 0))
 P : wr.heap[pb]? = some (.cells cs 172 (0, 0))
 D : wr.heap[dn]? = some (.cells #[.string ⟨#[77, 111, 110]⟩, .string ⟨#[84, 117, 101]⟩, .string ⟨#[87, 101, 100]⟩, .string ⟨#[84, 104, 117]⟩, .string ⟨#[70, 114, 105]⟩, .string ⟨#[83, 97, 116]⟩, .string ⟨#[83, 117, 110]⟩] 203 (0, 0))
 M : wr.heap[mn]? = some (.cells #[.string ⟨#[74, 97, 110]⟩, .string ⟨#[70, 101, 98]⟩, .string ⟨#[77, 97, 114]⟩, .string ⟨#[65, 112, 114]⟩, .string ⟨#[77, 97, 121]⟩, .string ⟨#[74, 117, 110]⟩, .string ⟨#[74, 117, 108]⟩, .string ⟨#[65, 117, 103]⟩, .string ⟨#[83, 101, 112]⟩, .string ⟨#[79, 99, 116]⟩, .string ⟨#[78, 111, 118]⟩, .string ⟨#[68, 101, 99]⟩] 205 (0, 0))
 B : But b w wr
 o1 : b < w.heap.size
 o2 : w.heap.size ≤ rb
 o3 : w.heap.size ≤ pb
 o4 : w.heap.size ≤ dn
 o5 : w.heap.size ≤ mn
 o6 : rb ≠ pb
 o7 : dn ≠ pb
 o8 : mn ≠ pb
theorem RD.call {w : World} {b rb pb dn mn : Nat} {t : List UInt8} {wr w' : World} {st st' : St} {cs : Array Value} (h : RD w b rb pb dn mn t wr st cs) (hs : Scn w' b t st') (hb : But b wr w') : RD w b rb pb dn mn t w' st' cs :=
 have h1 := h.o1; have h2 := h.o2; have h3 := h.o3; have h4 := h.o4; have h5 := h.o5
 ⟨hs, blk_but hb (by omega) h.R, blk_but hb (by omega) h.P, blk_but hb (by omega) h.D, blk_but hb (by omega) h.M, h.B.trans hb, h1, h2, h3, h4, h5, h.o6, h.o7, h.o8⟩
theorem RD.below {w : World} {b rb pb dn mn : Nat} {t : List UInt8} {wr w' : World} {st : St} {cs : Array Value} (h : RD w b rb pb dn mn t wr st cs) (hb : Below wr.heap.size wr w') : RD w b rb pb dn mn t w' st cs :=
 h.call (h.S.below hb) (But.of_below hb)
theorem RD.store {w : World} {b rb pb dn mn : Nat} {t : List UInt8} {wr : World} {st : St} {cs : Array Value} (h : RD w b rb pb dn mn t wr st cs) (i : Nat) (v : Value) : RD w b rb pb dn mn t (wr.setCell ⟨pb, i, none⟩ v) st (cs.setIfInBounds i v) :=
 have h1 := h.o1; have h3 := h.o3
 ⟨by have := h.S; unfold Scn at this ⊢; rw [blk_set_ne _ _ (by omega)]; exact this, by rw [blk_set_ne _ _ h.o6]; exact h.R, by rw [blk_set h.P], by rw [blk_set_ne _ _ h.o7]; exact h.D, by rw [blk_set_ne _ _ h.o8]; exact h.M,
  ⟨h.B.os, h.B.tape, h.B.output, by have := h.B.size; simpa [World.setCell] using this, fun k hk hne => by rw [Below.heap_setCell _ _ _ _ (show k ≠ pb by omega)]; exact h.B.block k hk hne⟩, h1, h.o2, h3, h.o4, h.o5, h.o6, h.o7, h.o8⟩
theorem RD.cell {w : World} {b rb pb dn mn : Nat} {t : List UInt8} {wr : World} {st : St} {cs : Array Value} (h : RD w b rb pb dn mn t wr st cs) (i : Nat) : wr.cell? ⟨pb, i, none⟩ = cs[i]? := blk_cell h.P i
theorem RD.free {w : World} {b rb pb dn mn : Nat} {t : List UInt8} {wr : World} {st : St} {cs : Array Value} (h : RD w b rb pb dn mn t wr st cs) (i : Nat) : wr.frozen? ⟨pb, i, none⟩ = false := blk_free h.P i
theorem r1_p {t : List UInt8} : (r1 t).p ≤ t.length := by
 unfold r1; split
 ·exact skip_p (need_p (nameS_p (Nat.zero_le _)))
 ·exact Nat.zero_le _
theorem r2_p {t : List UInt8} : (r2 t).p ≤ t.length := numS_p r1_p _ _
theorem r3_p {t : List UInt8} : (r3 t).p ≤ t.length := blanks_p r2_p
theorem r4_p {t : List UInt8} : (r4 t).p ≤ t.length := nameS_p r3_p
theorem r5_p {t : List UInt8} : (r5 t).p ≤ t.length := blanks_p r4_p
theorem r6_p {t : List UInt8} : (r6 t).p ≤ t.length := numS_p r5_p _ _
theorem r7_p {t : List UInt8} : (r7 t).p ≤ t.length := blanks_p r6_p
theorem r8_p {t : List UInt8} : (r8 t).p ≤ t.length := numS_p r7_p _ _
theorem r9_p {t : List UInt8} : (r9 t).p ≤ t.length := need_p r8_p
theorem r10_p {t : List UInt8} : (r10 t).p ≤ t.length := numS_p r9_p _ _
theorem r10a_p {t : List UInt8} : (r10a t).p ≤ t.length := need_p r10_p
theorem r11_p {t : List UInt8} : (r11 t).p ≤ t.length := by
 unfold r11; split
 ·exact numS_p r10a_p _ _
 ·exact r10_p
theorem r12_p {t : List UInt8} : (r12 t).p ≤ t.length := blanks_p r11_p
set_option maxRecDepth 100000 in
set_option maxHeartbeats 3000000 in
theorem read_ff (b : Nat) (t : List UInt8) (w : World) (h : Scn w b t ⟨0, 0⟩) (hl : t.length ≤ 1000) (hw : hasW t = false) (hs : hasS t = false) :
  Calls Tryz.prog 124 #[.pointer (some ⟨b, 0, none⟩)] w fun e w' => e = .returned (.agg #[.int .i64 (pYear t), .int .i64 (pMon t), .int .i64 (pDay t), .int .i64 (pHour t), .int .i64 (pMin t), .int .i64 (pWd t), .int .i64 (pSec t), .int .i64 (pOff t), .int .i64 ((r1 t).p), .int .i64 ((r5 t).p), .int .i64 ((r7 t).p), .int .i64 ((r9 t).p), .int .i64 (pSecAt t)]) ∧ Scn w' b t (r13 t) ∧ But b w w' := by
 have HW := Lib.hid hw; clear hw
 have HH := Lib.hid hs; clear hs
 have HS := Lib.hid h; clear h
 go_enter Tryz.func124, Tryz.ntmps124
 go_wp2_with fail
 refine (dayNames_any _).mono ?_; rintro e w1 ⟨rfl, b1⟩
 go_wp2_with fail
 refine (monthNames_any _).mono ?_; rintro e w2 ⟨rfl, b2⟩
 go_wp2_with fail
 obtain ⟨w3, hw3⟩ : ∃ w3, w3 = (w2.alloc (.cells #[.string ⟨#[77, 111, 110]⟩, .string ⟨#[84, 117, 101]⟩, .string ⟨#[87, 101, 100]⟩, .string ⟨#[84, 104, 117]⟩, .string ⟨#[70, 114, 105]⟩, .string ⟨#[83, 97, 116]⟩, .string ⟨#[83, 117, 110]⟩] 203)).alloc (.cells #[.string ⟨#[74, 97, 110]⟩, .string ⟨#[70, 101, 98]⟩, .string ⟨#[77, 97, 114]⟩, .string ⟨#[65, 112, 114]⟩, .string ⟨#[77, 97, 121]⟩, .string ⟨#[74, 117, 110]⟩, .string ⟨#[74, 117, 108]⟩, .string ⟨#[65, 117, 103]⟩, .string ⟨#[83, 101, 112]⟩, .string ⟨#[79, 99, 116]⟩, .string ⟨#[78, 111, 118]⟩, .string ⟨#[68, 101, 99]⟩] 205) := ⟨_, rfl⟩
 have A0 : RD w b w.heap.size (w.heap.size + 1) w2.heap.size (w2.heap.size + 1) t w3 r0 #[.int .i64 (0), .int .i64 (0), .int .i64 (0), .int .i64 (0), .int .i64 (0), .int .i64 (-1), .int .i64 (0), .int .i64 (0), .int .i64 (0), .int .i64 (0), .int .i64 (0), .int .i64 (0), .int .i64 (0)] := by
  have z0 := HS.out.lt
  have e0 := (Below.refl w.heap.size w).alloc (Nat.le_refl _) (.cells #[.int .i64 0, .int .i64 0, .int .i64 0, .int .i64 0, .int .i64 0, .int .i64 0, .int .i64 0, .int .i64 0, .int .i64 0, .int .i64 0, .int .i64 0, .int .i64 0, .int .i64 0] 172)
  have e1 := e0.alloc (by simp) (.cells #[.int .i64 (0), .int .i64 (0), .int .i64 (0), .int .i64 (0), .int .i64 (0), .int .i64 (-1), .int .i64 (0), .int .i64 (0), .int .i64 (0), .int .i64 (0), .int .i64 (0), .int .i64 (0), .int .i64 (0)] 172)
  have z1 := b1.size
  have z2 := b2.size
  simp at z1
  have e2 := e1.trans (b1.mono (by simp; omega))
  have e3 := e2.trans (b2.mono (by omega))
  have k1 := blk_below b1 (blk_old (.cells #[.int .i64 (0), .int .i64 (0), .int .i64 (0), .int .i64 (0), .int .i64 (0), .int .i64 (-1), .int .i64 (0), .int .i64 (0), .int .i64 (0), .int .i64 (0), .int .i64 (0), .int .i64 (0), .int .i64 (0)] 172) (blk_new w (.cells #[.int .i64 0, .int .i64 0, .int .i64 0, .int .i64 0, .int .i64 0, .int .i64 0, .int .i64 0, .int .i64 0, .int .i64 0, .int .i64 0, .int .i64 0, .int .i64 0, .int .i64 0] 172)))
  have k2 := blk_below b1 (bnew2 w (.cells #[.int .i64 0, .int .i64 0, .int .i64 0, .int .i64 0, .int .i64 0, .int .i64 0, .int .i64 0, .int .i64 0, .int .i64 0, .int .i64 0, .int .i64 0, .int .i64 0, .int .i64 0] 172) (.cells #[.int .i64 (0), .int .i64 (0), .int .i64 (0), .int .i64 (0), .int .i64 (0), .int .i64 (-1), .int .i64 (0), .int .i64 (0), .int .i64 (0), .int .i64 (0), .int .i64 (0), .int .i64 (0), .int .i64 (0)] 172))
  have k1' := blk_below b2 k1
  have k2' := blk_below b2 k2
  have e5 := (e3.alloc (by omega) (.cells #[.string ⟨#[77, 111, 110]⟩, .string ⟨#[84, 117, 101]⟩, .string ⟨#[87, 101, 100]⟩, .string ⟨#[84, 104, 117]⟩, .string ⟨#[70, 114, 105]⟩, .string ⟨#[83, 97, 116]⟩, .string ⟨#[83, 117, 110]⟩] 203)).alloc (by simp; omega) (.cells #[.string ⟨#[74, 97, 110]⟩, .string ⟨#[70, 101, 98]⟩, .string ⟨#[77, 97, 114]⟩, .string ⟨#[65, 112, 114]⟩, .string ⟨#[77, 97, 121]⟩, .string ⟨#[74, 117, 110]⟩, .string ⟨#[74, 117, 108]⟩, .string ⟨#[65, 117, 103]⟩, .string ⟨#[83, 101, 112]⟩, .string ⟨#[79, 99, 116]⟩, .string ⟨#[78, 111, 118]⟩, .string ⟨#[68, 101, 99]⟩] 205)
  rw [hw3]
  exact ⟨HS.out.below e5, blk_old _ (blk_old _ k1'), blk_old _ (blk_old _ k2'), blk_old _ (blk_new _ _), bnew2 _ _ _, But.of_below e5, z0, by omega, by omega, by omega, by omega, by omega, by omega, by omega⟩
 rw [← hw3]
 clear hw3 b1 b2 HS
 have ob := A0.o1
 generalize hrb : w.heap.size = rb at *
 have HRB := Lib.hid hrb; clear hrb
 have hpb : ∃ pb, pb = rb + 1 := ⟨_, rfl⟩
 obtain ⟨pb, hpb⟩ := hpb
 rw [← hpb] at A0 ⊢
 generalize w2.heap.size = dn at *
 obtain ⟨mn, hmn⟩ : ∃ mn, mn = dn + 1 := ⟨_, rfl⟩
 rw [← hmn] at A0 ⊢
 clear hpb hmn
 have C : Calls Tryz.prog 159 #[.pointer (some ⟨b, 0, none⟩), .func (.func 160) #[] #[]] w3 fun e w' => e = .returned (.bool false) ∧ Below w3.heap.size w3 w' := (sees_let b t r0 w3 A0.S hl (Nat.zero_le _)).mono (fun _ _ h => ⟨h.1.trans (congrArg (fun x => Ending.returned (.bool x)) HW.out), h.2⟩)
 have C' := Lib.hid C; clear C
 refine C'.out.mono ?_; rintro e w4 ⟨rfl, hB⟩; clear C'
 have A1 := A0.below hB; clear hB A0; have A0 : RD w b rb pb dn mn t w4 r0 #[.int .i64 (0), .int .i64 (0), .int .i64 (0), .int .i64 (0), .int .i64 (0), .int .i64 (-1), .int .i64 (0), .int .i64 (0), .int .i64 (0), .int .i64 (0), .int .i64 (0), .int .i64 (0), .int .i64 (0)] := A1; clear A1
 go_wp2_with fail
 have A1 : RD w b rb pb dn mn t w4 (r1 t) #[.int .i64 (0), .int .i64 (0), .int .i64 (0), .int .i64 (0), .int .i64 (0), .int .i64 (-1), .int .i64 (0), .int .i64 (0), .int .i64 (0), .int .i64 (0), .int .i64 (0), .int .i64 (0), .int .i64 (0)] := by
  have e : r1 t = r0 := by unfold r1; rw [HW.out, if_neg Bool.false_ne_true]
  rw [e]; exact A0
 clear A0; have A0 := A1; clear A1
 have C : Calls Tryz.prog 166 #[.pointer (some ⟨b, 0, none⟩), .int .i64 1, .int .i64 1] w4 fun e w' => e = .returned (.tuple #[.int .i64 ((r1 t).p : Nat), .int .i64 (pDay t)]) ∧ Scn w' b t (r2 t) ∧ But b w4 w' := number_any b t (r1 t) 1 1 w4 A0.S hl r1_p (by omega) (by omega)
 have C' := Lib.hid C; clear C
 refine C'.out.mono ?_; rintro e w5 ⟨rfl, hS, hB⟩; clear C'
 have A1 := A0.call hS hB; clear hS hB A0; have A0 : RD w b rb pb dn mn t w5 (r2 t) #[.int .i64 (0), .int .i64 (0), .int .i64 (0), .int .i64 (0), .int .i64 (0), .int .i64 (-1), .int .i64 (0), .int .i64 (0), .int .i64 (0), .int .i64 (0), .int .i64 (0), .int .i64 (0), .int .i64 (0)] := A1; clear A1
 have q8 : w5.cell? ⟨pb, 8, none⟩ = some (.int .i64 (0)) := A0.cell 8
 have f8 : w5.frozen? ⟨pb, 8, none⟩ = false := A0.free 8
 have q2 : w5.cell? ⟨pb, 2, none⟩ = some (.int .i64 (0)) := A0.cell 2
 have f2 : w5.frozen? ⟨pb, 2, none⟩ = false := A0.free 2
 go_wp2_with fail
 obtain ⟨w6, hnw⟩ : ∃ x, x = ((w5.setCell ⟨pb, 8, none⟩ (.int .i64 ((r1 t).p))).setCell ⟨pb, 2, none⟩ (.int .i64 (pDay t))) := ⟨_, rfl⟩
 have A1 : RD w b rb pb dn mn t w6 (r2 t) #[.int .i64 (0), .int .i64 (0), .int .i64 (pDay t), .int .i64 (0), .int .i64 (0), .int .i64 (-1), .int .i64 (0), .int .i64 (0), .int .i64 ((r1 t).p), .int .i64 (0), .int .i64 (0), .int .i64 (0), .int .i64 (0)] := by rw [hnw]; exact ((A0.store 8 (.int .i64 ((r1 t).p))).store 2 (.int .i64 (pDay t)))
 rw [← hnw]
 clear hnw A0 q8 f8 q2 f2
 have A0 := A1; clear A1
 have C : Calls Tryz.prog 167 #[.pointer (some ⟨b, 0, none⟩)] w6 fun e w' => e = .returned (.tuple #[]) ∧ Scn w' b t (r3 t) ∧ But b w6 w' := blanks_any b t (r2 t) w6 A0.S hl r2_p
 have C' := Lib.hid C; clear C
 refine C'.out.mono ?_; rintro e w7 ⟨rfl, hS, hB⟩; clear C'
 have A1 := A0.call hS hB; clear hS hB A0; have A0 : RD w b rb pb dn mn t w7 (r3 t) #[.int .i64 (0), .int .i64 (0), .int .i64 (pDay t), .int .i64 (0), .int .i64 (0), .int .i64 (-1), .int .i64 (0), .int .i64 (0), .int .i64 ((r1 t).p), .int .i64 (0), .int .i64 (0), .int .i64 (0), .int .i64 (0)] := A1; clear A1
 go_wp2_with fail
 have C : Calls Tryz.prog 161 #[.pointer (some ⟨b, 0, none⟩), .slice (some ⟨mn, 0, none⟩) 12 12] w7 fun e w' => e = .returned (.int .i64 (nameV t monTab (r3 t) : Nat)) ∧ Scn w' b t (r4 t) ∧ But b w7 w' := nameM_any b mn t (r3 t) monTab w7 A0.S hl r3_p (by have := A0.o5; have := A0.o1; omega) (by decide) mon_lens (mon_cells A0.M)
 have C' := Lib.hid C; clear C
 refine C'.out.mono ?_; rintro e w8 ⟨rfl, hS, hB⟩; clear C'
 have A1 := A0.call hS hB; clear hS hB A0; have A0 : RD w b rb pb dn mn t w8 (r4 t) #[.int .i64 (0), .int .i64 (0), .int .i64 (pDay t), .int .i64 (0), .int .i64 (0), .int .i64 (-1), .int .i64 (0), .int .i64 (0), .int .i64 ((r1 t).p), .int .i64 (0), .int .i64 (0), .int .i64 (0), .int .i64 (0)] := A1; clear A1
 have mlt : ((nameV t monTab (r3 t) : Nat) : Int) < 12 := by have := nameV_lt (t := t) (n := monTab) (s := r3 t) (by decide); have h12 : monTab.length = 12 := rfl; omega
 have HPM : Hid (((nameV t monTab (r3 t) : Nat) : Int) + 1 = pMon t) := rfl
 generalize nameV t monTab (r3 t) = mv at *
 have q1 : w8.cell? ⟨pb, 1, none⟩ = some (.int .i64 (0)) := A0.cell 1
 have f1 : w8.frozen? ⟨pb, 1, none⟩ = false := A0.free 1
 go_wp2_with fail
 rw [HPM.out]
 obtain ⟨w9, hnw⟩ : ∃ x, x = w8.setCell ⟨pb, 1, none⟩ (.int .i64 (pMon t)) := ⟨_, rfl⟩
 have A1 : RD w b rb pb dn mn t w9 (r4 t) #[.int .i64 (0), .int .i64 (pMon t), .int .i64 (pDay t), .int .i64 (0), .int .i64 (0), .int .i64 (-1), .int .i64 (0), .int .i64 (0), .int .i64 ((r1 t).p), .int .i64 (0), .int .i64 (0), .int .i64 (0), .int .i64 (0)] := by rw [hnw]; exact A0.store 1 (.int .i64 (pMon t))
 rw [← hnw]
 clear hnw A0 q1 f1 HPM mlt
 skip
 have A0 := A1; clear A1
 have C : Calls Tryz.prog 167 #[.pointer (some ⟨b, 0, none⟩)] w9 fun e w' => e = .returned (.tuple #[]) ∧ Scn w' b t (r5 t) ∧ But b w9 w' := blanks_any b t (r4 t) w9 A0.S hl r4_p
 have C' := Lib.hid C; clear C
 refine C'.out.mono ?_; rintro e w10 ⟨rfl, hS, hB⟩; clear C'
 have A1 := A0.call hS hB; clear hS hB A0; have A0 : RD w b rb pb dn mn t w10 (r5 t) #[.int .i64 (0), .int .i64 (pMon t), .int .i64 (pDay t), .int .i64 (0), .int .i64 (0), .int .i64 (-1), .int .i64 (0), .int .i64 (0), .int .i64 ((r1 t).p), .int .i64 (0), .int .i64 (0), .int .i64 (0), .int .i64 (0)] := A1; clear A1
 go_wp2_with fail
 have C : Calls Tryz.prog 166 #[.pointer (some ⟨b, 0, none⟩), .int .i64 4, .int .i64 0] w10 fun e w' => e = .returned (.tuple #[.int .i64 ((r5 t).p : Nat), .int .i64 (pYear t)]) ∧ Scn w' b t (r6 t) ∧ But b w10 w' := number_any b t (r5 t) 4 0 w10 A0.S hl r5_p (by omega) (by omega)
 have C' := Lib.hid C; clear C
 refine C'.out.mono ?_; rintro e w11 ⟨rfl, hS, hB⟩; clear C'
 have A1 := A0.call hS hB; clear hS hB A0; have A0 : RD w b rb pb dn mn t w11 (r6 t) #[.int .i64 (0), .int .i64 (pMon t), .int .i64 (pDay t), .int .i64 (0), .int .i64 (0), .int .i64 (-1), .int .i64 (0), .int .i64 (0), .int .i64 ((r1 t).p), .int .i64 (0), .int .i64 (0), .int .i64 (0), .int .i64 (0)] := A1; clear A1
 have q9 : w11.cell? ⟨pb, 9, none⟩ = some (.int .i64 (0)) := A0.cell 9
 have f9 : w11.frozen? ⟨pb, 9, none⟩ = false := A0.free 9
 have q0 : w11.cell? ⟨pb, 0, none⟩ = some (.int .i64 (0)) := A0.cell 0
 have f0 : w11.frozen? ⟨pb, 0, none⟩ = false := A0.free 0
 go_wp2_with fail
 obtain ⟨w12, hnw⟩ : ∃ x, x = ((w11.setCell ⟨pb, 9, none⟩ (.int .i64 ((r5 t).p))).setCell ⟨pb, 0, none⟩ (.int .i64 (pYear t))) := ⟨_, rfl⟩
 have A1 : RD w b rb pb dn mn t w12 (r6 t) #[.int .i64 (pYear t), .int .i64 (pMon t), .int .i64 (pDay t), .int .i64 (0), .int .i64 (0), .int .i64 (-1), .int .i64 (0), .int .i64 (0), .int .i64 ((r1 t).p), .int .i64 ((r5 t).p), .int .i64 (0), .int .i64 (0), .int .i64 (0)] := by rw [hnw]; exact ((A0.store 9 (.int .i64 ((r5 t).p))).store 0 (.int .i64 (pYear t)))
 rw [← hnw]
 clear hnw A0 q9 f9 q0 f0
 have A0 := A1; clear A1
 have C : Calls Tryz.prog 167 #[.pointer (some ⟨b, 0, none⟩)] w12 fun e w' => e = .returned (.tuple #[]) ∧ Scn w' b t (r7 t) ∧ But b w12 w' := blanks_any b t (r6 t) w12 A0.S hl r6_p
 have C' := Lib.hid C; clear C
 refine C'.out.mono ?_; rintro e w13 ⟨rfl, hS, hB⟩; clear C'
 have A1 := A0.call hS hB; clear hS hB A0; have A0 : RD w b rb pb dn mn t w13 (r7 t) #[.int .i64 (pYear t), .int .i64 (pMon t), .int .i64 (pDay t), .int .i64 (0), .int .i64 (0), .int .i64 (-1), .int .i64 (0), .int .i64 (0), .int .i64 ((r1 t).p), .int .i64 ((r5 t).p), .int .i64 (0), .int .i64 (0), .int .i64 (0)] := A1; clear A1
 go_wp2_with fail
 have C : Calls Tryz.prog 166 #[.pointer (some ⟨b, 0, none⟩), .int .i64 2, .int .i64 0] w13 fun e w' => e = .returned (.tuple #[.int .i64 ((r7 t).p : Nat), .int .i64 (pHour t)]) ∧ Scn w' b t (r8 t) ∧ But b w13 w' := number_any b t (r7 t) 2 0 w13 A0.S hl r7_p (by omega) (by omega)
 have C' := Lib.hid C; clear C
 refine C'.out.mono ?_; rintro e w14 ⟨rfl, hS, hB⟩; clear C'
 have A1 := A0.call hS hB; clear hS hB A0; have A0 : RD w b rb pb dn mn t w14 (r8 t) #[.int .i64 (pYear t), .int .i64 (pMon t), .int .i64 (pDay t), .int .i64 (0), .int .i64 (0), .int .i64 (-1), .int .i64 (0), .int .i64 (0), .int .i64 ((r1 t).p), .int .i64 ((r5 t).p), .int .i64 (0), .int .i64 (0), .int .i64 (0)] := A1; clear A1
 have q10 : w14.cell? ⟨pb, 10, none⟩ = some (.int .i64 (0)) := A0.cell 10
 have f10 : w14.frozen? ⟨pb, 10, none⟩ = false := A0.free 10
 have q3 : w14.cell? ⟨pb, 3, none⟩ = some (.int .i64 (0)) := A0.cell 3
 have f3 : w14.frozen? ⟨pb, 3, none⟩ = false := A0.free 3
 go_wp2_with fail
 obtain ⟨w15, hnw⟩ : ∃ x, x = ((w14.setCell ⟨pb, 10, none⟩ (.int .i64 ((r7 t).p))).setCell ⟨pb, 3, none⟩ (.int .i64 (pHour t))) := ⟨_, rfl⟩
 have A1 : RD w b rb pb dn mn t w15 (r8 t) #[.int .i64 (pYear t), .int .i64 (pMon t), .int .i64 (pDay t), .int .i64 (pHour t), .int .i64 (0), .int .i64 (-1), .int .i64 (0), .int .i64 (0), .int .i64 ((r1 t).p), .int .i64 ((r5 t).p), .int .i64 ((r7 t).p), .int .i64 (0), .int .i64 (0)] := by rw [hnw]; exact ((A0.store 10 (.int .i64 ((r7 t).p))).store 3 (.int .i64 (pHour t)))
 rw [← hnw]
 clear hnw A0 q10 f10 q3 f3
 have A0 := A1; clear A1
 refine (is_any 58 w15).mono ?_; rintro e w16 ⟨rfl, hX, hB⟩
 have HX := Lib.hid hX; clear hX
 have A1 := A0.below hB; clear hB A0; have A0 : RD w b rb pb dn mn t w16 (r8 t) #[.int .i64 (pYear t), .int .i64 (pMon t), .int .i64 (pDay t), .int .i64 (pHour t), .int .i64 (0), .int .i64 (-1), .int .i64 (0), .int .i64 (0), .int .i64 ((r1 t).p), .int .i64 ((r5 t).p), .int .i64 ((r7 t).p), .int .i64 (0), .int .i64 (0)] := A1; clear A1
 generalize w15.heap.size = cb at *
 go_wp2_with fail
 have C : Calls Tryz.prog 162 #[.pointer (some ⟨b, 0, none⟩), .func (.func 206) #[] #[.pointer (some ⟨cb, 0, none⟩)]] w16 fun e w' => e = .returned (.int .u8 (needB t (isCh 58) (r8 t)).toNat) ∧ Scn w' b t (r9 t) ∧ But b w16 w' := need_ch b t (r8 t) 58 cb w16 A0.S hl r8_p HX.out
 have C' := Lib.hid C; clear C
 refine C'.out.mono ?_; rintro e w17 ⟨rfl, hS, hB⟩; clear C'
 have A1 := A0.call hS hB; clear hS hB A0; have A0 : RD w b rb pb dn mn t w17 (r9 t) #[.int .i64 (pYear t), .int .i64 (pMon t), .int .i64 (pDay t), .int .i64 (pHour t), .int .i64 (0), .int .i64 (-1), .int .i64 (0), .int .i64 (0), .int .i64 ((r1 t).p), .int .i64 ((r5 t).p), .int .i64 ((r7 t).p), .int .i64 (0), .int .i64 (0)] := A1; clear A1
 clear HX
 go_wp2_with fail
 have C : Calls Tryz.prog 166 #[.pointer (some ⟨b, 0, none⟩), .int .i64 2, .int .i64 0] w17 fun e w' => e = .returned (.tuple #[.int .i64 ((r9 t).p : Nat), .int .i64 (pMin t)]) ∧ Scn w' b t (r10 t) ∧ But b w17 w' := number_any b t (r9 t) 2 0 w17 A0.S hl r9_p (by omega) (by omega)
 have C' := Lib.hid C; clear C
 refine C'.out.mono ?_; rintro e w18 ⟨rfl, hS, hB⟩; clear C'
 have A1 := A0.call hS hB; clear hS hB A0; have A0 : RD w b rb pb dn mn t w18 (r10 t) #[.int .i64 (pYear t), .int .i64 (pMon t), .int .i64 (pDay t), .int .i64 (pHour t), .int .i64 (0), .int .i64 (-1), .int .i64 (0), .int .i64 (0), .int .i64 ((r1 t).p), .int .i64 ((r5 t).p), .int .i64 ((r7 t).p), .int .i64 (0), .int .i64 (0)] := A1; clear A1
 have q11 : w18.cell? ⟨pb, 11, none⟩ = some (.int .i64 (0)) := A0.cell 11
 have f11 : w18.frozen? ⟨pb, 11, none⟩ = false := A0.free 11
 have q4 : w18.cell? ⟨pb, 4, none⟩ = some (.int .i64 (0)) := A0.cell 4
 have f4 : w18.frozen? ⟨pb, 4, none⟩ = false := A0.free 4
 go_wp2_with fail
 obtain ⟨w19, hnw⟩ : ∃ x, x = ((w18.setCell ⟨pb, 11, none⟩ (.int .i64 ((r9 t).p))).setCell ⟨pb, 4, none⟩ (.int .i64 (pMin t))) := ⟨_, rfl⟩
 have A1 : RD w b rb pb dn mn t w19 (r10 t) #[.int .i64 (pYear t), .int .i64 (pMon t), .int .i64 (pDay t), .int .i64 (pHour t), .int .i64 (pMin t), .int .i64 (-1), .int .i64 (0), .int .i64 (0), .int .i64 ((r1 t).p), .int .i64 ((r5 t).p), .int .i64 ((r7 t).p), .int .i64 ((r9 t).p), .int .i64 (0)] := by rw [hnw]; exact ((A0.store 11 (.int .i64 ((r9 t).p))).store 4 (.int .i64 (pMin t)))
 rw [← hnw]
 clear hnw A0 q11 f11 q4 f4
 have A0 := A1; clear A1
 refine (is_any 58 w19).mono ?_; rintro e w20 ⟨rfl, hX, hB⟩
 have HX := Lib.hid hX; clear hX
 have A1 := A0.below hB; clear hB A0; have A0 : RD w b rb pb dn mn t w20 (r10 t) #[.int .i64 (pYear t), .int .i64 (pMon t), .int .i64 (pDay t), .int .i64 (pHour t), .int .i64 (pMin t), .int .i64 (-1), .int .i64 (0), .int .i64 (0), .int .i64 ((r1 t).p), .int .i64 ((r5 t).p), .int .i64 ((r7 t).p), .int .i64 ((r9 t).p), .int .i64 (0)] := A1; clear A1
 generalize w19.heap.size = cb at *
 go_wp2_with fail
 have C : Calls Tryz.prog 159 #[.pointer (some ⟨b, 0, none⟩), .func (.func 206) #[] #[.pointer (some ⟨cb, 0, none⟩)]] w20 fun e w' => e = .returned (.bool false) ∧ Below w20.heap.size w20 w' := (sees_ch b t (r10 t) 58 cb w20 A0.S hl r10_p HX.out).mono (fun _ _ h => ⟨h.1.trans (congrArg (fun x => Ending.returned (.bool x)) HH.out), h.2⟩)
 have C' := Lib.hid C; clear C
 refine C'.out.mono ?_; rintro e w21 ⟨rfl, hB⟩; clear C'
 have A1 := A0.below hB; clear hB A0; have A0 : RD w b rb pb dn mn t w21 (r10 t) #[.int .i64 (pYear t), .int .i64 (pMon t), .int .i64 (pDay t), .int .i64 (pHour t), .int .i64 (pMin t), .int .i64 (-1), .int .i64 (0), .int .i64 (0), .int .i64 ((r1 t).p), .int .i64 ((r5 t).p), .int .i64 ((r7 t).p), .int .i64 ((r9 t).p), .int .i64 (0)] := A1; clear A1
 clear HX
 go_wp2_with fail
 have A1 : RD w b rb pb dn mn t w21 (r11 t) #[.int .i64 (pYear t), .int .i64 (pMon t), .int .i64 (pDay t), .int .i64 (pHour t), .int .i64 (pMin t), .int .i64 (-1), .int .i64 (pSec t), .int .i64 (0), .int .i64 ((r1 t).p), .int .i64 ((r5 t).p), .int .i64 ((r7 t).p), .int .i64 ((r9 t).p), .int .i64 (pSecAt t)] := by
  have e : r11 t = r10 t := by unfold r11; rw [HH.out, if_neg Bool.false_ne_true]
  have e1 : pSecAt t = 0 := by unfold pSecAt; rw [HH.out, if_neg Bool.false_ne_true]
  have e2 : pSec t = 0 := by unfold pSec; rw [HH.out, if_neg Bool.false_ne_true]
  rw [e, e1, e2]; exact A0
 clear A0; have A0 := A1; clear A1
 have C : Calls Tryz.prog 167 #[.pointer (some ⟨b, 0, none⟩)] w21 fun e w' => e = .returned (.tuple #[]) ∧ Scn w' b t (r12 t) ∧ But b w21 w' := blanks_any b t (r11 t) w21 A0.S hl r11_p
 have C' := Lib.hid C; clear C
 refine C'.out.mono ?_; rintro e w22 ⟨rfl, hS, hB⟩; clear C'
 have A1 := A0.call hS hB; clear hS hB A0; have A0 : RD w b rb pb dn mn t w22 (r12 t) #[.int .i64 (pYear t), .int .i64 (pMon t), .int .i64 (pDay t), .int .i64 (pHour t), .int .i64 (pMin t), .int .i64 (-1), .int .i64 (pSec t), .int .i64 (0), .int .i64 ((r1 t).p), .int .i64 ((r5 t).p), .int .i64 ((r7 t).p), .int .i64 ((r9 t).p), .int .i64 (pSecAt t)] := A1; clear A1
 go_wp2_with fail
 have C : Calls Tryz.prog 168 #[.pointer (some ⟨b, 0, none⟩)] w22 fun e w' => e = .returned (.int .i64 (pOff t)) ∧ Scn w' b t (r13 t) ∧ But b w22 w' := zoneM_any b t (r12 t) w22 A0.S hl r12_p
 have C' := Lib.hid C; clear C
 refine C'.out.mono ?_; rintro e w23 ⟨rfl, hS, hB⟩; clear C'
 have A1 := A0.call hS hB; clear hS hB A0; have A0 : RD w b rb pb dn mn t w23 (r13 t) #[.int .i64 (pYear t), .int .i64 (pMon t), .int .i64 (pDay t), .int .i64 (pHour t), .int .i64 (pMin t), .int .i64 (-1), .int .i64 (pSec t), .int .i64 (0), .int .i64 ((r1 t).p), .int .i64 ((r5 t).p), .int .i64 ((r7 t).p), .int .i64 ((r9 t).p), .int .i64 (pSecAt t)] := A1; clear A1
 have epw : pWd t = -1 := by unfold pWd; rw [HW.out, if_neg Bool.false_ne_true]
 have A1 : RD w b rb pb dn mn t w23 (r13 t) #[.int .i64 (pYear t), .int .i64 (pMon t), .int .i64 (pDay t), .int .i64 (pHour t), .int .i64 (pMin t), .int .i64 (pWd t), .int .i64 (pSec t), .int .i64 (0), .int .i64 ((r1 t).p), .int .i64 ((r5 t).p), .int .i64 ((r7 t).p), .int .i64 ((r9 t).p), .int .i64 (pSecAt t)] := by rw [epw]; exact A0
 clear A0 epw; have A0 := A1; clear A1
 have q7 : w23.cell? ⟨pb, 7, none⟩ = some (.int .i64 (0)) := A0.cell 7
 have f7 : w23.frozen? ⟨pb, 7, none⟩ = false := A0.free 7
 go_upto_region 21 with (fail)
 obtain ⟨w24, hnw⟩ : ∃ x, x = w23.setCell ⟨pb, 7, none⟩ (.int .i64 (pOff t)) := ⟨_, rfl⟩
 have A1 : RD w b rb pb dn mn t w24 (r13 t) #[.int .i64 (pYear t), .int .i64 (pMon t), .int .i64 (pDay t), .int .i64 (pHour t), .int .i64 (pMin t), .int .i64 (pWd t), .int .i64 (pSec t), .int .i64 (pOff t), .int .i64 ((r1 t).p), .int .i64 ((r5 t).p), .int .i64 ((r7 t).p), .int .i64 ((r9 t).p), .int .i64 (pSecAt t)] := by rw [hnw]; exact A0.store 7 (.int .i64 (pOff t))
 rw [← hnw]
 clear hnw A0 q7 f7
 have A0 := A1; clear A1
 have q0 : w24.cell? ⟨pb, 0, none⟩ = some (.int .i64 (pYear t)) := A0.cell 0
 have g0 : w24.cell? ⟨rb, 0, none⟩ = some (.int .i64 0) := blk_cell A0.R 0
 have q1 : w24.cell? ⟨pb, 1, none⟩ = some (.int .i64 (pMon t)) := A0.cell 1
 have g1 : w24.cell? ⟨rb, 1, none⟩ = some (.int .i64 0) := blk_cell A0.R 1
 have q2 : w24.cell? ⟨pb, 2, none⟩ = some (.int .i64 (pDay t)) := A0.cell 2
 have g2 : w24.cell? ⟨rb, 2, none⟩ = some (.int .i64 0) := blk_cell A0.R 2
 have q3 : w24.cell? ⟨pb, 3, none⟩ = some (.int .i64 (pHour t)) := A0.cell 3
 have g3 : w24.cell? ⟨rb, 3, none⟩ = some (.int .i64 0) := blk_cell A0.R 3
 have q4 : w24.cell? ⟨pb, 4, none⟩ = some (.int .i64 (pMin t)) := A0.cell 4
 have g4 : w24.cell? ⟨rb, 4, none⟩ = some (.int .i64 0) := blk_cell A0.R 4
 have q5 : w24.cell? ⟨pb, 5, none⟩ = some (.int .i64 (pWd t)) := A0.cell 5
 have g5 : w24.cell? ⟨rb, 5, none⟩ = some (.int .i64 0) := blk_cell A0.R 5
 have q6 : w24.cell? ⟨pb, 6, none⟩ = some (.int .i64 (pSec t)) := A0.cell 6
 have g6 : w24.cell? ⟨rb, 6, none⟩ = some (.int .i64 0) := blk_cell A0.R 6
 have q7 : w24.cell? ⟨pb, 7, none⟩ = some (.int .i64 (pOff t)) := A0.cell 7
 have g7 : w24.cell? ⟨rb, 7, none⟩ = some (.int .i64 0) := blk_cell A0.R 7
 have q8 : w24.cell? ⟨pb, 8, none⟩ = some (.int .i64 ((r1 t).p)) := A0.cell 8
 have g8 : w24.cell? ⟨rb, 8, none⟩ = some (.int .i64 0) := blk_cell A0.R 8
 have q9 : w24.cell? ⟨pb, 9, none⟩ = some (.int .i64 ((r5 t).p)) := A0.cell 9
 have g9 : w24.cell? ⟨rb, 9, none⟩ = some (.int .i64 0) := blk_cell A0.R 9
 have q10 : w24.cell? ⟨pb, 10, none⟩ = some (.int .i64 ((r7 t).p)) := A0.cell 10
 have g10 : w24.cell? ⟨rb, 10, none⟩ = some (.int .i64 0) := blk_cell A0.R 10
 have q11 : w24.cell? ⟨pb, 11, none⟩ = some (.int .i64 ((r9 t).p)) := A0.cell 11
 have g11 : w24.cell? ⟨rb, 11, none⟩ = some (.int .i64 0) := blk_cell A0.R 11
 have q12 : w24.cell? ⟨pb, 12, none⟩ = some (.int .i64 (pSecAt t)) := A0.cell 12
 have g12 : w24.cell? ⟨rb, 12, none⟩ = some (.int .i64 0) := blk_cell A0.R 12
 have gf : ∀ i, w24.frozen? ⟨rb, i, none⟩ = false := blk_free A0.R
 have nrp := A0.o6
 have npr := Ne.symm nrp
 have A9 := A0.S
 have B9 := A0.B
 have o1 := A0.o1
 have o2 := A0.o2
 clear A0
 have A9' := Lib.hid A9; clear A9
 go_wp2_with fail
 refine bodyPost_ret (v := .agg #[.int .i64 (pYear t), .int .i64 (pMon t), .int .i64 (pDay t), .int .i64 (pHour t), .int .i64 (pMin t), .int .i64 (pWd t), .int .i64 (pSec t), .int .i64 (pOff t), .int .i64 ((r1 t).p), .int .i64 ((r5 t).p), .int .i64 ((r7 t).p), .int .i64 ((r9 t).p), .int .i64 (pSecAt t)]) (by simp [results, Tryz.results124, go_sem, g0, g1, g2, g3, g4, g5, g6, g7, g8, g9, g10, g11, g12]) rfl ⟨rfl, ?_, ?_⟩
 ·have hne : b ≠ rb := by omega
  have key : ∀ (u : World) (i : Nat) (v : Value), Scn u b t (r13 t) → Scn (u.setCell ⟨rb, i, none⟩ v) b t (r13 t) := fun u i v hu => by unfold Scn at hu ⊢; rw [blk_set_ne _ _ hne]; exact hu
  repeat refine key _ _ _ ?_
  exact A9'.out
 ·have key : ∀ (u : World) (i : Nat) (v : Value), But b w u → But b w (u.setCell ⟨rb, i, none⟩ v) := fun u i v hu =>
   ⟨hu.os, hu.tape, hu.output, by have := hu.size; simpa [World.setCell] using this, fun k hk hne => by rw [Below.heap_setCell _ _ _ _ (show k ≠ rb by omega)]; exact hu.block k hk hne⟩
  repeat refine key _ _ _ ?_
  exact B9
set_option maxRecDepth 100000 in
set_option maxHeartbeats 3000000 in
theorem read_tf (b : Nat) (t : List UInt8) (w : World) (h : Scn w b t ⟨0, 0⟩) (hl : t.length ≤ 1000) (hw : hasW t = true) (hs : hasS t = false) :
  Calls Tryz.prog 124 #[.pointer (some ⟨b, 0, none⟩)] w fun e w' => e = .returned (.agg #[.int .i64 (pYear t), .int .i64 (pMon t), .int .i64 (pDay t), .int .i64 (pHour t), .int .i64 (pMin t), .int .i64 (pWd t), .int .i64 (pSec t), .int .i64 (pOff t), .int .i64 ((r1 t).p), .int .i64 ((r5 t).p), .int .i64 ((r7 t).p), .int .i64 ((r9 t).p), .int .i64 (pSecAt t)]) ∧ Scn w' b t (r13 t) ∧ But b w w' := by
 have HW := Lib.hid hw; clear hw
 have HH := Lib.hid hs; clear hs
 have HS := Lib.hid h; clear h
 go_enter Tryz.func124, Tryz.ntmps124
 go_wp2_with fail
 refine (dayNames_any _).mono ?_; rintro e w1 ⟨rfl, b1⟩
 go_wp2_with fail
 refine (monthNames_any _).mono ?_; rintro e w2 ⟨rfl, b2⟩
 go_wp2_with fail
 obtain ⟨w3, hw3⟩ : ∃ w3, w3 = (w2.alloc (.cells #[.string ⟨#[77, 111, 110]⟩, .string ⟨#[84, 117, 101]⟩, .string ⟨#[87, 101, 100]⟩, .string ⟨#[84, 104, 117]⟩, .string ⟨#[70, 114, 105]⟩, .string ⟨#[83, 97, 116]⟩, .string ⟨#[83, 117, 110]⟩] 203)).alloc (.cells #[.string ⟨#[74, 97, 110]⟩, .string ⟨#[70, 101, 98]⟩, .string ⟨#[77, 97, 114]⟩, .string ⟨#[65, 112, 114]⟩, .string ⟨#[77, 97, 121]⟩, .string ⟨#[74, 117, 110]⟩, .string ⟨#[74, 117, 108]⟩, .string ⟨#[65, 117, 103]⟩, .string ⟨#[83, 101, 112]⟩, .string ⟨#[79, 99, 116]⟩, .string ⟨#[78, 111, 118]⟩, .string ⟨#[68, 101, 99]⟩] 205) := ⟨_, rfl⟩
 have A0 : RD w b w.heap.size (w.heap.size + 1) w2.heap.size (w2.heap.size + 1) t w3 r0 #[.int .i64 (0), .int .i64 (0), .int .i64 (0), .int .i64 (0), .int .i64 (0), .int .i64 (-1), .int .i64 (0), .int .i64 (0), .int .i64 (0), .int .i64 (0), .int .i64 (0), .int .i64 (0), .int .i64 (0)] := by
  have z0 := HS.out.lt
  have e0 := (Below.refl w.heap.size w).alloc (Nat.le_refl _) (.cells #[.int .i64 0, .int .i64 0, .int .i64 0, .int .i64 0, .int .i64 0, .int .i64 0, .int .i64 0, .int .i64 0, .int .i64 0, .int .i64 0, .int .i64 0, .int .i64 0, .int .i64 0] 172)
  have e1 := e0.alloc (by simp) (.cells #[.int .i64 (0), .int .i64 (0), .int .i64 (0), .int .i64 (0), .int .i64 (0), .int .i64 (-1), .int .i64 (0), .int .i64 (0), .int .i64 (0), .int .i64 (0), .int .i64 (0), .int .i64 (0), .int .i64 (0)] 172)
  have z1 := b1.size
  have z2 := b2.size
  simp at z1
  have e2 := e1.trans (b1.mono (by simp; omega))
  have e3 := e2.trans (b2.mono (by omega))
  have k1 := blk_below b1 (blk_old (.cells #[.int .i64 (0), .int .i64 (0), .int .i64 (0), .int .i64 (0), .int .i64 (0), .int .i64 (-1), .int .i64 (0), .int .i64 (0), .int .i64 (0), .int .i64 (0), .int .i64 (0), .int .i64 (0), .int .i64 (0)] 172) (blk_new w (.cells #[.int .i64 0, .int .i64 0, .int .i64 0, .int .i64 0, .int .i64 0, .int .i64 0, .int .i64 0, .int .i64 0, .int .i64 0, .int .i64 0, .int .i64 0, .int .i64 0, .int .i64 0] 172)))
  have k2 := blk_below b1 (bnew2 w (.cells #[.int .i64 0, .int .i64 0, .int .i64 0, .int .i64 0, .int .i64 0, .int .i64 0, .int .i64 0, .int .i64 0, .int .i64 0, .int .i64 0, .int .i64 0, .int .i64 0, .int .i64 0] 172) (.cells #[.int .i64 (0), .int .i64 (0), .int .i64 (0), .int .i64 (0), .int .i64 (0), .int .i64 (-1), .int .i64 (0), .int .i64 (0), .int .i64 (0), .int .i64 (0), .int .i64 (0), .int .i64 (0), .int .i64 (0)] 172))
  have k1' := blk_below b2 k1
  have k2' := blk_below b2 k2
  have e5 := (e3.alloc (by omega) (.cells #[.string ⟨#[77, 111, 110]⟩, .string ⟨#[84, 117, 101]⟩, .string ⟨#[87, 101, 100]⟩, .string ⟨#[84, 104, 117]⟩, .string ⟨#[70, 114, 105]⟩, .string ⟨#[83, 97, 116]⟩, .string ⟨#[83, 117, 110]⟩] 203)).alloc (by simp; omega) (.cells #[.string ⟨#[74, 97, 110]⟩, .string ⟨#[70, 101, 98]⟩, .string ⟨#[77, 97, 114]⟩, .string ⟨#[65, 112, 114]⟩, .string ⟨#[77, 97, 121]⟩, .string ⟨#[74, 117, 110]⟩, .string ⟨#[74, 117, 108]⟩, .string ⟨#[65, 117, 103]⟩, .string ⟨#[83, 101, 112]⟩, .string ⟨#[79, 99, 116]⟩, .string ⟨#[78, 111, 118]⟩, .string ⟨#[68, 101, 99]⟩] 205)
  rw [hw3]
  exact ⟨HS.out.below e5, blk_old _ (blk_old _ k1'), blk_old _ (blk_old _ k2'), blk_old _ (blk_new _ _), bnew2 _ _ _, But.of_below e5, z0, by omega, by omega, by omega, by omega, by omega, by omega, by omega⟩
 rw [← hw3]
 clear hw3 b1 b2 HS
 have ob := A0.o1
 generalize hrb : w.heap.size = rb at *
 have HRB := Lib.hid hrb; clear hrb
 have hpb : ∃ pb, pb = rb + 1 := ⟨_, rfl⟩
 obtain ⟨pb, hpb⟩ := hpb
 rw [← hpb] at A0 ⊢
 generalize w2.heap.size = dn at *
 obtain ⟨mn, hmn⟩ : ∃ mn, mn = dn + 1 := ⟨_, rfl⟩
 rw [← hmn] at A0 ⊢
 clear hpb hmn
 have C : Calls Tryz.prog 159 #[.pointer (some ⟨b, 0, none⟩), .func (.func 160) #[] #[]] w3 fun e w' => e = .returned (.bool true) ∧ Below w3.heap.size w3 w' := (sees_let b t r0 w3 A0.S hl (Nat.zero_le _)).mono (fun _ _ h => ⟨h.1.trans (congrArg (fun x => Ending.returned (.bool x)) HW.out), h.2⟩)
 have C' := Lib.hid C; clear C
 refine C'.out.mono ?_; rintro e w4 ⟨rfl, hB⟩; clear C'
 have A1 := A0.below hB; clear hB A0; have A0 : RD w b rb pb dn mn t w4 r0 #[.int .i64 (0), .int .i64 (0), .int .i64 (0), .int .i64 (0), .int .i64 (0), .int .i64 (-1), .int .i64 (0), .int .i64 (0), .int .i64 (0), .int .i64 (0), .int .i64 (0), .int .i64 (0), .int .i64 (0)] := A1; clear A1
 go_wp2_with fail
 have C : Calls Tryz.prog 161 #[.pointer (some ⟨b, 0, none⟩), .slice (some ⟨dn, 0, none⟩) 7 7] w4 fun e w' => e = .returned (.int .i64 (nameV t dayTab r0 : Nat)) ∧ Scn w' b t (nameS t dayTab r0) ∧ But b w4 w' := nameM_any b dn t r0 dayTab w4 A0.S hl (Nat.zero_le _) (by have := A0.o4; have := A0.o1; omega) (by decide) day_lens (day_cells A0.D)
 have C' := Lib.hid C; clear C
 refine C'.out.mono ?_; rintro e w5 ⟨rfl, hS, hB⟩; clear C'
 have A1 := A0.call hS hB; clear hS hB A0; have A0 : RD w b rb pb dn mn t w5 (nameS t dayTab r0) #[.int .i64 (0), .int .i64 (0), .int .i64 (0), .int .i64 (0), .int .i64 (0), .int .i64 (-1), .int .i64 (0), .int .i64 (0), .int .i64 (0), .int .i64 (0), .int .i64 (0), .int .i64 (0), .int .i64 (0)] := A1; clear A1
 have hpw : ((nameV t dayTab r0 : Nat) : Int) = pWd t := by unfold pWd; rw [HW.out, if_pos rfl]
 rw [hpw]; clear hpw
 have q5 : w5.cell? ⟨pb, 5, none⟩ = some (.int .i64 (-1)) := A0.cell 5
 have f5 : w5.frozen? ⟨pb, 5, none⟩ = false := A0.free 5
 go_wp2_with fail
 obtain ⟨w6, hnw⟩ : ∃ x, x = (w5.setCell ⟨pb, 5, none⟩ (.int .i64 (pWd t))) := ⟨_, rfl⟩
 have A1 : RD w b rb pb dn mn t w6 (nameS t dayTab r0) #[.int .i64 (0), .int .i64 (0), .int .i64 (0), .int .i64 (0), .int .i64 (0), .int .i64 (pWd t), .int .i64 (0), .int .i64 (0), .int .i64 (0), .int .i64 (0), .int .i64 (0), .int .i64 (0), .int .i64 (0)] := by rw [hnw]; exact (A0.store 5 (.int .i64 (pWd t)))
 rw [← hnw]
 clear hnw A0 q5 f5
 have A0 := A1; clear A1
 refine (is_any 44 w6).mono ?_; rintro e w7 ⟨rfl, hX, hB⟩
 have HX := Lib.hid hX; clear hX
 have A1 := A0.below hB; clear hB A0; have A0 : RD w b rb pb dn mn t w7 (nameS t dayTab r0) #[.int .i64 (0), .int .i64 (0), .int .i64 (0), .int .i64 (0), .int .i64 (0), .int .i64 (pWd t), .int .i64 (0), .int .i64 (0), .int .i64 (0), .int .i64 (0), .int .i64 (0), .int .i64 (0), .int .i64 (0)] := A1; clear A1
 generalize w6.heap.size = cb at *
 go_wp2_with fail
 have C : Calls Tryz.prog 162 #[.pointer (some ⟨b, 0, none⟩), .func (.func 206) #[] #[.pointer (some ⟨cb, 0, none⟩)]] w7 fun e w' => e = .returned (.int .u8 (needB t (isCh 44) (nameS t dayTab r0)).toNat) ∧ Scn w' b t (need t (isCh 44) (nameS t dayTab r0)) ∧ But b w7 w' := need_ch b t _ 44 cb w7 A0.S hl (nameS_p (Nat.zero_le _)) HX.out
 have C' := Lib.hid C; clear C
 refine C'.out.mono ?_; rintro e w8 ⟨rfl, hS, hB⟩; clear C'
 have A1 := A0.call hS hB; clear hS hB A0; have A0 : RD w b rb pb dn mn t w8 (need t (isCh 44) (nameS t dayTab r0)) #[.int .i64 (0), .int .i64 (0), .int .i64 (0), .int .i64 (0), .int .i64 (0), .int .i64 (pWd t), .int .i64 (0), .int .i64 (0), .int .i64 (0), .int .i64 (0), .int .i64 (0), .int .i64 (0), .int .i64 (0)] := A1; clear A1
 clear HX
 go_wp2_with fail
 have C : Calls Tryz.prog 164 #[.pointer (some ⟨b, 0, none⟩), .func (.func 165) #[] #[]] w8 fun e w' => e = .returned (.tuple #[]) ∧ Scn w' b t (skip t isBl (need t (isCh 44) (nameS t dayTab r0))) ∧ But b w8 w' := skip_bl b t _ w8 A0.S hl (need_p (nameS_p (Nat.zero_le _)))
 have C' := Lib.hid C; clear C
 refine C'.out.mono ?_; rintro e w9 ⟨rfl, hS, hB⟩; clear C'
 have A1 := A0.call hS hB; clear hS hB A0; have A0 : RD w b rb pb dn mn t w9 (skip t isBl (need t (isCh 44) (nameS t dayTab r0))) #[.int .i64 (0), .int .i64 (0), .int .i64 (0), .int .i64 (0), .int .i64 (0), .int .i64 (pWd t), .int .i64 (0), .int .i64 (0), .int .i64 (0), .int .i64 (0), .int .i64 (0), .int .i64 (0), .int .i64 (0)] := A1; clear A1
 have A1 : RD w b rb pb dn mn t w9 (r1 t) #[.int .i64 (0), .int .i64 (0), .int .i64 (0), .int .i64 (0), .int .i64 (0), .int .i64 (pWd t), .int .i64 (0), .int .i64 (0), .int .i64 (0), .int .i64 (0), .int .i64 (0), .int .i64 (0), .int .i64 (0)] := by
  have e : r1 t = skip t isBl (need t (isCh 44) (nameS t dayTab r0)) := by unfold r1; rw [HW.out, if_pos rfl]
  rw [e]; exact A0
 clear A0; have A0 := A1; clear A1
 go_wp2_with fail
 have C : Calls Tryz.prog 166 #[.pointer (some ⟨b, 0, none⟩), .int .i64 1, .int .i64 1] w9 fun e w' => e = .returned (.tuple #[.int .i64 ((r1 t).p : Nat), .int .i64 (pDay t)]) ∧ Scn w' b t (r2 t) ∧ But b w9 w' := number_any b t (r1 t) 1 1 w9 A0.S hl r1_p (by omega) (by omega)
 have C' := Lib.hid C; clear C
 refine C'.out.mono ?_; rintro e w10 ⟨rfl, hS, hB⟩; clear C'
 have A1 := A0.call hS hB; clear hS hB A0; have A0 : RD w b rb pb dn mn t w10 (r2 t) #[.int .i64 (0), .int .i64 (0), .int .i64 (0), .int .i64 (0), .int .i64 (0), .int .i64 (pWd t), .int .i64 (0), .int .i64 (0), .int .i64 (0), .int .i64 (0), .int .i64 (0), .int .i64 (0), .int .i64 (0)] := A1; clear A1
 have q8 : w10.cell? ⟨pb, 8, none⟩ = some (.int .i64 (0)) := A0.cell 8
 have f8 : w10.frozen? ⟨pb, 8, none⟩ = false := A0.free 8
 have q2 : w10.cell? ⟨pb, 2, none⟩ = some (.int .i64 (0)) := A0.cell 2
 have f2 : w10.frozen? ⟨pb, 2, none⟩ = false := A0.free 2
 go_wp2_with fail
 obtain ⟨w11, hnw⟩ : ∃ x, x = ((w10.setCell ⟨pb, 8, none⟩ (.int .i64 ((r1 t).p))).setCell ⟨pb, 2, none⟩ (.int .i64 (pDay t))) := ⟨_, rfl⟩
 have A1 : RD w b rb pb dn mn t w11 (r2 t) #[.int .i64 (0), .int .i64 (0), .int .i64 (pDay t), .int .i64 (0), .int .i64 (0), .int .i64 (pWd t), .int .i64 (0), .int .i64 (0), .int .i64 ((r1 t).p), .int .i64 (0), .int .i64 (0), .int .i64 (0), .int .i64 (0)] := by rw [hnw]; exact ((A0.store 8 (.int .i64 ((r1 t).p))).store 2 (.int .i64 (pDay t)))
 rw [← hnw]
 clear hnw A0 q8 f8 q2 f2
 have A0 := A1; clear A1
 have C : Calls Tryz.prog 167 #[.pointer (some ⟨b, 0, none⟩)] w11 fun e w' => e = .returned (.tuple #[]) ∧ Scn w' b t (r3 t) ∧ But b w11 w' := blanks_any b t (r2 t) w11 A0.S hl r2_p
 have C' := Lib.hid C; clear C
 refine C'.out.mono ?_; rintro e w12 ⟨rfl, hS, hB⟩; clear C'
 have A1 := A0.call hS hB; clear hS hB A0; have A0 : RD w b rb pb dn mn t w12 (r3 t) #[.int .i64 (0), .int .i64 (0), .int .i64 (pDay t), .int .i64 (0), .int .i64 (0), .int .i64 (pWd t), .int .i64 (0), .int .i64 (0), .int .i64 ((r1 t).p), .int .i64 (0), .int .i64 (0), .int .i64 (0), .int .i64 (0)] := A1; clear A1
 go_wp2_with fail
 have C : Calls Tryz.prog 161 #[.pointer (some ⟨b, 0, none⟩), .slice (some ⟨mn, 0, none⟩) 12 12] w12 fun e w' => e = .returned (.int .i64 (nameV t monTab (r3 t) : Nat)) ∧ Scn w' b t (r4 t) ∧ But b w12 w' := nameM_any b mn t (r3 t) monTab w12 A0.S hl r3_p (by have := A0.o5; have := A0.o1; omega) (by decide) mon_lens (mon_cells A0.M)
 have C' := Lib.hid C; clear C
 refine C'.out.mono ?_; rintro e w13 ⟨rfl, hS, hB⟩; clear C'
 have A1 := A0.call hS hB; clear hS hB A0; have A0 : RD w b rb pb dn mn t w13 (r4 t) #[.int .i64 (0), .int .i64 (0), .int .i64 (pDay t), .int .i64 (0), .int .i64 (0), .int .i64 (pWd t), .int .i64 (0), .int .i64 (0), .int .i64 ((r1 t).p), .int .i64 (0), .int .i64 (0), .int .i64 (0), .int .i64 (0)] := A1; clear A1
 have mlt : ((nameV t monTab (r3 t) : Nat) : Int) < 12 := by have := nameV_lt (t := t) (n := monTab) (s := r3 t) (by decide); have h12 : monTab.length = 12 := rfl; omega
 have HPM : Hid (((nameV t monTab (r3 t) : Nat) : Int) + 1 = pMon t) := rfl
 generalize nameV t monTab (r3 t) = mv at *
 have q1 : w13.cell? ⟨pb, 1, none⟩ = some (.int .i64 (0)) := A0.cell 1
 have f1 : w13.frozen? ⟨pb, 1, none⟩ = false := A0.free 1
 go_wp2_with fail
 rw [HPM.out]
 obtain ⟨w14, hnw⟩ : ∃ x, x = w13.setCell ⟨pb, 1, none⟩ (.int .i64 (pMon t)) := ⟨_, rfl⟩
 have A1 : RD w b rb pb dn mn t w14 (r4 t) #[.int .i64 (0), .int .i64 (pMon t), .int .i64 (pDay t), .int .i64 (0), .int .i64 (0), .int .i64 (pWd t), .int .i64 (0), .int .i64 (0), .int .i64 ((r1 t).p), .int .i64 (0), .int .i64 (0), .int .i64 (0), .int .i64 (0)] := by rw [hnw]; exact A0.store 1 (.int .i64 (pMon t))
 rw [← hnw]
 clear hnw A0 q1 f1 HPM mlt
 skip
 have A0 := A1; clear A1
 have C : Calls Tryz.prog 167 #[.pointer (some ⟨b, 0, none⟩)] w14 fun e w' => e = .returned (.tuple #[]) ∧ Scn w' b t (r5 t) ∧ But b w14 w' := blanks_any b t (r4 t) w14 A0.S hl r4_p
 have C' := Lib.hid C; clear C
 refine C'.out.mono ?_; rintro e w15 ⟨rfl, hS, hB⟩; clear C'
 have A1 := A0.call hS hB; clear hS hB A0; have A0 : RD w b rb pb dn mn t w15 (r5 t) #[.int .i64 (0), .int .i64 (pMon t), .int .i64 (pDay t), .int .i64 (0), .int .i64 (0), .int .i64 (pWd t), .int .i64 (0), .int .i64 (0), .int .i64 ((r1 t).p), .int .i64 (0), .int .i64 (0), .int .i64 (0), .int .i64 (0)] := A1; clear A1
 go_wp2_with fail
 have C : Calls Tryz.prog 166 #[.pointer (some ⟨b, 0, none⟩), .int .i64 4, .int .i64 0] w15 fun e w' => e = .returned (.tuple #[.int .i64 ((r5 t).p : Nat), .int .i64 (pYear t)]) ∧ Scn w' b t (r6 t) ∧ But b w15 w' := number_any b t (r5 t) 4 0 w15 A0.S hl r5_p (by omega) (by omega)
 have C' := Lib.hid C; clear C
 refine C'.out.mono ?_; rintro e w16 ⟨rfl, hS, hB⟩; clear C'
 have A1 := A0.call hS hB; clear hS hB A0; have A0 : RD w b rb pb dn mn t w16 (r6 t) #[.int .i64 (0), .int .i64 (pMon t), .int .i64 (pDay t), .int .i64 (0), .int .i64 (0), .int .i64 (pWd t), .int .i64 (0), .int .i64 (0), .int .i64 ((r1 t).p), .int .i64 (0), .int .i64 (0), .int .i64 (0), .int .i64 (0)] := A1; clear A1
 have q9 : w16.cell? ⟨pb, 9, none⟩ = some (.int .i64 (0)) := A0.cell 9
 have f9 : w16.frozen? ⟨pb, 9, none⟩ = false := A0.free 9
 have q0 : w16.cell? ⟨pb, 0, none⟩ = some (.int .i64 (0)) := A0.cell 0
 have f0 : w16.frozen? ⟨pb, 0, none⟩ = false := A0.free 0
 go_wp2_with fail
 obtain ⟨w17, hnw⟩ : ∃ x, x = ((w16.setCell ⟨pb, 9, none⟩ (.int .i64 ((r5 t).p))).setCell ⟨pb, 0, none⟩ (.int .i64 (pYear t))) := ⟨_, rfl⟩
 have A1 : RD w b rb pb dn mn t w17 (r6 t) #[.int .i64 (pYear t), .int .i64 (pMon t), .int .i64 (pDay t), .int .i64 (0), .int .i64 (0), .int .i64 (pWd t), .int .i64 (0), .int .i64 (0), .int .i64 ((r1 t).p), .int .i64 ((r5 t).p), .int .i64 (0), .int .i64 (0), .int .i64 (0)] := by rw [hnw]; exact ((A0.store 9 (.int .i64 ((r5 t).p))).store 0 (.int .i64 (pYear t)))
 rw [← hnw]
 clear hnw A0 q9 f9 q0 f0
 have A0 := A1; clear A1
 have C : Calls Tryz.prog 167 #[.pointer (some ⟨b, 0, none⟩)] w17 fun e w' => e = .returned (.tuple #[]) ∧ Scn w' b t (r7 t) ∧ But b w17 w' := blanks_any b t (r6 t) w17 A0.S hl r6_p
 have C' := Lib.hid C; clear C
 refine C'.out.mono ?_; rintro e w18 ⟨rfl, hS, hB⟩; clear C'
 have A1 := A0.call hS hB; clear hS hB A0; have A0 : RD w b rb pb dn mn t w18 (r7 t) #[.int .i64 (pYear t), .int .i64 (pMon t), .int .i64 (pDay t), .int .i64 (0), .int .i64 (0), .int .i64 (pWd t), .int .i64 (0), .int .i64 (0), .int .i64 ((r1 t).p), .int .i64 ((r5 t).p), .int .i64 (0), .int .i64 (0), .int .i64 (0)] := A1; clear A1
 go_wp2_with fail
 have C : Calls Tryz.prog 166 #[.pointer (some ⟨b, 0, none⟩), .int .i64 2, .int .i64 0] w18 fun e w' => e = .returned (.tuple #[.int .i64 ((r7 t).p : Nat), .int .i64 (pHour t)]) ∧ Scn w' b t (r8 t) ∧ But b w18 w' := number_any b t (r7 t) 2 0 w18 A0.S hl r7_p (by omega) (by omega)
 have C' := Lib.hid C; clear C
 refine C'.out.mono ?_; rintro e w19 ⟨rfl, hS, hB⟩; clear C'
 have A1 := A0.call hS hB; clear hS hB A0; have A0 : RD w b rb pb dn mn t w19 (r8 t) #[.int .i64 (pYear t), .int .i64 (pMon t), .int .i64 (pDay t), .int .i64 (0), .int .i64 (0), .int .i64 (pWd t), .int .i64 (0), .int .i64 (0), .int .i64 ((r1 t).p), .int .i64 ((r5 t).p), .int .i64 (0), .int .i64 (0), .int .i64 (0)] := A1; clear A1
 have q10 : w19.cell? ⟨pb, 10, none⟩ = some (.int .i64 (0)) := A0.cell 10
 have f10 : w19.frozen? ⟨pb, 10, none⟩ = false := A0.free 10
 have q3 : w19.cell? ⟨pb, 3, none⟩ = some (.int .i64 (0)) := A0.cell 3
 have f3 : w19.frozen? ⟨pb, 3, none⟩ = false := A0.free 3
 go_wp2_with fail
 obtain ⟨w20, hnw⟩ : ∃ x, x = ((w19.setCell ⟨pb, 10, none⟩ (.int .i64 ((r7 t).p))).setCell ⟨pb, 3, none⟩ (.int .i64 (pHour t))) := ⟨_, rfl⟩
 have A1 : RD w b rb pb dn mn t w20 (r8 t) #[.int .i64 (pYear t), .int .i64 (pMon t), .int .i64 (pDay t), .int .i64 (pHour t), .int .i64 (0), .int .i64 (pWd t), .int .i64 (0), .int .i64 (0), .int .i64 ((r1 t).p), .int .i64 ((r5 t).p), .int .i64 ((r7 t).p), .int .i64 (0), .int .i64 (0)] := by rw [hnw]; exact ((A0.store 10 (.int .i64 ((r7 t).p))).store 3 (.int .i64 (pHour t)))
 rw [← hnw]
 clear hnw A0 q10 f10 q3 f3
 have A0 := A1; clear A1
 refine (is_any 58 w20).mono ?_; rintro e w21 ⟨rfl, hX, hB⟩
 have HX := Lib.hid hX; clear hX
 have A1 := A0.below hB; clear hB A0; have A0 : RD w b rb pb dn mn t w21 (r8 t) #[.int .i64 (pYear t), .int .i64 (pMon t), .int .i64 (pDay t), .int .i64 (pHour t), .int .i64 (0), .int .i64 (pWd t), .int .i64 (0), .int .i64 (0), .int .i64 ((r1 t).p), .int .i64 ((r5 t).p), .int .i64 ((r7 t).p), .int .i64 (0), .int .i64 (0)] := A1; clear A1
 generalize w20.heap.size = cb at *
 go_wp2_with fail
 have C : Calls Tryz.prog 162 #[.pointer (some ⟨b, 0, none⟩), .func (.func 206) #[] #[.pointer (some ⟨cb, 0, none⟩)]] w21 fun e w' => e = .returned (.int .u8 (needB t (isCh 58) (r8 t)).toNat) ∧ Scn w' b t (r9 t) ∧ But b w21 w' := need_ch b t (r8 t) 58 cb w21 A0.S hl r8_p HX.out
 have C' := Lib.hid C; clear C
 refine C'.out.mono ?_; rintro e w22 ⟨rfl, hS, hB⟩; clear C'
 have A1 := A0.call hS hB; clear hS hB A0; have A0 : RD w b rb pb dn mn t w22 (r9 t) #[.int .i64 (pYear t), .int .i64 (pMon t), .int .i64 (pDay t), .int .i64 (pHour t), .int .i64 (0), .int .i64 (pWd t), .int .i64 (0), .int .i64 (0), .int .i64 ((r1 t).p), .int .i64 ((r5 t).p), .int .i64 ((r7 t).p), .int .i64 (0), .int .i64 (0)] := A1; clear A1
 clear HX
 go_wp2_with fail
 have C : Calls Tryz.prog 166 #[.pointer (some ⟨b, 0, none⟩), .int .i64 2, .int .i64 0] w22 fun e w' => e = .returned (.tuple #[.int .i64 ((r9 t).p : Nat), .int .i64 (pMin t)]) ∧ Scn w' b t (r10 t) ∧ But b w22 w' := number_any b t (r9 t) 2 0 w22 A0.S hl r9_p (by omega) (by omega)
 have C' := Lib.hid C; clear C
 refine C'.out.mono ?_; rintro e w23 ⟨rfl, hS, hB⟩; clear C'
 have A1 := A0.call hS hB; clear hS hB A0; have A0 : RD w b rb pb dn mn t w23 (r10 t) #[.int .i64 (pYear t), .int .i64 (pMon t), .int .i64 (pDay t), .int .i64 (pHour t), .int .i64 (0), .int .i64 (pWd t), .int .i64 (0), .int .i64 (0), .int .i64 ((r1 t).p), .int .i64 ((r5 t).p), .int .i64 ((r7 t).p), .int .i64 (0), .int .i64 (0)] := A1; clear A1
 have q11 : w23.cell? ⟨pb, 11, none⟩ = some (.int .i64 (0)) := A0.cell 11
 have f11 : w23.frozen? ⟨pb, 11, none⟩ = false := A0.free 11
 have q4 : w23.cell? ⟨pb, 4, none⟩ = some (.int .i64 (0)) := A0.cell 4
 have f4 : w23.frozen? ⟨pb, 4, none⟩ = false := A0.free 4
 go_wp2_with fail
 obtain ⟨w24, hnw⟩ : ∃ x, x = ((w23.setCell ⟨pb, 11, none⟩ (.int .i64 ((r9 t).p))).setCell ⟨pb, 4, none⟩ (.int .i64 (pMin t))) := ⟨_, rfl⟩
 have A1 : RD w b rb pb dn mn t w24 (r10 t) #[.int .i64 (pYear t), .int .i64 (pMon t), .int .i64 (pDay t), .int .i64 (pHour t), .int .i64 (pMin t), .int .i64 (pWd t), .int .i64 (0), .int .i64 (0), .int .i64 ((r1 t).p), .int .i64 ((r5 t).p), .int .i64 ((r7 t).p), .int .i64 ((r9 t).p), .int .i64 (0)] := by rw [hnw]; exact ((A0.store 11 (.int .i64 ((r9 t).p))).store 4 (.int .i64 (pMin t)))
 rw [← hnw]
 clear hnw A0 q11 f11 q4 f4
 have A0 := A1; clear A1
 refine (is_any 58 w24).mono ?_; rintro e w25 ⟨rfl, hX, hB⟩
 have HX := Lib.hid hX; clear hX
 have A1 := A0.below hB; clear hB A0; have A0 : RD w b rb pb dn mn t w25 (r10 t) #[.int .i64 (pYear t), .int .i64 (pMon t), .int .i64 (pDay t), .int .i64 (pHour t), .int .i64 (pMin t), .int .i64 (pWd t), .int .i64 (0), .int .i64 (0), .int .i64 ((r1 t).p), .int .i64 ((r5 t).p), .int .i64 ((r7 t).p), .int .i64 ((r9 t).p), .int .i64 (0)] := A1; clear A1
 generalize w24.heap.size = cb at *
 go_wp2_with fail
 have C : Calls Tryz.prog 159 #[.pointer (some ⟨b, 0, none⟩), .func (.func 206) #[] #[.pointer (some ⟨cb, 0, none⟩)]] w25 fun e w' => e = .returned (.bool false) ∧ Below w25.heap.size w25 w' := (sees_ch b t (r10 t) 58 cb w25 A0.S hl r10_p HX.out).mono (fun _ _ h => ⟨h.1.trans (congrArg (fun x => Ending.returned (.bool x)) HH.out), h.2⟩)
 have C' := Lib.hid C; clear C
 refine C'.out.mono ?_; rintro e w26 ⟨rfl, hB⟩; clear C'
 have A1 := A0.below hB; clear hB A0; have A0 : RD w b rb pb dn mn t w26 (r10 t) #[.int .i64 (pYear t), .int .i64 (pMon t), .int .i64 (pDay t), .int .i64 (pHour t), .int .i64 (pMin t), .int .i64 (pWd t), .int .i64 (0), .int .i64 (0), .int .i64 ((r1 t).p), .int .i64 ((r5 t).p), .int .i64 ((r7 t).p), .int .i64 ((r9 t).p), .int .i64 (0)] := A1; clear A1
 clear HX
 go_wp2_with fail
 have A1 : RD w b rb pb dn mn t w26 (r11 t) #[.int .i64 (pYear t), .int .i64 (pMon t), .int .i64 (pDay t), .int .i64 (pHour t), .int .i64 (pMin t), .int .i64 (pWd t), .int .i64 (pSec t), .int .i64 (0), .int .i64 ((r1 t).p), .int .i64 ((r5 t).p), .int .i64 ((r7 t).p), .int .i64 ((r9 t).p), .int .i64 (pSecAt t)] := by
  have e : r11 t = r10 t := by unfold r11; rw [HH.out, if_neg Bool.false_ne_true]
  have e1 : pSecAt t = 0 := by unfold pSecAt; rw [HH.out, if_neg Bool.false_ne_true]
  have e2 : pSec t = 0 := by unfold pSec; rw [HH.out, if_neg Bool.false_ne_true]
  rw [e, e1, e2]; exact A0
 clear A0; have A0 := A1; clear A1
 have C : Calls Tryz.prog 167 #[.pointer (some ⟨b, 0, none⟩)] w26 fun e w' => e = .returned (.tuple #[]) ∧ Scn w' b t (r12 t) ∧ But b w26 w' := blanks_any b t (r11 t) w26 A0.S hl r11_p
 have C' := Lib.hid C; clear C
 refine C'.out.mono ?_; rintro e w27 ⟨rfl, hS, hB⟩; clear C'
 have A1 := A0.call hS hB; clear hS hB A0; have A0 : RD w b rb pb dn mn t w27 (r12 t) #[.int .i64 (pYear t), .int .i64 (pMon t), .int .i64 (pDay t), .int .i64 (pHour t), .int .i64 (pMin t), .int .i64 (pWd t), .int .i64 (pSec t), .int .i64 (0), .int .i64 ((r1 t).p), .int .i64 ((r5 t).p), .int .i64 ((r7 t).p), .int .i64 ((r9 t).p), .int .i64 (pSecAt t)] := A1; clear A1
 go_wp2_with fail
 have C : Calls Tryz.prog 168 #[.pointer (some ⟨b, 0, none⟩)] w27 fun e w' => e = .returned (.int .i64 (pOff t)) ∧ Scn w' b t (r13 t) ∧ But b w27 w' := zoneM_any b t (r12 t) w27 A0.S hl r12_p
 have C' := Lib.hid C; clear C
 refine C'.out.mono ?_; rintro e w28 ⟨rfl, hS, hB⟩; clear C'
 have A1 := A0.call hS hB; clear hS hB A0; have A0 : RD w b rb pb dn mn t w28 (r13 t) #[.int .i64 (pYear t), .int .i64 (pMon t), .int .i64 (pDay t), .int .i64 (pHour t), .int .i64 (pMin t), .int .i64 (pWd t), .int .i64 (pSec t), .int .i64 (0), .int .i64 ((r1 t).p), .int .i64 ((r5 t).p), .int .i64 ((r7 t).p), .int .i64 ((r9 t).p), .int .i64 (pSecAt t)] := A1; clear A1
 have q7 : w28.cell? ⟨pb, 7, none⟩ = some (.int .i64 (0)) := A0.cell 7
 have f7 : w28.frozen? ⟨pb, 7, none⟩ = false := A0.free 7
 go_upto_region 21 with (fail)
 obtain ⟨w29, hnw⟩ : ∃ x, x = w28.setCell ⟨pb, 7, none⟩ (.int .i64 (pOff t)) := ⟨_, rfl⟩
 have A1 : RD w b rb pb dn mn t w29 (r13 t) #[.int .i64 (pYear t), .int .i64 (pMon t), .int .i64 (pDay t), .int .i64 (pHour t), .int .i64 (pMin t), .int .i64 (pWd t), .int .i64 (pSec t), .int .i64 (pOff t), .int .i64 ((r1 t).p), .int .i64 ((r5 t).p), .int .i64 ((r7 t).p), .int .i64 ((r9 t).p), .int .i64 (pSecAt t)] := by rw [hnw]; exact A0.store 7 (.int .i64 (pOff t))
 rw [← hnw]
 clear hnw A0 q7 f7
 have A0 := A1; clear A1
 have q0 : w29.cell? ⟨pb, 0, none⟩ = some (.int .i64 (pYear t)) := A0.cell 0
 have g0 : w29.cell? ⟨rb, 0, none⟩ = some (.int .i64 0) := blk_cell A0.R 0
 have q1 : w29.cell? ⟨pb, 1, none⟩ = some (.int .i64 (pMon t)) := A0.cell 1
 have g1 : w29.cell? ⟨rb, 1, none⟩ = some (.int .i64 0) := blk_cell A0.R 1
 have q2 : w29.cell? ⟨pb, 2, none⟩ = some (.int .i64 (pDay t)) := A0.cell 2
 have g2 : w29.cell? ⟨rb, 2, none⟩ = some (.int .i64 0) := blk_cell A0.R 2
 have q3 : w29.cell? ⟨pb, 3, none⟩ = some (.int .i64 (pHour t)) := A0.cell 3
 have g3 : w29.cell? ⟨rb, 3, none⟩ = some (.int .i64 0) := blk_cell A0.R 3
 have q4 : w29.cell? ⟨pb, 4, none⟩ = some (.int .i64 (pMin t)) := A0.cell 4
 have g4 : w29.cell? ⟨rb, 4, none⟩ = some (.int .i64 0) := blk_cell A0.R 4
 have q5 : w29.cell? ⟨pb, 5, none⟩ = some (.int .i64 (pWd t)) := A0.cell 5
 have g5 : w29.cell? ⟨rb, 5, none⟩ = some (.int .i64 0) := blk_cell A0.R 5
 have q6 : w29.cell? ⟨pb, 6, none⟩ = some (.int .i64 (pSec t)) := A0.cell 6
 have g6 : w29.cell? ⟨rb, 6, none⟩ = some (.int .i64 0) := blk_cell A0.R 6
 have q7 : w29.cell? ⟨pb, 7, none⟩ = some (.int .i64 (pOff t)) := A0.cell 7
 have g7 : w29.cell? ⟨rb, 7, none⟩ = some (.int .i64 0) := blk_cell A0.R 7
 have q8 : w29.cell? ⟨pb, 8, none⟩ = some (.int .i64 ((r1 t).p)) := A0.cell 8
 have g8 : w29.cell? ⟨rb, 8, none⟩ = some (.int .i64 0) := blk_cell A0.R 8
 have q9 : w29.cell? ⟨pb, 9, none⟩ = some (.int .i64 ((r5 t).p)) := A0.cell 9
 have g9 : w29.cell? ⟨rb, 9, none⟩ = some (.int .i64 0) := blk_cell A0.R 9
 have q10 : w29.cell? ⟨pb, 10, none⟩ = some (.int .i64 ((r7 t).p)) := A0.cell 10
 have g10 : w29.cell? ⟨rb, 10, none⟩ = some (.int .i64 0) := blk_cell A0.R 10
 have q11 : w29.cell? ⟨pb, 11, none⟩ = some (.int .i64 ((r9 t).p)) := A0.cell 11
 have g11 : w29.cell? ⟨rb, 11, none⟩ = some (.int .i64 0) := blk_cell A0.R 11
 have q12 : w29.cell? ⟨pb, 12, none⟩ = some (.int .i64 (pSecAt t)) := A0.cell 12
 have g12 : w29.cell? ⟨rb, 12, none⟩ = some (.int .i64 0) := blk_cell A0.R 12
 have gf : ∀ i, w29.frozen? ⟨rb, i, none⟩ = false := blk_free A0.R
 have nrp := A0.o6
 have npr := Ne.symm nrp
 have A9 := A0.S
 have B9 := A0.B
 have o1 := A0.o1
 have o2 := A0.o2
 clear A0
 have A9' := Lib.hid A9; clear A9
 go_wp2_with fail
 refine bodyPost_ret (v := .agg #[.int .i64 (pYear t), .int .i64 (pMon t), .int .i64 (pDay t), .int .i64 (pHour t), .int .i64 (pMin t), .int .i64 (pWd t), .int .i64 (pSec t), .int .i64 (pOff t), .int .i64 ((r1 t).p), .int .i64 ((r5 t).p), .int .i64 ((r7 t).p), .int .i64 ((r9 t).p), .int .i64 (pSecAt t)]) (by simp [results, Tryz.results124, go_sem, g0, g1, g2, g3, g4, g5, g6, g7, g8, g9, g10, g11, g12]) rfl ⟨rfl, ?_, ?_⟩
 ·have hne : b ≠ rb := by omega
  have key : ∀ (u : World) (i : Nat) (v : Value), Scn u b t (r13 t) → Scn (u.setCell ⟨rb, i, none⟩ v) b t (r13 t) := fun u i v hu => by unfold Scn at hu ⊢; rw [blk_set_ne _ _ hne]; exact hu
  repeat refine key _ _ _ ?_
  exact A9'.out
 ·have key : ∀ (u : World) (i : Nat) (v : Value), But b w u → But b w (u.setCell ⟨rb, i, none⟩ v) := fun u i v hu =>
   ⟨hu.os, hu.tape, hu.output, by have := hu.size; simpa [World.setCell] using this, fun k hk hne => by rw [Below.heap_setCell _ _ _ _ (show k ≠ rb by omega)]; exact hu.block k hk hne⟩
  repeat refine key _ _ _ ?_
  exact B9
set_option maxRecDepth 100000 in
set_option maxHeartbeats 3000000 in
theorem read_ft (b : Nat) (t : List UInt8) (w : World) (h : Scn w b t ⟨0, 0⟩) (hl : t.length ≤ 1000) (hw : hasW t = false) (hs : hasS t = true) :
  Calls Tryz.prog 124 #[.pointer (some ⟨b, 0, none⟩)] w fun e w' => e = .returned (.agg #[.int .i64 (pYear t), .int .i64 (pMon t), .int .i64 (pDay t), .int .i64 (pHour t), .int .i64 (pMin t), .int .i64 (pWd t), .int .i64 (pSec t), .int .i64 (pOff t), .int .i64 ((r1 t).p), .int .i64 ((r5 t).p), .int .i64 ((r7 t).p), .int .i64 ((r9 t).p), .int .i64 (pSecAt t)]) ∧ Scn w' b t (r13 t) ∧ But b w w' := by
 have HW := Lib.hid hw; clear hw
 have HH := Lib.hid hs; clear hs
 have HS := Lib.hid h; clear h
 go_enter Tryz.func124, Tryz.ntmps124
 go_wp2_with fail
 refine (dayNames_any _).mono ?_; rintro e w1 ⟨rfl, b1⟩
 go_wp2_with fail
 refine (monthNames_any _).mono ?_; rintro e w2 ⟨rfl, b2⟩
 go_wp2_with fail
 obtain ⟨w3, hw3⟩ : ∃ w3, w3 = (w2.alloc (.cells #[.string ⟨#[77, 111, 110]⟩, .string ⟨#[84, 117, 101]⟩, .string ⟨#[87, 101, 100]⟩, .string ⟨#[84, 104, 117]⟩, .string ⟨#[70, 114, 105]⟩, .string ⟨#[83, 97, 116]⟩, .string ⟨#[83, 117, 110]⟩] 203)).alloc (.cells #[.string ⟨#[74, 97, 110]⟩, .string ⟨#[70, 101, 98]⟩, .string ⟨#[77, 97, 114]⟩, .string ⟨#[65, 112, 114]⟩, .string ⟨#[77, 97, 121]⟩, .string ⟨#[74, 117, 110]⟩, .string ⟨#[74, 117, 108]⟩, .string ⟨#[65, 117, 103]⟩, .string ⟨#[83, 101, 112]⟩, .string ⟨#[79, 99, 116]⟩, .string ⟨#[78, 111, 118]⟩, .string ⟨#[68, 101, 99]⟩] 205) := ⟨_, rfl⟩
 have A0 : RD w b w.heap.size (w.heap.size + 1) w2.heap.size (w2.heap.size + 1) t w3 r0 #[.int .i64 (0), .int .i64 (0), .int .i64 (0), .int .i64 (0), .int .i64 (0), .int .i64 (-1), .int .i64 (0), .int .i64 (0), .int .i64 (0), .int .i64 (0), .int .i64 (0), .int .i64 (0), .int .i64 (0)] := by
  have z0 := HS.out.lt
  have e0 := (Below.refl w.heap.size w).alloc (Nat.le_refl _) (.cells #[.int .i64 0, .int .i64 0, .int .i64 0, .int .i64 0, .int .i64 0, .int .i64 0, .int .i64 0, .int .i64 0, .int .i64 0, .int .i64 0, .int .i64 0, .int .i64 0, .int .i64 0] 172)
  have e1 := e0.alloc (by simp) (.cells #[.int .i64 (0), .int .i64 (0), .int .i64 (0), .int .i64 (0), .int .i64 (0), .int .i64 (-1), .int .i64 (0), .int .i64 (0), .int .i64 (0), .int .i64 (0), .int .i64 (0), .int .i64 (0), .int .i64 (0)] 172)
  have z1 := b1.size
  have z2 := b2.size
  simp at z1
  have e2 := e1.trans (b1.mono (by simp; omega))
  have e3 := e2.trans (b2.mono (by omega))
  have k1 := blk_below b1 (blk_old (.cells #[.int .i64 (0), .int .i64 (0), .int .i64 (0), .int .i64 (0), .int .i64 (0), .int .i64 (-1), .int .i64 (0), .int .i64 (0), .int .i64 (0), .int .i64 (0), .int .i64 (0), .int .i64 (0), .int .i64 (0)] 172) (blk_new w (.cells #[.int .i64 0, .int .i64 0, .int .i64 0, .int .i64 0, .int .i64 0, .int .i64 0, .int .i64 0, .int .i64 0, .int .i64 0, .int .i64 0, .int .i64 0, .int .i64 0, .int .i64 0] 172)))
  have k2 := blk_below b1 (bnew2 w (.cells #[.int .i64 0, .int .i64 0, .int .i64 0, .int .i64 0, .int .i64 0, .int .i64 0, .int .i64 0, .int .i64 0, .int .i64 0, .int .i64 0, .int .i64 0, .int .i64 0, .int .i64 0] 172) (.cells #[.int .i64 (0), .int .i64 (0), .int .i64 (0), .int .i64 (0), .int .i64 (0), .int .i64 (-1), .int .i64 (0), .int .i64 (0), .int .i64 (0), .int .i64 (0), .int .i64 (0), .int .i64 (0), .int .i64 (0)] 172))
  have k1' := blk_below b2 k1
  have k2' := blk_below b2 k2
  have e5 := (e3.alloc (by omega) (.cells #[.string ⟨#[77, 111, 110]⟩, .string ⟨#[84, 117, 101]⟩, .string ⟨#[87, 101, 100]⟩, .string ⟨#[84, 104, 117]⟩, .string ⟨#[70, 114, 105]⟩, .string ⟨#[83, 97, 116]⟩, .string ⟨#[83, 117, 110]⟩] 203)).alloc (by simp; omega) (.cells #[.string ⟨#[74, 97, 110]⟩, .string ⟨#[70, 101, 98]⟩, .string ⟨#[77, 97, 114]⟩, .string ⟨#[65, 112, 114]⟩, .string ⟨#[77, 97, 121]⟩, .string ⟨#[74, 117, 110]⟩, .string ⟨#[74, 117, 108]⟩, .string ⟨#[65, 117, 103]⟩, .string ⟨#[83, 101, 112]⟩, .string ⟨#[79, 99, 116]⟩, .string ⟨#[78, 111, 118]⟩, .string ⟨#[68, 101, 99]⟩] 205)
  rw [hw3]
  exact ⟨HS.out.below e5, blk_old _ (blk_old _ k1'), blk_old _ (blk_old _ k2'), blk_old _ (blk_new _ _), bnew2 _ _ _, But.of_below e5, z0, by omega, by omega, by omega, by omega, by omega, by omega, by omega⟩
 rw [← hw3]
 clear hw3 b1 b2 HS
 have ob := A0.o1
 generalize hrb : w.heap.size = rb at *
 have HRB := Lib.hid hrb; clear hrb
 have hpb : ∃ pb, pb = rb + 1 := ⟨_, rfl⟩
 obtain ⟨pb, hpb⟩ := hpb
 rw [← hpb] at A0 ⊢
 generalize w2.heap.size = dn at *
 obtain ⟨mn, hmn⟩ : ∃ mn, mn = dn + 1 := ⟨_, rfl⟩
 rw [← hmn] at A0 ⊢
 clear hpb hmn
 have C : Calls Tryz.prog 159 #[.pointer (some ⟨b, 0, none⟩), .func (.func 160) #[] #[]] w3 fun e w' => e = .returned (.bool false) ∧ Below w3.heap.size w3 w' := (sees_let b t r0 w3 A0.S hl (Nat.zero_le _)).mono (fun _ _ h => ⟨h.1.trans (congrArg (fun x => Ending.returned (.bool x)) HW.out), h.2⟩)
 have C' := Lib.hid C; clear C
 refine C'.out.mono ?_; rintro e w4 ⟨rfl, hB⟩; clear C'
 have A1 := A0.below hB; clear hB A0; have A0 : RD w b rb pb dn mn t w4 r0 #[.int .i64 (0), .int .i64 (0), .int .i64 (0), .int .i64 (0), .int .i64 (0), .int .i64 (-1), .int .i64 (0), .int .i64 (0), .int .i64 (0), .int .i64 (0), .int .i64 (0), .int .i64 (0), .int .i64 (0)] := A1; clear A1
 go_wp2_with fail
 have A1 : RD w b rb pb dn mn t w4 (r1 t) #[.int .i64 (0), .int .i64 (0), .int .i64 (0), .int .i64 (0), .int .i64 (0), .int .i64 (-1), .int .i64 (0), .int .i64 (0), .int .i64 (0), .int .i64 (0), .int .i64 (0), .int .i64 (0), .int .i64 (0)] := by
  have e : r1 t = r0 := by unfold r1; rw [HW.out, if_neg Bool.false_ne_true]
  rw [e]; exact A0
 clear A0; have A0 := A1; clear A1
 have C : Calls Tryz.prog 166 #[.pointer (some ⟨b, 0, none⟩), .int .i64 1, .int .i64 1] w4 fun e w' => e = .returned (.tuple #[.int .i64 ((r1 t).p : Nat), .int .i64 (pDay t)]) ∧ Scn w' b t (r2 t) ∧ But b w4 w' := number_any b t (r1 t) 1 1 w4 A0.S hl r1_p (by omega) (by omega)
 have C' := Lib.hid C; clear C
 refine C'.out.mono ?_; rintro e w5 ⟨rfl, hS, hB⟩; clear C'
 have A1 := A0.call hS hB; clear hS hB A0; have A0 : RD w b rb pb dn mn t w5 (r2 t) #[.int .i64 (0), .int .i64 (0), .int .i64 (0), .int .i64 (0), .int .i64 (0), .int .i64 (-1), .int .i64 (0), .int .i64 (0), .int .i64 (0), .int .i64 (0), .int .i64 (0), .int .i64 (0), .int .i64 (0)] := A1; clear A1
 have q8 : w5.cell? ⟨pb, 8, none⟩ = some (.int .i64 (0)) := A0.cell 8
 have f8 : w5.frozen? ⟨pb, 8, none⟩ = false := A0.free 8
 have q2 : w5.cell? ⟨pb, 2, none⟩ = some (.int .i64 (0)) := A0.cell 2
 have f2 : w5.frozen? ⟨pb, 2, none⟩ = false := A0.free 2
 go_wp2_with fail
 obtain ⟨w6, hnw⟩ : ∃ x, x = ((w5.setCell ⟨pb, 8, none⟩ (.int .i64 ((r1 t).p))).setCell ⟨pb, 2, none⟩ (.int .i64 (pDay t))) := ⟨_, rfl⟩
 have A1 : RD w b rb pb dn mn t w6 (r2 t) #[.int .i64 (0), .int .i64 (0), .int .i64 (pDay t), .int .i64 (0), .int .i64 (0), .int .i64 (-1), .int .i64 (0), .int .i64 (0), .int .i64 ((r1 t).p), .int .i64 (0), .int .i64 (0), .int .i64 (0), .int .i64 (0)] := by rw [hnw]; exact ((A0.store 8 (.int .i64 ((r1 t).p))).store 2 (.int .i64 (pDay t)))
 rw [← hnw]
 clear hnw A0 q8 f8 q2 f2
 have A0 := A1; clear A1
 have C : Calls Tryz.prog 167 #[.pointer (some ⟨b, 0, none⟩)] w6 fun e w' => e = .returned (.tuple #[]) ∧ Scn w' b t (r3 t) ∧ But b w6 w' := blanks_any b t (r2 t) w6 A0.S hl r2_p
 have C' := Lib.hid C; clear C
 refine C'.out.mono ?_; rintro e w7 ⟨rfl, hS, hB⟩; clear C'
 have A1 := A0.call hS hB; clear hS hB A0; have A0 : RD w b rb pb dn mn t w7 (r3 t) #[.int .i64 (0), .int .i64 (0), .int .i64 (pDay t), .int .i64 (0), .int .i64 (0), .int .i64 (-1), .int .i64 (0), .int .i64 (0), .int .i64 ((r1 t).p), .int .i64 (0), .int .i64 (0), .int .i64 (0), .int .i64 (0)] := A1; clear A1
 go_wp2_with fail
 have C : Calls Tryz.prog 161 #[.pointer (some ⟨b, 0, none⟩), .slice (some ⟨mn, 0, none⟩) 12 12] w7 fun e w' => e = .returned (.int .i64 (nameV t monTab (r3 t) : Nat)) ∧ Scn w' b t (r4 t) ∧ But b w7 w' := nameM_any b mn t (r3 t) monTab w7 A0.S hl r3_p (by have := A0.o5; have := A0.o1; omega) (by decide) mon_lens (mon_cells A0.M)
 have C' := Lib.hid C; clear C
 refine C'.out.mono ?_; rintro e w8 ⟨rfl, hS, hB⟩; clear C'
 have A1 := A0.call hS hB; clear hS hB A0; have A0 : RD w b rb pb dn mn t w8 (r4 t) #[.int .i64 (0), .int .i64 (0), .int .i64 (pDay t), .int .i64 (0), .int .i64 (0), .int .i64 (-1), .int .i64 (0), .int .i64 (0), .int .i64 ((r1 t).p), .int .i64 (0), .int .i64 (0), .int .i64 (0), .int .i64 (0)] := A1; clear A1
 have mlt : ((nameV t monTab (r3 t) : Nat) : Int) < 12 := by have := nameV_lt (t := t) (n := monTab) (s := r3 t) (by decide); have h12 : monTab.length = 12 := rfl; omega
 have HPM : Hid (((nameV t monTab (r3 t) : Nat) : Int) + 1 = pMon t) := rfl
 generalize nameV t monTab (r3 t) = mv at *
 have q1 : w8.cell? ⟨pb, 1, none⟩ = some (.int .i64 (0)) := A0.cell 1
 have f1 : w8.frozen? ⟨pb, 1, none⟩ = false := A0.free 1
 go_wp2_with fail
 rw [HPM.out]
 obtain ⟨w9, hnw⟩ : ∃ x, x = w8.setCell ⟨pb, 1, none⟩ (.int .i64 (pMon t)) := ⟨_, rfl⟩
 have A1 : RD w b rb pb dn mn t w9 (r4 t) #[.int .i64 (0), .int .i64 (pMon t), .int .i64 (pDay t), .int .i64 (0), .int .i64 (0), .int .i64 (-1), .int .i64 (0), .int .i64 (0), .int .i64 ((r1 t).p), .int .i64 (0), .int .i64 (0), .int .i64 (0), .int .i64 (0)] := by rw [hnw]; exact A0.store 1 (.int .i64 (pMon t))
 rw [← hnw]
 clear hnw A0 q1 f1 HPM mlt
 skip
 have A0 := A1; clear A1
 have C : Calls Tryz.prog 167 #[.pointer (some ⟨b, 0, none⟩)] w9 fun e w' => e = .returned (.tuple #[]) ∧ Scn w' b t (r5 t) ∧ But b w9 w' := blanks_any b t (r4 t) w9 A0.S hl r4_p
 have C' := Lib.hid C; clear C
 refine C'.out.mono ?_; rintro e w10 ⟨rfl, hS, hB⟩; clear C'
 have A1 := A0.call hS hB; clear hS hB A0; have A0 : RD w b rb pb dn mn t w10 (r5 t) #[.int .i64 (0), .int .i64 (pMon t), .int .i64 (pDay t), .int .i64 (0), .int .i64 (0), .int .i64 (-1), .int .i64 (0), .int .i64 (0), .int .i64 ((r1 t).p), .int .i64 (0), .int .i64 (0), .int .i64 (0), .int .i64 (0)] := A1; clear A1
 go_wp2_with fail
 have C : Calls Tryz.prog 166 #[.pointer (some ⟨b, 0, none⟩), .int .i64 4, .int .i64 0] w10 fun e w' => e = .returned (.tuple #[.int .i64 ((r5 t).p : Nat), .int .i64 (pYear t)]) ∧ Scn w' b t (r6 t) ∧ But b w10 w' := number_any b t (r5 t) 4 0 w10 A0.S hl r5_p (by omega) (by omega)
 have C' := Lib.hid C; clear C
 refine C'.out.mono ?_; rintro e w11 ⟨rfl, hS, hB⟩; clear C'
 have A1 := A0.call hS hB; clear hS hB A0; have A0 : RD w b rb pb dn mn t w11 (r6 t) #[.int .i64 (0), .int .i64 (pMon t), .int .i64 (pDay t), .int .i64 (0), .int .i64 (0), .int .i64 (-1), .int .i64 (0), .int .i64 (0), .int .i64 ((r1 t).p), .int .i64 (0), .int .i64 (0), .int .i64 (0), .int .i64 (0)] := A1; clear A1
 have q9 : w11.cell? ⟨pb, 9, none⟩ = some (.int .i64 (0)) := A0.cell 9
 have f9 : w11.frozen? ⟨pb, 9, none⟩ = false := A0.free 9
 have q0 : w11.cell? ⟨pb, 0, none⟩ = some (.int .i64 (0)) := A0.cell 0
 have f0 : w11.frozen? ⟨pb, 0, none⟩ = false := A0.free 0
 go_wp2_with fail
 obtain ⟨w12, hnw⟩ : ∃ x, x = ((w11.setCell ⟨pb, 9, none⟩ (.int .i64 ((r5 t).p))).setCell ⟨pb, 0, none⟩ (.int .i64 (pYear t))) := ⟨_, rfl⟩
 have A1 : RD w b rb pb dn mn t w12 (r6 t) #[.int .i64 (pYear t), .int .i64 (pMon t), .int .i64 (pDay t), .int .i64 (0), .int .i64 (0), .int .i64 (-1), .int .i64 (0), .int .i64 (0), .int .i64 ((r1 t).p), .int .i64 ((r5 t).p), .int .i64 (0), .int .i64 (0), .int .i64 (0)] := by rw [hnw]; exact ((A0.store 9 (.int .i64 ((r5 t).p))).store 0 (.int .i64 (pYear t)))
 rw [← hnw]
 clear hnw A0 q9 f9 q0 f0
 have A0 := A1; clear A1
 have C : Calls Tryz.prog 167 #[.pointer (some ⟨b, 0, none⟩)] w12 fun e w' => e = .returned (.tuple #[]) ∧ Scn w' b t (r7 t) ∧ But b w12 w' := blanks_any b t (r6 t) w12 A0.S hl r6_p
 have C' := Lib.hid C; clear C
 refine C'.out.mono ?_; rintro e w13 ⟨rfl, hS, hB⟩; clear C'
 have A1 := A0.call hS hB; clear hS hB A0; have A0 : RD w b rb pb dn mn t w13 (r7 t) #[.int .i64 (pYear t), .int .i64 (pMon t), .int .i64 (pDay t), .int .i64 (0), .int .i64 (0), .int .i64 (-1), .int .i64 (0), .int .i64 (0), .int .i64 ((r1 t).p), .int .i64 ((r5 t).p), .int .i64 (0), .int .i64 (0), .int .i64 (0)] := A1; clear A1
 go_wp2_with fail
 have C : Calls Tryz.prog 166 #[.pointer (some ⟨b, 0, none⟩), .int .i64 2, .int .i64 0] w13 fun e w' => e = .returned (.tuple #[.int .i64 ((r7 t).p : Nat), .int .i64 (pHour t)]) ∧ Scn w' b t (r8 t) ∧ But b w13 w' := number_any b t (r7 t) 2 0 w13 A0.S hl r7_p (by omega) (by omega)
 have C' := Lib.hid C; clear C
 refine C'.out.mono ?_; rintro e w14 ⟨rfl, hS, hB⟩; clear C'
 have A1 := A0.call hS hB; clear hS hB A0; have A0 : RD w b rb pb dn mn t w14 (r8 t) #[.int .i64 (pYear t), .int .i64 (pMon t), .int .i64 (pDay t), .int .i64 (0), .int .i64 (0), .int .i64 (-1), .int .i64 (0), .int .i64 (0), .int .i64 ((r1 t).p), .int .i64 ((r5 t).p), .int .i64 (0), .int .i64 (0), .int .i64 (0)] := A1; clear A1
 have q10 : w14.cell? ⟨pb, 10, none⟩ = some (.int .i64 (0)) := A0.cell 10
 have f10 : w14.frozen? ⟨pb, 10, none⟩ = false := A0.free 10
 have q3 : w14.cell? ⟨pb, 3, none⟩ = some (.int .i64 (0)) := A0.cell 3
 have f3 : w14.frozen? ⟨pb, 3, none⟩ = false := A0.free 3
 go_wp2_with fail
 obtain ⟨w15, hnw⟩ : ∃ x, x = ((w14.setCell ⟨pb, 10, none⟩ (.int .i64 ((r7 t).p))).setCell ⟨pb, 3, none⟩ (.int .i64 (pHour t))) := ⟨_, rfl⟩
 have A1 : RD w b rb pb dn mn t w15 (r8 t) #[.int .i64 (pYear t), .int .i64 (pMon t), .int .i64 (pDay t), .int .i64 (pHour t), .int .i64 (0), .int .i64 (-1), .int .i64 (0), .int .i64 (0), .int .i64 ((r1 t).p), .int .i64 ((r5 t).p), .int .i64 ((r7 t).p), .int .i64 (0), .int .i64 (0)] := by rw [hnw]; exact ((A0.store 10 (.int .i64 ((r7 t).p))).store 3 (.int .i64 (pHour t)))
 rw [← hnw]
 clear hnw A0 q10 f10 q3 f3
 have A0 := A1; clear A1
 refine (is_any 58 w15).mono ?_; rintro e w16 ⟨rfl, hX, hB⟩
 have HX := Lib.hid hX; clear hX
 have A1 := A0.below hB; clear hB A0; have A0 : RD w b rb pb dn mn t w16 (r8 t) #[.int .i64 (pYear t), .int .i64 (pMon t), .int .i64 (pDay t), .int .i64 (pHour t), .int .i64 (0), .int .i64 (-1), .int .i64 (0), .int .i64 (0), .int .i64 ((r1 t).p), .int .i64 ((r5 t).p), .int .i64 ((r7 t).p), .int .i64 (0), .int .i64 (0)] := A1; clear A1
 generalize w15.heap.size = cb at *
 go_wp2_with fail
 have C : Calls Tryz.prog 162 #[.pointer (some ⟨b, 0, none⟩), .func (.func 206) #[] #[.pointer (some ⟨cb, 0, none⟩)]] w16 fun e w' => e = .returned (.int .u8 (needB t (isCh 58) (r8 t)).toNat) ∧ Scn w' b t (r9 t) ∧ But b w16 w' := need_ch b t (r8 t) 58 cb w16 A0.S hl r8_p HX.out
 have C' := Lib.hid C; clear C
 refine C'.out.mono ?_; rintro e w17 ⟨rfl, hS, hB⟩; clear C'
 have A1 := A0.call hS hB; clear hS hB A0; have A0 : RD w b rb pb dn mn t w17 (r9 t) #[.int .i64 (pYear t), .int .i64 (pMon t), .int .i64 (pDay t), .int .i64 (pHour t), .int .i64 (0), .int .i64 (-1), .int .i64 (0), .int .i64 (0), .int .i64 ((r1 t).p), .int .i64 ((r5 t).p), .int .i64 ((r7 t).p), .int .i64 (0), .int .i64 (0)] := A1; clear A1
 clear HX
 go_wp2_with fail
 have C : Calls Tryz.prog 166 #[.pointer (some ⟨b, 0, none⟩), .int .i64 2, .int .i64 0] w17 fun e w' => e = .returned (.tuple #[.int .i64 ((r9 t).p : Nat), .int .i64 (pMin t)]) ∧ Scn w' b t (r10 t) ∧ But b w17 w' := number_any b t (r9 t) 2 0 w17 A0.S hl r9_p (by omega) (by omega)
 have C' := Lib.hid C; clear C
 refine C'.out.mono ?_; rintro e w18 ⟨rfl, hS, hB⟩; clear C'
 have A1 := A0.call hS hB; clear hS hB A0; have A0 : RD w b rb pb dn mn t w18 (r10 t) #[.int .i64 (pYear t), .int .i64 (pMon t), .int .i64 (pDay t), .int .i64 (pHour t), .int .i64 (0), .int .i64 (-1), .int .i64 (0), .int .i64 (0), .int .i64 ((r1 t).p), .int .i64 ((r5 t).p), .int .i64 ((r7 t).p), .int .i64 (0), .int .i64 (0)] := A1; clear A1
 have q11 : w18.cell? ⟨pb, 11, none⟩ = some (.int .i64 (0)) := A0.cell 11
 have f11 : w18.frozen? ⟨pb, 11, none⟩ = false := A0.free 11
 have q4 : w18.cell? ⟨pb, 4, none⟩ = some (.int .i64 (0)) := A0.cell 4
 have f4 : w18.frozen? ⟨pb, 4, none⟩ = false := A0.free 4
 go_wp2_with fail
 obtain ⟨w19, hnw⟩ : ∃ x, x = ((w18.setCell ⟨pb, 11, none⟩ (.int .i64 ((r9 t).p))).setCell ⟨pb, 4, none⟩ (.int .i64 (pMin t))) := ⟨_, rfl⟩
 have A1 : RD w b rb pb dn mn t w19 (r10 t) #[.int .i64 (pYear t), .int .i64 (pMon t), .int .i64 (pDay t), .int .i64 (pHour t), .int .i64 (pMin t), .int .i64 (-1), .int .i64 (0), .int .i64 (0), .int .i64 ((r1 t).p), .int .i64 ((r5 t).p), .int .i64 ((r7 t).p), .int .i64 ((r9 t).p), .int .i64 (0)] := by rw [hnw]; exact ((A0.store 11 (.int .i64 ((r9 t).p))).store 4 (.int .i64 (pMin t)))
 rw [← hnw]
 clear hnw A0 q11 f11 q4 f4
 have A0 := A1; clear A1
 refine (is_any 58 w19).mono ?_; rintro e w20 ⟨rfl, hX, hB⟩
 have HX := Lib.hid hX; clear hX
 have A1 := A0.below hB; clear hB A0; have A0 : RD w b rb pb dn mn t w20 (r10 t) #[.int .i64 (pYear t), .int .i64 (pMon t), .int .i64 (pDay t), .int .i64 (pHour t), .int .i64 (pMin t), .int .i64 (-1), .int .i64 (0), .int .i64 (0), .int .i64 ((r1 t).p), .int .i64 ((r5 t).p), .int .i64 ((r7 t).p), .int .i64 ((r9 t).p), .int .i64 (0)] := A1; clear A1
 generalize w19.heap.size = cb at *
 go_wp2_with fail
 have C : Calls Tryz.prog 159 #[.pointer (some ⟨b, 0, none⟩), .func (.func 206) #[] #[.pointer (some ⟨cb, 0, none⟩)]] w20 fun e w' => e = .returned (.bool true) ∧ Below w20.heap.size w20 w' := (sees_ch b t (r10 t) 58 cb w20 A0.S hl r10_p HX.out).mono (fun _ _ h => ⟨h.1.trans (congrArg (fun x => Ending.returned (.bool x)) HH.out), h.2⟩)
 have C' := Lib.hid C; clear C
 refine C'.out.mono ?_; rintro e w21 ⟨rfl, hB⟩; clear C'
 have A1 := A0.below hB; clear hB A0; have A0 : RD w b rb pb dn mn t w21 (r10 t) #[.int .i64 (pYear t), .int .i64 (pMon t), .int .i64 (pDay t), .int .i64 (pHour t), .int .i64 (pMin t), .int .i64 (-1), .int .i64 (0), .int .i64 (0), .int .i64 ((r1 t).p), .int .i64 ((r5 t).p), .int .i64 ((r7 t).p), .int .i64 ((r9 t).p), .int .i64 (0)] := A1; clear A1
 clear HX
 go_wp2_with fail
 refine (is_any 58 w21).mono ?_; rintro e w22 ⟨rfl, hX, hB⟩
 have HX := Lib.hid hX; clear hX
 have A1 := A0.below hB; clear hB A0; have A0 : RD w b rb pb dn mn t w22 (r10 t) #[.int .i64 (pYear t), .int .i64 (pMon t), .int .i64 (pDay t), .int .i64 (pHour t), .int .i64 (pMin t), .int .i64 (-1), .int .i64 (0), .int .i64 (0), .int .i64 ((r1 t).p), .int .i64 ((r5 t).p), .int .i64 ((r7 t).p), .int .i64 ((r9 t).p), .int .i64 (0)] := A1; clear A1
 generalize w21.heap.size = cb at *
 go_wp2_with fail
 have C : Calls Tryz.prog 162 #[.pointer (some ⟨b, 0, none⟩), .func (.func 206) #[] #[.pointer (some ⟨cb, 0, none⟩)]] w22 fun e w' => e = .returned (.int .u8 (needB t (isCh 58) (r10 t)).toNat) ∧ Scn w' b t (r10a t) ∧ But b w22 w' := need_ch b t (r10 t) 58 cb w22 A0.S hl r10_p HX.out
 have C' := Lib.hid C; clear C
 refine C'.out.mono ?_; rintro e w23 ⟨rfl, hS, hB⟩; clear C'
 have A1 := A0.call hS hB; clear hS hB A0; have A0 : RD w b rb pb dn mn t w23 (r10a t) #[.int .i64 (pYear t), .int .i64 (pMon t), .int .i64 (pDay t), .int .i64 (pHour t), .int .i64 (pMin t), .int .i64 (-1), .int .i64 (0), .int .i64 (0), .int .i64 ((r1 t).p), .int .i64 ((r5 t).p), .int .i64 ((r7 t).p), .int .i64 ((r9 t).p), .int .i64 (0)] := A1; clear A1
 clear HX
 go_wp2_with fail
 have C : Calls Tryz.prog 166 #[.pointer (some ⟨b, 0, none⟩), .int .i64 2, .int .i64 0] w23 fun e w' => e = .returned (.tuple #[.int .i64 ((r10a t).p : Nat), .int .i64 (numV t 2 false (r10a t))]) ∧ Scn w' b t (numS t 2 false (r10a t)) ∧ But b w23 w' := number_any b t (r10a t) 2 0 w23 A0.S hl r10a_p (by omega) (by omega)
 have C' := Lib.hid C; clear C
 refine C'.out.mono ?_; rintro e w24 ⟨rfl, hS, hB⟩; clear C'
 have A1 := A0.call hS hB; clear hS hB A0; have A0 : RD w b rb pb dn mn t w24 (numS t 2 false (r10a t)) #[.int .i64 (pYear t), .int .i64 (pMon t), .int .i64 (pDay t), .int .i64 (pHour t), .int .i64 (pMin t), .int .i64 (-1), .int .i64 (0), .int .i64 (0), .int .i64 ((r1 t).p), .int .i64 ((r5 t).p), .int .i64 ((r7 t).p), .int .i64 ((r9 t).p), .int .i64 (0)] := A1; clear A1
 have e1 : (((r10a t).p : Nat) : Int) = pSecAt t := by unfold pSecAt; rw [HH.out, if_pos rfl]
 have e2 : numV t 2 false (r10a t) = pSec t := by unfold pSec; rw [HH.out, if_pos rfl]
 rw [e1, e2]; clear e1 e2
 have q12 : w24.cell? ⟨pb, 12, none⟩ = some (.int .i64 (0)) := A0.cell 12
 have f12 : w24.frozen? ⟨pb, 12, none⟩ = false := A0.free 12
 have q6 : w24.cell? ⟨pb, 6, none⟩ = some (.int .i64 (0)) := A0.cell 6
 have f6 : w24.frozen? ⟨pb, 6, none⟩ = false := A0.free 6
 go_wp2_with fail
 obtain ⟨w25, hnw⟩ : ∃ x, x = ((w24.setCell ⟨pb, 12, none⟩ (.int .i64 (pSecAt t))).setCell ⟨pb, 6, none⟩ (.int .i64 (pSec t))) := ⟨_, rfl⟩
 have A1 : RD w b rb pb dn mn t w25 (numS t 2 false (r10a t)) #[.int .i64 (pYear t), .int .i64 (pMon t), .int .i64 (pDay t), .int .i64 (pHour t), .int .i64 (pMin t), .int .i64 (-1), .int .i64 (pSec t), .int .i64 (0), .int .i64 ((r1 t).p), .int .i64 ((r5 t).p), .int .i64 ((r7 t).p), .int .i64 ((r9 t).p), .int .i64 (pSecAt t)] := by rw [hnw]; exact ((A0.store 12 (.int .i64 (pSecAt t))).store 6 (.int .i64 (pSec t)))
 rw [← hnw]
 clear hnw A0 q12 f12 q6 f6
 have A0 := A1; clear A1
 have A1 : RD w b rb pb dn mn t w25 (r11 t) #[.int .i64 (pYear t), .int .i64 (pMon t), .int .i64 (pDay t), .int .i64 (pHour t), .int .i64 (pMin t), .int .i64 (-1), .int .i64 (pSec t), .int .i64 (0), .int .i64 ((r1 t).p), .int .i64 ((r5 t).p), .int .i64 ((r7 t).p), .int .i64 ((r9 t).p), .int .i64 (pSecAt t)] := by
  have e : r11 t = numS t 2 false (r10a t) := by unfold r11; rw [HH.out, if_pos rfl]
  rw [e]; exact A0
 clear A0; have A0 := A1; clear A1
 have C : Calls Tryz.prog 167 #[.pointer (some ⟨b, 0, none⟩)] w25 fun e w' => e = .returned (.tuple #[]) ∧ Scn w' b t (r12 t) ∧ But b w25 w' := blanks_any b t (r11 t) w25 A0.S hl r11_p
 have C' := Lib.hid C; clear C
 refine C'.out.mono ?_; rintro e w26 ⟨rfl, hS, hB⟩; clear C'
 have A1 := A0.call hS hB; clear hS hB A0; have A0 : RD w b rb pb dn mn t w26 (r12 t) #[.int .i64 (pYear t), .int .i64 (pMon t), .int .i64 (pDay t), .int .i64 (pHour t), .int .i64 (pMin t), .int .i64 (-1), .int .i64 (pSec t), .int .i64 (0), .int .i64 ((r1 t).p), .int .i64 ((r5 t).p), .int .i64 ((r7 t).p), .int .i64 ((r9 t).p), .int .i64 (pSecAt t)] := A1; clear A1
 go_wp2_with fail
 have C : Calls Tryz.prog 168 #[.pointer (some ⟨b, 0, none⟩)] w26 fun e w' => e = .returned (.int .i64 (pOff t)) ∧ Scn w' b t (r13 t) ∧ But b w26 w' := zoneM_any b t (r12 t) w26 A0.S hl r12_p
 have C' := Lib.hid C; clear C
 refine C'.out.mono ?_; rintro e w27 ⟨rfl, hS, hB⟩; clear C'
 have A1 := A0.call hS hB; clear hS hB A0; have A0 : RD w b rb pb dn mn t w27 (r13 t) #[.int .i64 (pYear t), .int .i64 (pMon t), .int .i64 (pDay t), .int .i64 (pHour t), .int .i64 (pMin t), .int .i64 (-1), .int .i64 (pSec t), .int .i64 (0), .int .i64 ((r1 t).p), .int .i64 ((r5 t).p), .int .i64 ((r7 t).p), .int .i64 ((r9 t).p), .int .i64 (pSecAt t)] := A1; clear A1
 have epw : pWd t = -1 := by unfold pWd; rw [HW.out, if_neg Bool.false_ne_true]
 have A1 : RD w b rb pb dn mn t w27 (r13 t) #[.int .i64 (pYear t), .int .i64 (pMon t), .int .i64 (pDay t), .int .i64 (pHour t), .int .i64 (pMin t), .int .i64 (pWd t), .int .i64 (pSec t), .int .i64 (0), .int .i64 ((r1 t).p), .int .i64 ((r5 t).p), .int .i64 ((r7 t).p), .int .i64 ((r9 t).p), .int .i64 (pSecAt t)] := by rw [epw]; exact A0
 clear A0 epw; have A0 := A1; clear A1
 have q7 : w27.cell? ⟨pb, 7, none⟩ = some (.int .i64 (0)) := A0.cell 7
 have f7 : w27.frozen? ⟨pb, 7, none⟩ = false := A0.free 7
 go_upto_region 21 with (fail)
 obtain ⟨w28, hnw⟩ : ∃ x, x = w27.setCell ⟨pb, 7, none⟩ (.int .i64 (pOff t)) := ⟨_, rfl⟩
 have A1 : RD w b rb pb dn mn t w28 (r13 t) #[.int .i64 (pYear t), .int .i64 (pMon t), .int .i64 (pDay t), .int .i64 (pHour t), .int .i64 (pMin t), .int .i64 (pWd t), .int .i64 (pSec t), .int .i64 (pOff t), .int .i64 ((r1 t).p), .int .i64 ((r5 t).p), .int .i64 ((r7 t).p), .int .i64 ((r9 t).p), .int .i64 (pSecAt t)] := by rw [hnw]; exact A0.store 7 (.int .i64 (pOff t))
 rw [← hnw]
 clear hnw A0 q7 f7
 have A0 := A1; clear A1
 have q0 : w28.cell? ⟨pb, 0, none⟩ = some (.int .i64 (pYear t)) := A0.cell 0
 have g0 : w28.cell? ⟨rb, 0, none⟩ = some (.int .i64 0) := blk_cell A0.R 0
 have q1 : w28.cell? ⟨pb, 1, none⟩ = some (.int .i64 (pMon t)) := A0.cell 1
 have g1 : w28.cell? ⟨rb, 1, none⟩ = some (.int .i64 0) := blk_cell A0.R 1
 have q2 : w28.cell? ⟨pb, 2, none⟩ = some (.int .i64 (pDay t)) := A0.cell 2
 have g2 : w28.cell? ⟨rb, 2, none⟩ = some (.int .i64 0) := blk_cell A0.R 2
 have q3 : w28.cell? ⟨pb, 3, none⟩ = some (.int .i64 (pHour t)) := A0.cell 3
 have g3 : w28.cell? ⟨rb, 3, none⟩ = some (.int .i64 0) := blk_cell A0.R 3
 have q4 : w28.cell? ⟨pb, 4, none⟩ = some (.int .i64 (pMin t)) := A0.cell 4
 have g4 : w28.cell? ⟨rb, 4, none⟩ = some (.int .i64 0) := blk_cell A0.R 4
 have q5 : w28.cell? ⟨pb, 5, none⟩ = some (.int .i64 (pWd t)) := A0.cell 5
 have g5 : w28.cell? ⟨rb, 5, none⟩ = some (.int .i64 0) := blk_cell A0.R 5
 have q6 : w28.cell? ⟨pb, 6, none⟩ = some (.int .i64 (pSec t)) := A0.cell 6
 have g6 : w28.cell? ⟨rb, 6, none⟩ = some (.int .i64 0) := blk_cell A0.R 6
 have q7 : w28.cell? ⟨pb, 7, none⟩ = some (.int .i64 (pOff t)) := A0.cell 7
 have g7 : w28.cell? ⟨rb, 7, none⟩ = some (.int .i64 0) := blk_cell A0.R 7
 have q8 : w28.cell? ⟨pb, 8, none⟩ = some (.int .i64 ((r1 t).p)) := A0.cell 8
 have g8 : w28.cell? ⟨rb, 8, none⟩ = some (.int .i64 0) := blk_cell A0.R 8
 have q9 : w28.cell? ⟨pb, 9, none⟩ = some (.int .i64 ((r5 t).p)) := A0.cell 9
 have g9 : w28.cell? ⟨rb, 9, none⟩ = some (.int .i64 0) := blk_cell A0.R 9
 have q10 : w28.cell? ⟨pb, 10, none⟩ = some (.int .i64 ((r7 t).p)) := A0.cell 10
 have g10 : w28.cell? ⟨rb, 10, none⟩ = some (.int .i64 0) := blk_cell A0.R 10
 have q11 : w28.cell? ⟨pb, 11, none⟩ = some (.int .i64 ((r9 t).p)) := A0.cell 11
 have g11 : w28.cell? ⟨rb, 11, none⟩ = some (.int .i64 0) := blk_cell A0.R 11
 have q12 : w28.cell? ⟨pb, 12, none⟩ = some (.int .i64 (pSecAt t)) := A0.cell 12
 have g12 : w28.cell? ⟨rb, 12, none⟩ = some (.int .i64 0) := blk_cell A0.R 12
 have gf : ∀ i, w28.frozen? ⟨rb, i, none⟩ = false := blk_free A0.R
 have nrp := A0.o6
 have npr := Ne.symm nrp
 have A9 := A0.S
 have B9 := A0.B
 have o1 := A0.o1
 have o2 := A0.o2
 clear A0
 have A9' := Lib.hid A9; clear A9
 go_wp2_with fail
 refine bodyPost_ret (v := .agg #[.int .i64 (pYear t), .int .i64 (pMon t), .int .i64 (pDay t), .int .i64 (pHour t), .int .i64 (pMin t), .int .i64 (pWd t), .int .i64 (pSec t), .int .i64 (pOff t), .int .i64 ((r1 t).p), .int .i64 ((r5 t).p), .int .i64 ((r7 t).p), .int .i64 ((r9 t).p), .int .i64 (pSecAt t)]) (by simp [results, Tryz.results124, go_sem, g0, g1, g2, g3, g4, g5, g6, g7, g8, g9, g10, g11, g12]) rfl ⟨rfl, ?_, ?_⟩
 ·have hne : b ≠ rb := by omega
  have key : ∀ (u : World) (i : Nat) (v : Value), Scn u b t (r13 t) → Scn (u.setCell ⟨rb, i, none⟩ v) b t (r13 t) := fun u i v hu => by unfold Scn at hu ⊢; rw [blk_set_ne _ _ hne]; exact hu
  repeat refine key _ _ _ ?_
  exact A9'.out
 ·have key : ∀ (u : World) (i : Nat) (v : Value), But b w u → But b w (u.setCell ⟨rb, i, none⟩ v) := fun u i v hu =>
   ⟨hu.os, hu.tape, hu.output, by have := hu.size; simpa [World.setCell] using this, fun k hk hne => by rw [Below.heap_setCell _ _ _ _ (show k ≠ rb by omega)]; exact hu.block k hk hne⟩
  repeat refine key _ _ _ ?_
  exact B9
set_option maxRecDepth 100000 in
set_option maxHeartbeats 3000000 in
theorem read_tt (b : Nat) (t : List UInt8) (w : World) (h : Scn w b t ⟨0, 0⟩) (hl : t.length ≤ 1000) (hw : hasW t = true) (hs : hasS t = true) :
  Calls Tryz.prog 124 #[.pointer (some ⟨b, 0, none⟩)] w fun e w' => e = .returned (.agg #[.int .i64 (pYear t), .int .i64 (pMon t), .int .i64 (pDay t), .int .i64 (pHour t), .int .i64 (pMin t), .int .i64 (pWd t), .int .i64 (pSec t), .int .i64 (pOff t), .int .i64 ((r1 t).p), .int .i64 ((r5 t).p), .int .i64 ((r7 t).p), .int .i64 ((r9 t).p), .int .i64 (pSecAt t)]) ∧ Scn w' b t (r13 t) ∧ But b w w' := by
 have HW := Lib.hid hw; clear hw
 have HH := Lib.hid hs; clear hs
 have HS := Lib.hid h; clear h
 go_enter Tryz.func124, Tryz.ntmps124
 go_wp2_with fail
 refine (dayNames_any _).mono ?_; rintro e w1 ⟨rfl, b1⟩
 go_wp2_with fail
 refine (monthNames_any _).mono ?_; rintro e w2 ⟨rfl, b2⟩
 go_wp2_with fail
 obtain ⟨w3, hw3⟩ : ∃ w3, w3 = (w2.alloc (.cells #[.string ⟨#[77, 111, 110]⟩, .string ⟨#[84, 117, 101]⟩, .string ⟨#[87, 101, 100]⟩, .string ⟨#[84, 104, 117]⟩, .string ⟨#[70, 114, 105]⟩, .string ⟨#[83, 97, 116]⟩, .string ⟨#[83, 117, 110]⟩] 203)).alloc (.cells #[.string ⟨#[74, 97, 110]⟩, .string ⟨#[70, 101, 98]⟩, .string ⟨#[77, 97, 114]⟩, .string ⟨#[65, 112, 114]⟩, .string ⟨#[77, 97, 121]⟩, .string ⟨#[74, 117, 110]⟩, .string ⟨#[74, 117, 108]⟩, .string ⟨#[65, 117, 103]⟩, .string ⟨#[83, 101, 112]⟩, .string ⟨#[79, 99, 116]⟩, .string ⟨#[78, 111, 118]⟩, .string ⟨#[68, 101, 99]⟩] 205) := ⟨_, rfl⟩
 have A0 : RD w b w.heap.size (w.heap.size + 1) w2.heap.size (w2.heap.size + 1) t w3 r0 #[.int .i64 (0), .int .i64 (0), .int .i64 (0), .int .i64 (0), .int .i64 (0), .int .i64 (-1), .int .i64 (0), .int .i64 (0), .int .i64 (0), .int .i64 (0), .int .i64 (0), .int .i64 (0), .int .i64 (0)] := by
  have z0 := HS.out.lt
  have e0 := (Below.refl w.heap.size w).alloc (Nat.le_refl _) (.cells #[.int .i64 0, .int .i64 0, .int .i64 0, .int .i64 0, .int .i64 0, .int .i64 0, .int .i64 0, .int .i64 0, .int .i64 0, .int .i64 0, .int .i64 0, .int .i64 0, .int .i64 0] 172)
  have e1 := e0.alloc (by simp) (.cells #[.int .i64 (0), .int .i64 (0), .int .i64 (0), .int .i64 (0), .int .i64 (0), .int .i64 (-1), .int .i64 (0), .int .i64 (0), .int .i64 (0), .int .i64 (0), .int .i64 (0), .int .i64 (0), .int .i64 (0)] 172)
  have z1 := b1.size
  have z2 := b2.size
  simp at z1
  have e2 := e1.trans (b1.mono (by simp; omega))
  have e3 := e2.trans (b2.mono (by omega))
  have k1 := blk_below b1 (blk_old (.cells #[.int .i64 (0), .int .i64 (0), .int .i64 (0), .int .i64 (0), .int .i64 (0), .int .i64 (-1), .int .i64 (0), .int .i64 (0), .int .i64 (0), .int .i64 (0), .int .i64 (0), .int .i64 (0), .int .i64 (0)] 172) (blk_new w (.cells #[.int .i64 0, .int .i64 0, .int .i64 0, .int .i64 0, .int .i64 0, .int .i64 0, .int .i64 0, .int .i64 0, .int .i64 0, .int .i64 0, .int .i64 0, .int .i64 0, .int .i64 0] 172)))
  have k2 := blk_below b1 (bnew2 w (.cells #[.int .i64 0, .int .i64 0, .int .i64 0, .int .i64 0, .int .i64 0, .int .i64 0, .int .i64 0, .int .i64 0, .int .i64 0, .int .i64 0, .int .i64 0, .int .i64 0, .int .i64 0] 172) (.cells #[.int .i64 (0), .int .i64 (0), .int .i64 (0), .int .i64 (0), .int .i64 (0), .int .i64 (-1), .int .i64 (0), .int .i64 (0), .int .i64 (0), .int .i64 (0), .int .i64 (0), .int .i64 (0), .int .i64 (0)] 172))
  have k1' := blk_below b2 k1
  have k2' := blk_below b2 k2
  have e5 := (e3.alloc (by omega) (.cells #[.string ⟨#[77, 111, 110]⟩, .string ⟨#[84, 117, 101]⟩, .string ⟨#[87, 101, 100]⟩, .string ⟨#[84, 104, 117]⟩, .string ⟨#[70, 114, 105]⟩, .string ⟨#[83, 97, 116]⟩, .string ⟨#[83, 117, 110]⟩] 203)).alloc (by simp; omega) (.cells #[.string ⟨#[74, 97, 110]⟩, .string ⟨#[70, 101, 98]⟩, .string ⟨#[77, 97, 114]⟩, .string ⟨#[65, 112, 114]⟩, .string ⟨#[77, 97, 121]⟩, .string ⟨#[74, 117, 110]⟩, .string ⟨#[74, 117, 108]⟩, .string ⟨#[65, 117, 103]⟩, .string ⟨#[83, 101, 112]⟩, .string ⟨#[79, 99, 116]⟩, .string ⟨#[78, 111, 118]⟩, .string ⟨#[68, 101, 99]⟩] 205)
  rw [hw3]
  exact ⟨HS.out.below e5, blk_old _ (blk_old _ k1'), blk_old _ (blk_old _ k2'), blk_old _ (blk_new _ _), bnew2 _ _ _, But.of_below e5, z0, by omega, by omega, by omega, by omega, by omega, by omega, by omega⟩
 rw [← hw3]
 clear hw3 b1 b2 HS
 have ob := A0.o1
 generalize hrb : w.heap.size = rb at *
 have HRB := Lib.hid hrb; clear hrb
 have hpb : ∃ pb, pb = rb + 1 := ⟨_, rfl⟩
 obtain ⟨pb, hpb⟩ := hpb
 rw [← hpb] at A0 ⊢
 generalize w2.heap.size = dn at *
 obtain ⟨mn, hmn⟩ : ∃ mn, mn = dn + 1 := ⟨_, rfl⟩
 rw [← hmn] at A0 ⊢
 clear hpb hmn
 have C : Calls Tryz.prog 159 #[.pointer (some ⟨b, 0, none⟩), .func (.func 160) #[] #[]] w3 fun e w' => e = .returned (.bool true) ∧ Below w3.heap.size w3 w' := (sees_let b t r0 w3 A0.S hl (Nat.zero_le _)).mono (fun _ _ h => ⟨h.1.trans (congrArg (fun x => Ending.returned (.bool x)) HW.out), h.2⟩)
 have C' := Lib.hid C; clear C
 refine C'.out.mono ?_; rintro e w4 ⟨rfl, hB⟩; clear C'
 have A1 := A0.below hB; clear hB A0; have A0 : RD w b rb pb dn mn t w4 r0 #[.int .i64 (0), .int .i64 (0), .int .i64 (0), .int .i64 (0), .int .i64 (0), .int .i64 (-1), .int .i64 (0), .int .i64 (0), .int .i64 (0), .int .i64 (0), .int .i64 (0), .int .i64 (0), .int .i64 (0)] := A1; clear A1
 go_wp2_with fail
 have C : Calls Tryz.prog 161 #[.pointer (some ⟨b, 0, none⟩), .slice (some ⟨dn, 0, none⟩) 7 7] w4 fun e w' => e = .returned (.int .i64 (nameV t dayTab r0 : Nat)) ∧ Scn w' b t (nameS t dayTab r0) ∧ But b w4 w' := nameM_any b dn t r0 dayTab w4 A0.S hl (Nat.zero_le _) (by have := A0.o4; have := A0.o1; omega) (by decide) day_lens (day_cells A0.D)
 have C' := Lib.hid C; clear C
 refine C'.out.mono ?_; rintro e w5 ⟨rfl, hS, hB⟩; clear C'
 have A1 := A0.call hS hB; clear hS hB A0; have A0 : RD w b rb pb dn mn t w5 (nameS t dayTab r0) #[.int .i64 (0), .int .i64 (0), .int .i64 (0), .int .i64 (0), .int .i64 (0), .int .i64 (-1), .int .i64 (0), .int .i64 (0), .int .i64 (0), .int .i64 (0), .int .i64 (0), .int .i64 (0), .int .i64 (0)] := A1; clear A1
 have hpw : ((nameV t dayTab r0 : Nat) : Int) = pWd t := by unfold pWd; rw [HW.out, if_pos rfl]
 rw [hpw]; clear hpw
 have q5 : w5.cell? ⟨pb, 5, none⟩ = some (.int .i64 (-1)) := A0.cell 5
 have f5 : w5.frozen? ⟨pb, 5, none⟩ = false := A0.free 5
 go_wp2_with fail
 obtain ⟨w6, hnw⟩ : ∃ x, x = (w5.setCell ⟨pb, 5, none⟩ (.int .i64 (pWd t))) := ⟨_, rfl⟩
 have A1 : RD w b rb pb dn mn t w6 (nameS t dayTab r0) #[.int .i64 (0), .int .i64 (0), .int .i64 (0), .int .i64 (0), .int .i64 (0), .int .i64 (pWd t), .int .i64 (0), .int .i64 (0), .int .i64 (0), .int .i64 (0), .int .i64 (0), .int .i64 (0), .int .i64 (0)] := by rw [hnw]; exact (A0.store 5 (.int .i64 (pWd t)))
 rw [← hnw]
 clear hnw A0 q5 f5
 have A0 := A1; clear A1
 refine (is_any 44 w6).mono ?_; rintro e w7 ⟨rfl, hX, hB⟩
 have HX := Lib.hid hX; clear hX
 have A1 := A0.below hB; clear hB A0; have A0 : RD w b rb pb dn mn t w7 (nameS t dayTab r0) #[.int .i64 (0), .int .i64 (0), .int .i64 (0), .int .i64 (0), .int .i64 (0), .int .i64 (pWd t), .int .i64 (0), .int .i64 (0), .int .i64 (0), .int .i64 (0), .int .i64 (0), .int .i64 (0), .int .i64 (0)] := A1; clear A1
 generalize w6.heap.size = cb at *
 go_wp2_with fail
 have C : Calls Tryz.prog 162 #[.pointer (some ⟨b, 0, none⟩), .func (.func 206) #[] #[.pointer (some ⟨cb, 0, none⟩)]] w7 fun e w' => e = .returned (.int .u8 (needB t (isCh 44) (nameS t dayTab r0)).toNat) ∧ Scn w' b t (need t (isCh 44) (nameS t dayTab r0)) ∧ But b w7 w' := need_ch b t _ 44 cb w7 A0.S hl (nameS_p (Nat.zero_le _)) HX.out
 have C' := Lib.hid C; clear C
 refine C'.out.mono ?_; rintro e w8 ⟨rfl, hS, hB⟩; clear C'
 have A1 := A0.call hS hB; clear hS hB A0; have A0 : RD w b rb pb dn mn t w8 (need t (isCh 44) (nameS t dayTab r0)) #[.int .i64 (0), .int .i64 (0), .int .i64 (0), .int .i64 (0), .int .i64 (0), .int .i64 (pWd t), .int .i64 (0), .int .i64 (0), .int .i64 (0), .int .i64 (0), .int .i64 (0), .int .i64 (0), .int .i64 (0)] := A1; clear A1
 clear HX
 go_wp2_with fail
 have C : Calls Tryz.prog 164 #[.pointer (some ⟨b, 0, none⟩), .func (.func 165) #[] #[]] w8 fun e w' => e = .returned (.tuple #[]) ∧ Scn w' b t (skip t isBl (need t (isCh 44) (nameS t dayTab r0))) ∧ But b w8 w' := skip_bl b t _ w8 A0.S hl (need_p (nameS_p (Nat.zero_le _)))
 have C' := Lib.hid C; clear C
 refine C'.out.mono ?_; rintro e w9 ⟨rfl, hS, hB⟩; clear C'
 have A1 := A0.call hS hB; clear hS hB A0; have A0 : RD w b rb pb dn mn t w9 (skip t isBl (need t (isCh 44) (nameS t dayTab r0))) #[.int .i64 (0), .int .i64 (0), .int .i64 (0), .int .i64 (0), .int .i64 (0), .int .i64 (pWd t), .int .i64 (0), .int .i64 (0), .int .i64 (0), .int .i64 (0), .int .i64 (0), .int .i64 (0), .int .i64 (0)] := A1; clear A1
 have A1 : RD w b rb pb dn mn t w9 (r1 t) #[.int .i64 (0), .int .i64 (0), .int .i64 (0), .int .i64 (0), .int .i64 (0), .int .i64 (pWd t), .int .i64 (0), .int .i64 (0), .int .i64 (0), .int .i64 (0), .int .i64 (0), .int .i64 (0), .int .i64 (0)] := by
  have e : r1 t = skip t isBl (need t (isCh 44) (nameS t dayTab r0)) := by unfold r1; rw [HW.out, if_pos rfl]
  rw [e]; exact A0
 clear A0; have A0 := A1; clear A1
 go_wp2_with fail
 have C : Calls Tryz.prog 166 #[.pointer (some ⟨b, 0, none⟩), .int .i64 1, .int .i64 1] w9 fun e w' => e = .returned (.tuple #[.int .i64 ((r1 t).p : Nat), .int .i64 (pDay t)]) ∧ Scn w' b t (r2 t) ∧ But b w9 w' := number_any b t (r1 t) 1 1 w9 A0.S hl r1_p (by omega) (by omega)
 have C' := Lib.hid C; clear C
 refine C'.out.mono ?_; rintro e w10 ⟨rfl, hS, hB⟩; clear C'
 have A1 := A0.call hS hB; clear hS hB A0; have A0 : RD w b rb pb dn mn t w10 (r2 t) #[.int .i64 (0), .int .i64 (0), .int .i64 (0), .int .i64 (0), .int .i64 (0), .int .i64 (pWd t), .int .i64 (0), .int .i64 (0), .int .i64 (0), .int .i64 (0), .int .i64 (0), .int .i64 (0), .int .i64 (0)] := A1; clear A1
 have q8 : w10.cell? ⟨pb, 8, none⟩ = some (.int .i64 (0)) := A0.cell 8
 have f8 : w10.frozen? ⟨pb, 8, none⟩ = false := A0.free 8
 have q2 : w10.cell? ⟨pb, 2, none⟩ = some (.int .i64 (0)) := A0.cell 2
 have f2 : w10.frozen? ⟨pb, 2, none⟩ = false := A0.free 2
 go_wp2_with fail
 obtain ⟨w11, hnw⟩ : ∃ x, x = ((w10.setCell ⟨pb, 8, none⟩ (.int .i64 ((r1 t).p))).setCell ⟨pb, 2, none⟩ (.int .i64 (pDay t))) := ⟨_, rfl⟩
 have A1 : RD w b rb pb dn mn t w11 (r2 t) #[.int .i64 (0), .int .i64 (0), .int .i64 (pDay t), .int .i64 (0), .int .i64 (0), .int .i64 (pWd t), .int .i64 (0), .int .i64 (0), .int .i64 ((r1 t).p), .int .i64 (0), .int .i64 (0), .int .i64 (0), .int .i64 (0)] := by rw [hnw]; exact ((A0.store 8 (.int .i64 ((r1 t).p))).store 2 (.int .i64 (pDay t)))
 rw [← hnw]
 clear hnw A0 q8 f8 q2 f2
 have A0 := A1; clear A1
 have C : Calls Tryz.prog 167 #[.pointer (some ⟨b, 0, none⟩)] w11 fun e w' => e = .returned (.tuple #[]) ∧ Scn w' b t (r3 t) ∧ But b w11 w' := blanks_any b t (r2 t) w11 A0.S hl r2_p
 have C' := Lib.hid C; clear C
 refine C'.out.mono ?_; rintro e w12 ⟨rfl, hS, hB⟩; clear C'
 have A1 := A0.call hS hB; clear hS hB A0; have A0 : RD w b rb pb dn mn t w12 (r3 t) #[.int .i64 (0), .int .i64 (0), .int .i64 (pDay t), .int .i64 (0), .int .i64 (0), .int .i64 (pWd t), .int .i64 (0), .int .i64 (0), .int .i64 ((r1 t).p), .int .i64 (0), .int .i64 (0), .int .i64 (0), .int .i64 (0)] := A1; clear A1
 go_wp2_with fail
 have C : Calls Tryz.prog 161 #[.pointer (some ⟨b, 0, none⟩), .slice (some ⟨mn, 0, none⟩) 12 12] w12 fun e w' => e = .returned (.int .i64 (nameV t monTab (r3 t) : Nat)) ∧ Scn w' b t (r4 t) ∧ But b w12 w' := nameM_any b mn t (r3 t) monTab w12 A0.S hl r3_p (by have := A0.o5; have := A0.o1; omega) (by decide) mon_lens (mon_cells A0.M)
 have C' := Lib.hid C; clear C
 refine C'.out.mono ?_; rintro e w13 ⟨rfl, hS, hB⟩; clear C'
 have A1 := A0.call hS hB; clear hS hB A0; have A0 : RD w b rb pb dn mn t w13 (r4 t) #[.int .i64 (0), .int .i64 (0), .int .i64 (pDay t), .int .i64 (0), .int .i64 (0), .int .i64 (pWd t), .int .i64 (0), .int .i64 (0), .int .i64 ((r1 t).p), .int .i64 (0), .int .i64 (0), .int .i64 (0), .int .i64 (0)] := A1; clear A1
 have mlt : ((nameV t monTab (r3 t) : Nat) : Int) < 12 := by have := nameV_lt (t := t) (n := monTab) (s := r3 t) (by decide); have h12 : monTab.length = 12 := rfl; omega
 have HPM : Hid (((nameV t monTab (r3 t) : Nat) : Int) + 1 = pMon t) := rfl
 generalize nameV t monTab (r3 t) = mv at *
 have q1 : w13.cell? ⟨pb, 1, none⟩ = some (.int .i64 (0)) := A0.cell 1
 have f1 : w13.frozen? ⟨pb, 1, none⟩ = false := A0.free 1
 go_wp2_with fail
 rw [HPM.out]
 obtain ⟨w14, hnw⟩ : ∃ x, x = w13.setCell ⟨pb, 1, none⟩ (.int .i64 (pMon t)) := ⟨_, rfl⟩
 have A1 : RD w b rb pb dn mn t w14 (r4 t) #[.int .i64 (0), .int .i64 (pMon t), .int .i64 (pDay t), .int .i64 (0), .int .i64 (0), .int .i64 (pWd t), .int .i64 (0), .int .i64 (0), .int .i64 ((r1 t).p), .int .i64 (0), .int .i64 (0), .int .i64 (0), .int .i64 (0)] := by rw [hnw]; exact A0.store 1 (.int .i64 (pMon t))
 rw [← hnw]
 clear hnw A0 q1 f1 HPM mlt
 skip
 have A0 := A1; clear A1
 have C : Calls Tryz.prog 167 #[.pointer (some ⟨b, 0, none⟩)] w14 fun e w' => e = .returned (.tuple #[]) ∧ Scn w' b t (r5 t) ∧ But b w14 w' := blanks_any b t (r4 t) w14 A0.S hl r4_p
 have C' := Lib.hid C; clear C
 refine C'.out.mono ?_; rintro e w15 ⟨rfl, hS, hB⟩; clear C'
 have A1 := A0.call hS hB; clear hS hB A0; have A0 : RD w b rb pb dn mn t w15 (r5 t) #[.int .i64 (0), .int .i64 (pMon t), .int .i64 (pDay t), .int .i64 (0), .int .i64 (0), .int .i64 (pWd t), .int .i64 (0), .int .i64 (0), .int .i64 ((r1 t).p), .int .i64 (0), .int .i64 (0), .int .i64 (0), .int .i64 (0)] := A1; clear A1
 go_wp2_with fail
 have C : Calls Tryz.prog 166 #[.pointer (some ⟨b, 0, none⟩), .int .i64 4, .int .i64 0] w15 fun e w' => e = .returned (.tuple #[.int .i64 ((r5 t).p : Nat), .int .i64 (pYear t)]) ∧ Scn w' b t (r6 t) ∧ But b w15 w' := number_any b t (r5 t) 4 0 w15 A0.S hl r5_p (by omega) (by omega)
 have C' := Lib.hid C; clear C
 refine C'.out.mono ?_; rintro e w16 ⟨rfl, hS, hB⟩; clear C'
 have A1 := A0.call hS hB; clear hS hB A0; have A0 : RD w b rb pb dn mn t w16 (r6 t) #[.int .i64 (0), .int .i64 (pMon t), .int .i64 (pDay t), .int .i64 (0), .int .i64 (0), .int .i64 (pWd t), .int .i64 (0), .int .i64 (0), .int .i64 ((r1 t).p), .int .i64 (0), .int .i64 (0), .int .i64 (0), .int .i64 (0)] := A1; clear A1
 have q9 : w16.cell? ⟨pb, 9, none⟩ = some (.int .i64 (0)) := A0.cell 9
 have f9 : w16.frozen? ⟨pb, 9, none⟩ = false := A0.free 9
 have q0 : w16.cell? ⟨pb, 0, none⟩ = some (.int .i64 (0)) := A0.cell 0
 have f0 : w16.frozen? ⟨pb, 0, none⟩ = false := A0.free 0
 go_wp2_with fail
 obtain ⟨w17, hnw⟩ : ∃ x, x = ((w16.setCell ⟨pb, 9, none⟩ (.int .i64 ((r5 t).p))).setCell ⟨pb, 0, none⟩ (.int .i64 (pYear t))) := ⟨_, rfl⟩
 have A1 : RD w b rb pb dn mn t w17 (r6 t) #[.int .i64 (pYear t), .int .i64 (pMon t), .int .i64 (pDay t), .int .i64 (0), .int .i64 (0), .int .i64 (pWd t), .int .i64 (0), .int .i64 (0), .int .i64 ((r1 t).p), .int .i64 ((r5 t).p), .int .i64 (0), .int .i64 (0), .int .i64 (0)] := by rw [hnw]; exact ((A0.store 9 (.int .i64 ((r5 t).p))).store 0 (.int .i64 (pYear t)))
 rw [← hnw]
 clear hnw A0 q9 f9 q0 f0
 have A0 := A1; clear A1
 have C : Calls Tryz.prog 167 #[.pointer (some ⟨b, 0, none⟩)] w17 fun e w' => e = .returned (.tuple #[]) ∧ Scn w' b t (r7 t) ∧ But b w17 w' := blanks_any b t (r6 t) w17 A0.S hl r6_p
 have C' := Lib.hid C; clear C
 refine C'.out.mono ?_; rintro e w18 ⟨rfl, hS, hB⟩; clear C'
 have A1 := A0.call hS hB; clear hS hB A0; have A0 : RD w b rb pb dn mn t w18 (r7 t) #[.int .i64 (pYear t), .int .i64 (pMon t), .int .i64 (pDay t), .int .i64 (0), .int .i64 (0), .int .i64 (pWd t), .int .i64 (0), .int .i64 (0), .int .i64 ((r1 t).p), .int .i64 ((r5 t).p), .int .i64 (0), .int .i64 (0), .int .i64 (0)] := A1; clear A1
 go_wp2_with fail
 have C : Calls Tryz.prog 166 #[.pointer (some ⟨b, 0, none⟩), .int .i64 2, .int .i64 0] w18 fun e w' => e = .returned (.tuple #[.int .i64 ((r7 t).p : Nat), .int .i64 (pHour t)]) ∧ Scn w' b t (r8 t) ∧ But b w18 w' := number_any b t (r7 t) 2 0 w18 A0.S hl r7_p (by omega) (by omega)
 have C' := Lib.hid C; clear C
 refine C'.out.mono ?_; rintro e w19 ⟨rfl, hS, hB⟩; clear C'
 have A1 := A0.call hS hB; clear hS hB A0; have A0 : RD w b rb pb dn mn t w19 (r8 t) #[.int .i64 (pYear t), .int .i64 (pMon t), .int .i64 (pDay t), .int .i64 (0), .int .i64 (0), .int .i64 (pWd t), .int .i64 (0), .int .i64 (0), .int .i64 ((r1 t).p), .int .i64 ((r5 t).p), .int .i64 (0), .int .i64 (0), .int .i64 (0)] := A1; clear A1
 have q10 : w19.cell? ⟨pb, 10, none⟩ = some (.int .i64 (0)) := A0.cell 10
 have f10 : w19.frozen? ⟨pb, 10, none⟩ = false := A0.free 10
 have q3 : w19.cell? ⟨pb, 3, none⟩ = some (.int .i64 (0)) := A0.cell 3
 have f3 : w19.frozen? ⟨pb, 3, none⟩ = false := A0.free 3
 go_wp2_with fail
 obtain ⟨w20, hnw⟩ : ∃ x, x = ((w19.setCell ⟨pb, 10, none⟩ (.int .i64 ((r7 t).p))).setCell ⟨pb, 3, none⟩ (.int .i64 (pHour t))) := ⟨_, rfl⟩
 have A1 : RD w b rb pb dn mn t w20 (r8 t) #[.int .i64 (pYear t), .int .i64 (pMon t), .int .i64 (pDay t), .int .i64 (pHour t), .int .i64 (0), .int .i64 (pWd t), .int .i64 (0), .int .i64 (0), .int .i64 ((r1 t).p), .int .i64 ((r5 t).p), .int .i64 ((r7 t).p), .int .i64 (0), .int .i64 (0)] := by rw [hnw]; exact ((A0.store 10 (.int .i64 ((r7 t).p))).store 3 (.int .i64 (pHour t)))
 rw [← hnw]
 clear hnw A0 q10 f10 q3 f3
 have A0 := A1; clear A1
 refine (is_any 58 w20).mono ?_; rintro e w21 ⟨rfl, hX, hB⟩
 have HX := Lib.hid hX; clear hX
 have A1 := A0.below hB; clear hB A0; have A0 : RD w b rb pb dn mn t w21 (r8 t) #[.int .i64 (pYear t), .int .i64 (pMon t), .int .i64 (pDay t), .int .i64 (pHour t), .int .i64 (0), .int .i64 (pWd t), .int .i64 (0), .int .i64 (0), .int .i64 ((r1 t).p), .int .i64 ((r5 t).p), .int .i64 ((r7 t).p), .int .i64 (0), .int .i64 (0)] := A1; clear A1
 generalize w20.heap.size = cb at *
 go_wp2_with fail
 have C : Calls Tryz.prog 162 #[.pointer (some ⟨b, 0, none⟩), .func (.func 206) #[] #[.pointer (some ⟨cb, 0, none⟩)]] w21 fun e w' => e = .returned (.int .u8 (needB t (isCh 58) (r8 t)).toNat) ∧ Scn w' b t (r9 t) ∧ But b w21 w' := need_ch b t (r8 t) 58 cb w21 A0.S hl r8_p HX.out
 have C' := Lib.hid C; clear C
 refine C'.out.mono ?_; rintro e w22 ⟨rfl, hS, hB⟩; clear C'
 have A1 := A0.call hS hB; clear hS hB A0; have A0 : RD w b rb pb dn mn t w22 (r9 t) #[.int .i64 (pYear t), .int .i64 (pMon t), .int .i64 (pDay t), .int .i64 (pHour t), .int .i64 (0), .int .i64 (pWd t), .int .i64 (0), .int .i64 (0), .int .i64 ((r1 t).p), .int .i64 ((r5 t).p), .int .i64 ((r7 t).p), .int .i64 (0), .int .i64 (0)] := A1; clear A1
 clear HX
 go_wp2_with fail
 have C : Calls Tryz.prog 166 #[.pointer (some ⟨b, 0, none⟩), .int .i64 2, .int .i64 0] w22 fun e w' => e = .returned (.tuple #[.int .i64 ((r9 t).p : Nat), .int .i64 (pMin t)]) ∧ Scn w' b t (r10 t) ∧ But b w22 w' := number_any b t (r9 t) 2 0 w22 A0.S hl r9_p (by omega) (by omega)
 have C' := Lib.hid C; clear C
 refine C'.out.mono ?_; rintro e w23 ⟨rfl, hS, hB⟩; clear C'
 have A1 := A0.call hS hB; clear hS hB A0; have A0 : RD w b rb pb dn mn t w23 (r10 t) #[.int .i64 (pYear t), .int .i64 (pMon t), .int .i64 (pDay t), .int .i64 (pHour t), .int .i64 (0), .int .i64 (pWd t), .int .i64 (0), .int .i64 (0), .int .i64 ((r1 t).p), .int .i64 ((r5 t).p), .int .i64 ((r7 t).p), .int .i64 (0), .int .i64 (0)] := A1; clear A1
 have q11 : w23.cell? ⟨pb, 11, none⟩ = some (.int .i64 (0)) := A0.cell 11
 have f11 : w23.frozen? ⟨pb, 11, none⟩ = false := A0.free 11
 have q4 : w23.cell? ⟨pb, 4, none⟩ = some (.int .i64 (0)) := A0.cell 4
 have f4 : w23.frozen? ⟨pb, 4, none⟩ = false := A0.free 4
 go_wp2_with fail
 obtain ⟨w24, hnw⟩ : ∃ x, x = ((w23.setCell ⟨pb, 11, none⟩ (.int .i64 ((r9 t).p))).setCell ⟨pb, 4, none⟩ (.int .i64 (pMin t))) := ⟨_, rfl⟩
 have A1 : RD w b rb pb dn mn t w24 (r10 t) #[.int .i64 (pYear t), .int .i64 (pMon t), .int .i64 (pDay t), .int .i64 (pHour t), .int .i64 (pMin t), .int .i64 (pWd t), .int .i64 (0), .int .i64 (0), .int .i64 ((r1 t).p), .int .i64 ((r5 t).p), .int .i64 ((r7 t).p), .int .i64 ((r9 t).p), .int .i64 (0)] := by rw [hnw]; exact ((A0.store 11 (.int .i64 ((r9 t).p))).store 4 (.int .i64 (pMin t)))
 rw [← hnw]
 clear hnw A0 q11 f11 q4 f4
 have A0 := A1; clear A1
 refine (is_any 58 w24).mono ?_; rintro e w25 ⟨rfl, hX, hB⟩
 have HX := Lib.hid hX; clear hX
 have A1 := A0.below hB; clear hB A0; have A0 : RD w b rb pb dn mn t w25 (r10 t) #[.int .i64 (pYear t), .int .i64 (pMon t), .int .i64 (pDay t), .int .i64 (pHour t), .int .i64 (pMin t), .int .i64 (pWd t), .int .i64 (0), .int .i64 (0), .int .i64 ((r1 t).p), .int .i64 ((r5 t).p), .int .i64 ((r7 t).p), .int .i64 ((r9 t).p), .int .i64 (0)] := A1; clear A1
 generalize w24.heap.size = cb at *
 go_wp2_with fail
 have C : Calls Tryz.prog 159 #[.pointer (some ⟨b, 0, none⟩), .func (.func 206) #[] #[.pointer (some ⟨cb, 0, none⟩)]] w25 fun e w' => e = .returned (.bool true) ∧ Below w25.heap.size w25 w' := (sees_ch b t (r10 t) 58 cb w25 A0.S hl r10_p HX.out).mono (fun _ _ h => ⟨h.1.trans (congrArg (fun x => Ending.returned (.bool x)) HH.out), h.2⟩)
 have C' := Lib.hid C; clear C
 refine C'.out.mono ?_; rintro e w26 ⟨rfl, hB⟩; clear C'
 have A1 := A0.below hB; clear hB A0; have A0 : RD w b rb pb dn mn t w26 (r10 t) #[.int .i64 (pYear t), .int .i64 (pMon t), .int .i64 (pDay t), .int .i64 (pHour t), .int .i64 (pMin t), .int .i64 (pWd t), .int .i64 (0), .int .i64 (0), .int .i64 ((r1 t).p), .int .i64 ((r5 t).p), .int .i64 ((r7 t).p), .int .i64 ((r9 t).p), .int .i64 (0)] := A1; clear A1
 clear HX
 go_wp2_with fail
 refine (is_any 58 w26).mono ?_; rintro e w27 ⟨rfl, hX, hB⟩
 have HX := Lib.hid hX; clear hX
 have A1 := A0.below hB; clear hB A0; have A0 : RD w b rb pb dn mn t w27 (r10 t) #[.int .i64 (pYear t), .int .i64 (pMon t), .int .i64 (pDay t), .int .i64 (pHour t), .int .i64 (pMin t), .int .i64 (pWd t), .int .i64 (0), .int .i64 (0), .int .i64 ((r1 t).p), .int .i64 ((r5 t).p), .int .i64 ((r7 t).p), .int .i64 ((r9 t).p), .int .i64 (0)] := A1; clear A1
 generalize w26.heap.size = cb at *
 go_wp2_with fail
 have C : Calls Tryz.prog 162 #[.pointer (some ⟨b, 0, none⟩), .func (.func 206) #[] #[.pointer (some ⟨cb, 0, none⟩)]] w27 fun e w' => e = .returned (.int .u8 (needB t (isCh 58) (r10 t)).toNat) ∧ Scn w' b t (r10a t) ∧ But b w27 w' := need_ch b t (r10 t) 58 cb w27 A0.S hl r10_p HX.out
 have C' := Lib.hid C; clear C
 refine C'.out.mono ?_; rintro e w28 ⟨rfl, hS, hB⟩; clear C'
 have A1 := A0.call hS hB; clear hS hB A0; have A0 : RD w b rb pb dn mn t w28 (r10a t) #[.int .i64 (pYear t), .int .i64 (pMon t), .int .i64 (pDay t), .int .i64 (pHour t), .int .i64 (pMin t), .int .i64 (pWd t), .int .i64 (0), .int .i64 (0), .int .i64 ((r1 t).p), .int .i64 ((r5 t).p), .int .i64 ((r7 t).p), .int .i64 ((r9 t).p), .int .i64 (0)] := A1; clear A1
 clear HX
 go_wp2_with fail
 have C : Calls Tryz.prog 166 #[.pointer (some ⟨b, 0, none⟩), .int .i64 2, .int .i64 0] w28 fun e w' => e = .returned (.tuple #[.int .i64 ((r10a t).p : Nat), .int .i64 (numV t 2 false (r10a t))]) ∧ Scn w' b t (numS t 2 false (r10a t)) ∧ But b w28 w' := number_any b t (r10a t) 2 0 w28 A0.S hl r10a_p (by omega) (by omega)
 have C' := Lib.hid C; clear C
 refine C'.out.mono ?_; rintro e w29 ⟨rfl, hS, hB⟩; clear C'
 have A1 := A0.call hS hB; clear hS hB A0; have A0 : RD w b rb pb dn mn t w29 (numS t 2 false (r10a t)) #[.int .i64 (pYear t), .int .i64 (pMon t), .int .i64 (pDay t), .int .i64 (pHour t), .int .i64 (pMin t), .int .i64 (pWd t), .int .i64 (0), .int .i64 (0), .int .i64 ((r1 t).p), .int .i64 ((r5 t).p), .int .i64 ((r7 t).p), .int .i64 ((r9 t).p), .int .i64 (0)] := A1; clear A1
 have e1 : (((r10a t).p : Nat) : Int) = pSecAt t := by unfold pSecAt; rw [HH.out, if_pos rfl]
 have e2 : numV t 2 false (r10a t) = pSec t := by unfold pSec; rw [HH.out, if_pos rfl]
 rw [e1, e2]; clear e1 e2
 have q12 : w29.cell? ⟨pb, 12, none⟩ = some (.int .i64 (0)) := A0.cell 12
 have f12 : w29.frozen? ⟨pb, 12, none⟩ = false := A0.free 12
 have q6 : w29.cell? ⟨pb, 6, none⟩ = some (.int .i64 (0)) := A0.cell 6
 have f6 : w29.frozen? ⟨pb, 6, none⟩ = false := A0.free 6
 go_wp2_with fail
 obtain ⟨w30, hnw⟩ : ∃ x, x = ((w29.setCell ⟨pb, 12, none⟩ (.int .i64 (pSecAt t))).setCell ⟨pb, 6, none⟩ (.int .i64 (pSec t))) := ⟨_, rfl⟩
 have A1 : RD w b rb pb dn mn t w30 (numS t 2 false (r10a t)) #[.int .i64 (pYear t), .int .i64 (pMon t), .int .i64 (pDay t), .int .i64 (pHour t), .int .i64 (pMin t), .int .i64 (pWd t), .int .i64 (pSec t), .int .i64 (0), .int .i64 ((r1 t).p), .int .i64 ((r5 t).p), .int .i64 ((r7 t).p), .int .i64 ((r9 t).p), .int .i64 (pSecAt t)] := by rw [hnw]; exact ((A0.store 12 (.int .i64 (pSecAt t))).store 6 (.int .i64 (pSec t)))
 rw [← hnw]
 clear hnw A0 q12 f12 q6 f6
 have A0 := A1; clear A1
 have A1 : RD w b rb pb dn mn t w30 (r11 t) #[.int .i64 (pYear t), .int .i64 (pMon t), .int .i64 (pDay t), .int .i64 (pHour t), .int .i64 (pMin t), .int .i64 (pWd t), .int .i64 (pSec t), .int .i64 (0), .int .i64 ((r1 t).p), .int .i64 ((r5 t).p), .int .i64 ((r7 t).p), .int .i64 ((r9 t).p), .int .i64 (pSecAt t)] := by
  have e : r11 t = numS t 2 false (r10a t) := by unfold r11; rw [HH.out, if_pos rfl]
  rw [e]; exact A0
 clear A0; have A0 := A1; clear A1
 have C : Calls Tryz.prog 167 #[.pointer (some ⟨b, 0, none⟩)] w30 fun e w' => e = .returned (.tuple #[]) ∧ Scn w' b t (r12 t) ∧ But b w30 w' := blanks_any b t (r11 t) w30 A0.S hl r11_p
 have C' := Lib.hid C; clear C
 refine C'.out.mono ?_; rintro e w31 ⟨rfl, hS, hB⟩; clear C'
 have A1 := A0.call hS hB; clear hS hB A0; have A0 : RD w b rb pb dn mn t w31 (r12 t) #[.int .i64 (pYear t), .int .i64 (pMon t), .int .i64 (pDay t), .int .i64 (pHour t), .int .i64 (pMin t), .int .i64 (pWd t), .int .i64 (pSec t), .int .i64 (0), .int .i64 ((r1 t).p), .int .i64 ((r5 t).p), .int .i64 ((r7 t).p), .int .i64 ((r9 t).p), .int .i64 (pSecAt t)] := A1; clear A1
 go_wp2_with fail
 have C : Calls Tryz.prog 168 #[.pointer (some ⟨b, 0, none⟩)] w31 fun e w' => e = .returned (.int .i64 (pOff t)) ∧ Scn w' b t (r13 t) ∧ But b w31 w' := zoneM_any b t (r12 t) w31 A0.S hl r12_p
 have C' := Lib.hid C; clear C
 refine C'.out.mono ?_; rintro e w32 ⟨rfl, hS, hB⟩; clear C'
 have A1 := A0.call hS hB; clear hS hB A0; have A0 : RD w b rb pb dn mn t w32 (r13 t) #[.int .i64 (pYear t), .int .i64 (pMon t), .int .i64 (pDay t), .int .i64 (pHour t), .int .i64 (pMin t), .int .i64 (pWd t), .int .i64 (pSec t), .int .i64 (0), .int .i64 ((r1 t).p), .int .i64 ((r5 t).p), .int .i64 ((r7 t).p), .int .i64 ((r9 t).p), .int .i64 (pSecAt t)] := A1; clear A1
 have q7 : w32.cell? ⟨pb, 7, none⟩ = some (.int .i64 (0)) := A0.cell 7
 have f7 : w32.frozen? ⟨pb, 7, none⟩ = false := A0.free 7
 go_upto_region 21 with (fail)
 obtain ⟨w33, hnw⟩ : ∃ x, x = w32.setCell ⟨pb, 7, none⟩ (.int .i64 (pOff t)) := ⟨_, rfl⟩
 have A1 : RD w b rb pb dn mn t w33 (r13 t) #[.int .i64 (pYear t), .int .i64 (pMon t), .int .i64 (pDay t), .int .i64 (pHour t), .int .i64 (pMin t), .int .i64 (pWd t), .int .i64 (pSec t), .int .i64 (pOff t), .int .i64 ((r1 t).p), .int .i64 ((r5 t).p), .int .i64 ((r7 t).p), .int .i64 ((r9 t).p), .int .i64 (pSecAt t)] := by rw [hnw]; exact A0.store 7 (.int .i64 (pOff t))
 rw [← hnw]
 clear hnw A0 q7 f7
 have A0 := A1; clear A1
 have q0 : w33.cell? ⟨pb, 0, none⟩ = some (.int .i64 (pYear t)) := A0.cell 0
 have g0 : w33.cell? ⟨rb, 0, none⟩ = some (.int .i64 0) := blk_cell A0.R 0
 have q1 : w33.cell? ⟨pb, 1, none⟩ = some (.int .i64 (pMon t)) := A0.cell 1
 have g1 : w33.cell? ⟨rb, 1, none⟩ = some (.int .i64 0) := blk_cell A0.R 1
 have q2 : w33.cell? ⟨pb, 2, none⟩ = some (.int .i64 (pDay t)) := A0.cell 2
 have g2 : w33.cell? ⟨rb, 2, none⟩ = some (.int .i64 0) := blk_cell A0.R 2
 have q3 : w33.cell? ⟨pb, 3, none⟩ = some (.int .i64 (pHour t)) := A0.cell 3
 have g3 : w33.cell? ⟨rb, 3, none⟩ = some (.int .i64 0) := blk_cell A0.R 3
 have q4 : w33.cell? ⟨pb, 4, none⟩ = some (.int .i64 (pMin t)) := A0.cell 4
 have g4 : w33.cell? ⟨rb, 4, none⟩ = some (.int .i64 0) := blk_cell A0.R 4
 have q5 : w33.cell? ⟨pb, 5, none⟩ = some (.int .i64 (pWd t)) := A0.cell 5
 have g5 : w33.cell? ⟨rb, 5, none⟩ = some (.int .i64 0) := blk_cell A0.R 5
 have q6 : w33.cell? ⟨pb, 6, none⟩ = some (.int .i64 (pSec t)) := A0.cell 6
 have g6 : w33.cell? ⟨rb, 6, none⟩ = some (.int .i64 0) := blk_cell A0.R 6
 have q7 : w33.cell? ⟨pb, 7, none⟩ = some (.int .i64 (pOff t)) := A0.cell 7
 have g7 : w33.cell? ⟨rb, 7, none⟩ = some (.int .i64 0) := blk_cell A0.R 7
 have q8 : w33.cell? ⟨pb, 8, none⟩ = some (.int .i64 ((r1 t).p)) := A0.cell 8
 have g8 : w33.cell? ⟨rb, 8, none⟩ = some (.int .i64 0) := blk_cell A0.R 8
 have q9 : w33.cell? ⟨pb, 9, none⟩ = some (.int .i64 ((r5 t).p)) := A0.cell 9
 have g9 : w33.cell? ⟨rb, 9, none⟩ = some (.int .i64 0) := blk_cell A0.R 9
 have q10 : w33.cell? ⟨pb, 10, none⟩ = some (.int .i64 ((r7 t).p)) := A0.cell 10
 have g10 : w33.cell? ⟨rb, 10, none⟩ = some (.int .i64 0) := blk_cell A0.R 10
 have q11 : w33.cell? ⟨pb, 11, none⟩ = some (.int .i64 ((r9 t).p)) := A0.cell 11
 have g11 : w33.cell? ⟨rb, 11, none⟩ = some (.int .i64 0) := blk_cell A0.R 11
 have q12 : w33.cell? ⟨pb, 12, none⟩ = some (.int .i64 (pSecAt t)) := A0.cell 12
 have g12 : w33.cell? ⟨rb, 12, none⟩ = some (.int .i64 0) := blk_cell A0.R 12
 have gf : ∀ i, w33.frozen? ⟨rb, i, none⟩ = false := blk_free A0.R
 have nrp := A0.o6
 have npr := Ne.symm nrp
 have A9 := A0.S
 have B9 := A0.B
 have o1 := A0.o1
 have o2 := A0.o2
 clear A0
 have A9' := Lib.hid A9; clear A9
 go_wp2_with fail
 refine bodyPost_ret (v := .agg #[.int .i64 (pYear t), .int .i64 (pMon t), .int .i64 (pDay t), .int .i64 (pHour t), .int .i64 (pMin t), .int .i64 (pWd t), .int .i64 (pSec t), .int .i64 (pOff t), .int .i64 ((r1 t).p), .int .i64 ((r5 t).p), .int .i64 ((r7 t).p), .int .i64 ((r9 t).p), .int .i64 (pSecAt t)]) (by simp [results, Tryz.results124, go_sem, g0, g1, g2, g3, g4, g5, g6, g7, g8, g9, g10, g11, g12]) rfl ⟨rfl, ?_, ?_⟩
 ·have hne : b ≠ rb := by omega
  have key : ∀ (u : World) (i : Nat) (v : Value), Scn u b t (r13 t) → Scn (u.setCell ⟨rb, i, none⟩ v) b t (r13 t) := fun u i v hu => by unfold Scn at hu ⊢; rw [blk_set_ne _ _ hne]; exact hu
  repeat refine key _ _ _ ?_
  exact A9'.out
 ·have key : ∀ (u : World) (i : Nat) (v : Value), But b w u → But b w (u.setCell ⟨rb, i, none⟩ v) := fun u i v hu =>
   ⟨hu.os, hu.tape, hu.output, by have := hu.size; simpa [World.setCell] using this, fun k hk hne => by rw [Below.heap_setCell _ _ _ _ (show k ≠ rb by omega)]; exact hu.block k hk hne⟩
  repeat refine key _ _ _ ?_
  exact B9
theorem read_any (b : Nat) (t : List UInt8) (w : World) (h : Scn w b t ⟨0, 0⟩) (hl : t.length ≤ 1000) :
  Calls Tryz.prog 124 #[.pointer (some ⟨b, 0, none⟩)] w fun e w' => e = .returned (.agg #[.int .i64 (pYear t), .int .i64 (pMon t), .int .i64 (pDay t), .int .i64 (pHour t), .int .i64 (pMin t), .int .i64 (pWd t), .int .i64 (pSec t), .int .i64 (pOff t), .int .i64 ((r1 t).p), .int .i64 ((r5 t).p), .int .i64 ((r7 t).p), .int .i64 ((r9 t).p), .int .i64 (pSecAt t)]) ∧ Scn w' b t (r13 t) ∧ But b w w' := by
 cases hw : hasW t with
 | true => cases hs : hasS t with
  | true => exact read_tt b t w h hl hw hs
  | false => exact read_tf b t w h hl hw hs
 | false => cases hs : hasS t with
  | true => exact read_ft b t w h hl hw hs
  | false => exact read_ff b t w h hl hw hs
end Go.Proofs.YtlchcjnbbhpiaaaGreatDoor.Dt
