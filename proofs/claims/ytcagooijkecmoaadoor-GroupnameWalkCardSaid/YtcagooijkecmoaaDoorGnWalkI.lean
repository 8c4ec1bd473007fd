/- The iterator that Walk hands back: its contract for every loop body that keeps its blocks. -/
import Derived.RangeFuncNested
import Derived.RangeFuncBound
import Derived.RangeFuncCalls
import Derived.RangeFuncLeaves
import Derived.Shelf.Abstract
import Derived.Shelf.RegionOpen
import Derived.WalkKit
import Derived.OwnWalkIn
import Derived.TacticsInMore
import Derived.LoopNIn
import Derived.LoopIn
import Derived.Maps.OwnIn
import Derived.StringKeys
import Derived.Test.YtcagooijkecmoaaDoorGnBase
namespace Go.Proofs.YtcagooijkecmoaaDoor
open Go.RowKit Go.Shelf Go.Maps
attribute [local go_sem] Oper.semAt_some

/-- The blocks from lo to hi are as they were. -/
structure KeepsIn (lo hi : Nat) (W W' : World) : Prop where
  size : W.heap.size ≤ W'.heap.size
  block : ∀ b, lo ≤ b → b < hi → W'.heap[b]? = W.heap[b]?
theorem KeepsIn.refl (lo hi : Nat) (W : World) : KeepsIn lo hi W W := ⟨Nat.le_refl _, fun _ _ _ => rfl⟩
theorem KeepsIn.trans {lo hi : Nat} {A B C : World} (h : KeepsIn lo hi A B) (k : KeepsIn lo hi B C) : KeepsIn lo hi A C :=
  ⟨Nat.le_trans h.size k.size, fun b h1 h2 => (k.block b h1 h2).trans (h.block b h1 h2)⟩
theorem KeepsIn.cell {lo hi : Nat} {W W' : World} (h : KeepsIn lo hi W W') {b o : Nat} (h1 : lo ≤ b) (h2 : b < hi) : W'.cell? ⟨b, o, none⟩ = W.cell? ⟨b, o, none⟩ := by
  have := h.block b h1 h2
  simp [World.cell?, this]
theorem KeepsIn.owns {lo hi : Nat} {W W' : World} (h : KeepsIn lo hi W W') {H : Type} {P : Program} {k : TypeId} {R : Value → Option (DataW H × List MemPlace)} {b n : Nat} {D : DataW H} (h1 : lo ≤ b) (h2 : b < hi) (ho : W.ownsMap P k R b n D) : W'.ownsMap P k R b n D := by
  obtain ⟨es, clock, hb, F, hs, hD⟩ := ho
  exact ⟨es, clock, (h.block b h1 h2).trans hb, F, hs, hD⟩
/-- What the iterator reads: the hierarchies in order, and the map of their numbers. -/
structure WData (lo hi : Nat) (bH bC : Nat) (A : Option Addr) (c bM nn : Nat) (D : DataW Unit) (zs : List (List UInt8)) (W : World) : Prop where
  hH : lo ≤ bH ∧ bH < hi ∧ W.cell? ⟨bH, 0, none⟩ = some (.slice A zs.length c)
  hC : lo ≤ bC ∧ bC < hi ∧ W.cell? ⟨bC, 0, none⟩ = some (.map (some bM))
  hM : lo ≤ bM ∧ bM < hi ∧ W.ownsMap Tryd.prog 9 (plainElem Tryd.prog 3) bM nn D
  hS : 0 < zs.length → ∃ b o, A = some ⟨b, o, none⟩ ∧ lo ≤ b ∧ b < hi ∧ ∀ j x, zs[j]? = some x → W.cell? ⟨b, o + j, none⟩ = some (enS x)
theorem WData.keeps {lo hi bH bC : Nat} {A : Option Addr} {c bM nn : Nat} {D : DataW Unit} {zs : List (List UInt8)} {W W' : World} (h : WData lo hi bH bC A c bM nn D zs W) (k : KeepsIn lo hi W W') : WData lo hi bH bC A c bM nn D zs W' where
  hH := ⟨h.hH.1, h.hH.2.1, (k.cell h.hH.1 h.hH.2.1).trans h.hH.2.2⟩
  hC := ⟨h.hC.1, h.hC.2.1, (k.cell h.hC.1 h.hC.2.1).trans h.hC.2.2⟩
  hM := ⟨h.hM.1, h.hM.2.1, k.owns h.hM.1 h.hM.2.1 h.hM.2.2⟩
  hS := fun hp => by
    obtain ⟨b, o, e, h1, h2, h3⟩ := h.hS hp
    exact ⟨b, o, e, h1, h2, fun j x hj => (k.cell h1 h2).trans (h3 j x hj)⟩
theorem zeroInt (w : World) : (zeroValue 3).run Tryd.prog w = .ok (.int .i64 0) w := by kernel_rfl
/-- What comes: each hierarchy with its number. -/
def items (cnt : List UInt8 → Int) (zs : List (List UInt8)) : List (List UInt8 × Int) := zs.map fun z => (z, cnt z)
theorem items_take_succ (cnt : List UInt8 → Int) (zs : List (List UInt8)) (k : Nat) (x : List UInt8) (h : zs[k]? = some x) : items cnt (zs.take (k + 1)) = items cnt (zs.take k) ++ [(x, cnt x)] := by
  obtain ⟨hl, hx⟩ := List.getElem?_eq_some_iff.1 h
  rw [List.take_succ_eq_append_getElem hl, hx]
  simp [items]

set_option maxRecDepth 100000 in
set_option maxHeartbeats 2000000 in
theorem walk1_in (n : Nat) (hn : 1 ≤ n) (l lo hi bH bC : Nat) (A : Option Addr) (c bM nn : Nat) (D : DataW Unit) (zs : List (List UInt8)) (cnt : List UInt8 → Int) (hz : zs.length ≤ 1000000) (hl : ∀ z ∈ zs, z.length ≤ 1000000)
    (hat : ∀ z ∈ zs, D.atKey (.string z) (.lit (.int .i64 0)) = .lit (.int .i64 (cnt z))) (J Jx : List (List UInt8 × Int) → World → Prop)
    (hY : ∀ pre x W, J pre W → pre.length < zs.length → YieldAt Fence.wide (n - 1) Tryd.prog l #[enS x.1, .int .i64 x.2] W fun e W' =>
      (e = .returned (.bool true) ∧ J (pre ++ [x]) W' ∧ KeepsIn lo hi W W') ∨ (e = .returned (.bool false) ∧ Jx (pre ++ [x]) W'))
    (W : World) (hW : WData lo hi bH bC A c bM nn D zs W) (h0 : J [] W) :
    CallsIn Fence.wide n Tryd.prog 52 #[.func (.yield l) #[] #[], .pointer (some ⟨bH, 0, none⟩), .pointer (some ⟨bC, 0, none⟩)] W fun e W' => (∃ v, e = .returned v) ∧
      ((∃ ys, ys = items cnt zs ∧ J ys W') ∨ (∃ pre, (∃ k, k ≤ zs.length ∧ pre = items cnt (zs.take k)) ∧ Jx pre W')) := by
  have hc0 := hW.hH.2.2
  have HW := Lib.hid hW; clear hW
  have HAT := Lib.hid hat; clear hat
  have HL := Lib.hid hl; clear hl
  refine callsIn_of_wp Tryd.func52 rfl trivial ?_ rfl
  simp only [Tryd.ntmps52, List.size_toArray, List.length_cons, List.length_nil, Nat.reduceAdd, Nat.reduceSub, Array.replicate_succ, Array.replicate_zero, List.push_toArray, List.append_toArray, List.nil_append, List.cons_append]
  gi_wp2
  clear hc0
  gi_loopw [8] (fun i wr => ∃ k : Nat, k ≤ zs.length ∧ i = .int .i64 k ∧ J (items cnt (zs.take k)) wr ∧ Hid (WData lo hi bH bC A c bM nn D zs wr))
    (fun i _ => zs.length - (intOf i).toNat)
  case atStart => exact ⟨0, Nat.zero_le _, rfl, h0, HW⟩
  case round =>
    obtain ⟨k, hk, rfl, hJs, HR⟩ := hrel
    by_cases hlt : k < zs.length
    · obtain ⟨b, o, rfl, hb1, hb2, hcell⟩ := HR.out.hS (by omega)
      obtain ⟨x, hx⟩ : ∃ x, zs[k]? = some x := ⟨_, List.getElem?_eq_getElem hlt⟩
      have hcx := hcell k x hx
      have hxl := HL.out x (List.mem_of_getElem? hx)
      obtain ⟨cx, hrun, hatx, _⟩ := HR.out.hM.2.2.lookup_int (string_keyed Tryd.underlying9) Tryd.underlying41 Tryd.underlying3 (zeroInt _) (Go.WideMaps.keyOf_string_mk (s := ⟨x.toArray⟩) Tryd.underlying9 (show x.toArray.size ≤ maxLen by simp [maxLen]; omega))
      have hcx2 : cx = cnt x := by
        have h1 := HAT.out x (List.mem_of_getElem? hx)
        have h2 : D.atKey (.string x) (.lit (.int .i64 0)) = .lit (.int .i64 cx) := hatx
        rw [h1] at h2
        cases h2; rfl
      subst hcx2
      have hsn : Hid (items cnt (zs.take (k + 1)) = items cnt (zs.take k) ++ [(x, cnt x)]) := items_take_succ cnt zs k x hx
      obtain ⟨fn, tmps, assign, body, hy, hR⟩ := hY _ (x, cnt x) wr hJs (by simp [items]; omega)
      dsimp only at hy
      have hC2 := HR.out.hC.2.2
      clear hcell hatx hx
      generalize cnt x = cx at *
      gi_wp2
      refine hR.mono ?_
      rintro e W3 (⟨rfl, hJ3, hk3⟩ | ⟨rfl, hJx3⟩)
      · gi_wp2
        go_roundw
        case rel => exact ⟨k + 1, by omega, by simp, by rw [hsn.out]; exact hJ3, HR.out.keeps hk3⟩
        case measure => simp [intOf]; omega
      · gi_wp2
        refine bodyPost_ret (results_none rfl _ _ _) rfl ?_
        exact ⟨⟨_, rfl⟩, .inr ⟨_, ⟨k + 1, by omega, hsn.out.symm⟩, hJx3⟩⟩
    · obtain rfl : k = zs.length := by omega
      rw [List.take_length] at hJs
      gi_wp2
      go_end0
      exact ⟨⟨_, rfl⟩, .inl ⟨_, rfl, hJs⟩⟩
/-- **The iterator's contract.** -/
theorem walk1_stops (n : Nat) (hn : 1 ≤ n) (lo hi bH bC : Nat) (A : Option Addr) (c bM nn : Nat) (D : DataW Unit) (zs : List (List UInt8)) (cnt : List UInt8 → Int) (hz : zs.length ≤ 1000000) (hl : ∀ z ∈ zs, z.length ≤ 1000000)
    (hat : ∀ z ∈ zs, D.atKey (.string z) (.lit (.int .i64 0)) = .lit (.int .i64 (cnt z))) (w : World) (hW : WData lo hi bH bC A c bM nn D zs w) (hhi : hi ≤ w.heap.size) :
    SeqStopsK Fence.wide n Tryd.prog 52 #[.pointer (some ⟨bH, 0, none⟩), .pointer (some ⟨bC, 0, none⟩)] (fun x : List UInt8 × Int => #[enS x.1, .int .i64 x.2]) (KeepsIn lo hi)
      (fun ys => ys = items cnt zs) (fun pre => ∃ k, k ≤ zs.length ∧ pre = items cnt (zs.take k)) zs.length w := by
  intro l J Jx W hBW _ _ hY h0
  exact walk1_in n hn l lo hi bH bC A c bM nn D zs cnt hz hl hat J Jx hY W (hW.keeps ⟨hBW.size, fun b _ h2 => hBW.block b (by omega)⟩) h0
end Go.Proofs.YtcagooijkecmoaaDoor
