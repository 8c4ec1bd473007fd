/- The iterator of a set: its contract for every loop body that keeps the iterator's blocks. -/
import Derived.RangeFuncNested
import Derived.RangeFuncBound
import Derived.RangeFuncCalls
import Derived.RangeFuncLeaves
import Derived.RangeFuncWrites
import Derived.Shelf.Abstract
import Derived.Shelf.RegionOpen
import Derived.WalkKit
import Derived.OwnWalkIn
import Derived.TacticsInMore
import Derived.LoopNIn
import Derived.LoopIn
import Derived.Test.YtcpennlojjlpaaaGreatDoorZb
import Derived.Test.YtcpennlojjlpaaaGreatDoorZd
namespace Go.Nr
theorem nums_append (a b : List Rg) : nums (a ++ b) = nums a ++ nums b := by simp [nums]
theorem nums_split {S : List Rg} {k : Nat} {r : Rg} (h : S[k]? = some r) : nums S = nums (S.take k) ++ (span r ++ nums (S.drop (k + 1))) := by
  have e : S = S.take (k + 1) ++ S.drop (k + 1) := (List.take_append_drop _ _).symm
  have e2 := nums_snoc S k r h
  calc nums S = nums (S.take (k + 1) ++ S.drop (k + 1)) := by rw [← e]
    _ = nums (S.take (k + 1)) ++ nums (S.drop (k + 1)) := nums_append _ _
    _ = _ := by rw [e2, List.append_assoc]
theorem nums_pre {S : List Rg} {k : Nat} {r : Rg} (h : S[k]? = some r) {j : Nat} (hj : j ≤ (span r).length) : ∃ m, m ≤ (nums S).length ∧ nums (S.take k) ++ (span r).take j = (nums S).take m := by
  refine ⟨(nums (S.take k)).length + j, ?_, ?_⟩
  · rw [nums_split h]; simp; omega
  · rw [nums_split h, List.take_append, List.take_of_length_le (l := nums (S.take k)) (Nat.le_add_right _ _), Nat.add_sub_cancel_left, List.take_append_of_le_length hj]
theorem nums_room {S : List Rg} {k : Nat} {r : Rg} (h : S[k]? = some r) {j : Nat} (hj : j < (span r).length) : (nums (S.take k) ++ (span r).take j).length < (nums S).length := by
  rw [nums_split h]; simp; omega
end Go.Nr
namespace Go.Proofs.YtcpennlojjlpaaaGreatDoor
open Go.RowKit Go.Shelf Go.Nr
attribute [local go_sem] Oper.semAt_some

/-- The blocks of cells outside lo..hi are as they were. -/
structure KeepsC (lo hi : Nat) (W W' : World) : Prop where
  size : W.heap.size ≤ W'.heap.size
  same : ∀ b cs T fr, W.heap[b]? = some (.cells cs T fr) → (b < lo ∨ hi ≤ b) → W'.heap[b]? = some (.cells cs T fr)
theorem KeepsC.refl (lo hi : Nat) (W : World) : KeepsC lo hi W W := ⟨Nat.le_refl _, fun _ _ _ _ h _ => h⟩
theorem KeepsC.trans {lo hi : Nat} {A B C : World} (h : KeepsC lo hi A B) (k : KeepsC lo hi B C) : KeepsC lo hi A C :=
  ⟨Nat.le_trans h.size k.size, fun b cs T fr h1 h2 => k.same b cs T fr (h.same b cs T fr h1 h2) h2⟩
theorem KeepsC.cell {lo hi : Nat} {W W' : World} (h : KeepsC lo hi W W') {b o : Nat} {v : Value} (hb : b < lo ∨ hi ≤ b) (hc : W.cell? ⟨b, o, none⟩ = some v) : W'.cell? ⟨b, o, none⟩ = some v := by
  cases hh : W.heap[b]? with
  | none => simp [World.cell?, hh] at hc
  | some ob =>
    cases ob with
    | cells cs T fr =>
      have := h.same b cs T fr hh hb
      simp only [World.cell?, hh, this] at hc ⊢
      exact hc
    | _ => simp [World.cell?, hh] at hc
/-- What the iterator reads. -/
structure SData (lo hi bS : Nat) (A : Option Addr) (c : Nat) (S : List Rg) (W : World) : Prop where
  hS : (bS < lo ∨ hi ≤ bS) ∧ W.cell? ⟨bS, 0, none⟩ = some (.slice A S.length c)
  hR : 0 < S.length → ∃ b o, A = some ⟨b, o, none⟩ ∧ (b < lo ∨ hi ≤ b) ∧ ∀ j r, S[j]? = some r → W.cell? ⟨b, o + j * 2, none⟩ = some (i64 r.1) ∧ W.cell? ⟨b, o + j * 2 + 1, none⟩ = some (i64 r.2)
theorem SData.keeps {lo hi bS : Nat} {A : Option Addr} {c : Nat} {S : List Rg} {W W' : World} (h : SData lo hi bS A c S W) (k : KeepsC lo hi W W') : SData lo hi bS A c S W' where
  hS := ⟨h.hS.1, k.cell h.hS.1 h.hS.2⟩
  hR := fun hp => by
    obtain ⟨b, o, e, h1, h2⟩ := h.hR hp
    exact ⟨b, o, e, h1, fun j r hj => ⟨k.cell h1 (h2 j r hj).1, k.cell h1 (h2 j r hj).2⟩⟩
theorem keepsC_below {lo hi : Nat} {W W' : World} (hb : Below W.heap.size W W') : KeepsC lo hi W W' := ⟨hb.size, fun b _ _ _ h _ => (hb.block b (blk_lt h)).trans h⟩

set_option maxRecDepth 100000 in
set_option maxHeartbeats 2000000 in
theorem all1_in (n : Nat) (hn : 1 ≤ n) (l lo hi bS : Nat) (A : Option Addr) (c : Nat) (S : List Rg) (hz : S.length ≤ 1000000) (hok : ∀ r ∈ S, ok r) (J Jx : List Int → World → Prop) (W : World) (hJ : AbidesFrom W.heap.size J) (hhi : hi ≤ W.heap.size)
    (hY : ∀ pre x W1, J pre W1 → pre.length < (nums S).length → YieldAt Fence.wide (n - 1) Tryz.prog l #[i64 x] W1 fun e W' =>
      (e = .returned (.bool true) ∧ J (pre ++ [x]) W' ∧ KeepsC lo hi W1 W') ∨ (e = .returned (.bool false) ∧ Jx (pre ++ [x]) W'))
    (hW : SData lo hi bS A c S W) (h0 : J [] W) :
    CallsIn Fence.wide n Tryz.prog 74 #[.func (.yield l) #[] #[], .pointer (some ⟨bS, 0, none⟩)] W fun e W' => (∃ v, e = .returned v) ∧
      ((∃ ys, ys = nums S ∧ J ys W') ∨ (∃ pre, (∃ k, k ≤ (nums S).length ∧ pre = (nums S).take k) ∧ Jx pre W')) := by
  have hc0 := hW.hS.2
  have HW := Lib.hid hW; clear hW
  have HOK := Lib.hid hok; clear hok
  have HJ := Lib.hid hJ; clear hJ
  refine callsIn_of_wp Tryz.func74 rfl trivial ?_ rfl
  simp only [Tryz.ntmps74, List.size_toArray, List.length_cons, List.length_nil, Nat.reduceAdd, Nat.reduceSub, Array.replicate_succ, Array.replicate_zero, List.push_toArray, List.append_toArray, List.nil_append, List.cons_append]
  gi_wp2
  clear hc0
  gi_loopw [9] (fun i wr => ∃ k : Nat, k ≤ S.length ∧ i = .int .i64 k ∧ J (nums (S.take k)) wr ∧ Hid (SData lo hi bS A c S wr) ∧ W.heap.size ≤ wr.heap.size)
    (fun i _ => S.length - (intOf i).toNat)
  case atStart => exact ⟨0, Nat.zero_le _, rfl, h0, HW, Nat.le_refl _⟩
  case round =>
    obtain ⟨k, hk, rfl, hJs, HR, hsz⟩ := hrel
    by_cases hlt : k < S.length
    · obtain ⟨b, o, rfl, hb1, hcell⟩ := HR.out.hR (by omega)
      obtain ⟨r, hr⟩ : ∃ r, S[k]? = some r := ⟨_, List.getElem?_eq_getElem hlt⟩
      obtain ⟨hcx, hcy⟩ := hcell k r hr
      have hro := HOK.out r (List.mem_of_getElem? hr)
      have HRr := Lib.hid hr
      obtain ⟨r1, r2⟩ := r
      obtain ⟨z1, z2, z3⟩ := hro
      simp only at hcx hcy z1 z2 z3
      rw [M_eq] at z3
      clear hcell hr
      have hJ2 := HJ.out _ wr (wr.alloc (.cells #[i64 r1, i64 r2] 42)) none hJs (World.grownBy_alloc _ _ _) (fun r e => by cases e)
      have HR2 := Lib.hid (HR.out.keeps (keepsC_below (below_new wr (.cells #[i64 r1, i64 r2] 42))))
      have hn1 := blk_new wr (.cells #[i64 r1, i64 r2] 42)
      have HN1 : Hid ((wr.alloc (.cells #[i64 r1, i64 r2] 42)).cell? ⟨wr.heap.size, 1, none⟩ = some (i64 r2)) := by (show _ = _); rw [blk_cell hn1 1]; rfl
      have hsz2 : wr.heap.size < (wr.alloc (.cells #[i64 r1, i64 r2] 42)).heap.size := by simp
      clear hn1 hJs
      gi_wp2
      gi_loopw [5] (fun i wq => ∃ j : Nat, i = .int .i64 (r1 + (j : Int)) ∧ (j : Int) ≤ r2 - r1 + 1 ∧ J (nums (S.take k) ++ (span (r1, r2)).take j) wq ∧ Hid (SData lo hi bS (some ⟨b, o, none⟩) c S wq) ∧ Hid (wq.cell? ⟨wr.heap.size, 1, none⟩ = some (i64 r2)) ∧ W.heap.size ≤ wq.heap.size)
        (fun i _ => (r2 + 1 - intOf i).toNat)
      case atStart => exact ⟨0, by simp, by omega, by simpa using hJ2, HR2, HN1, Nat.le_trans hsz (Nat.le_of_lt hsz2)⟩
      case round =>
        obtain ⟨j, rfl, hj, hJs, HR3, HN3, hsz3⟩ := hrel
        have hcr := HN3.out
        have hsl : (span (r1, r2)).length = (r2 - r1 + 1).toNat := span_length (r1, r2)
        by_cases hlt2 : r1 + (j : Int) ≤ r2
        · have hroom := nums_room HRr.out (j := j) (by rw [hsl]; omega)
          have hsn := span_snoc (r1, r2) j hlt2
          have hpre := nums_pre HRr.out (j := j + 1) (by rw [hsl]; omega)
          simp only at hsn
          rw [hsn, ← List.append_assoc] at hpre
          have HPRE := Lib.hid hpre
          have HSN := Lib.hid hsn
          obtain ⟨fn, tmps, assign, body, hy, hR⟩ := hY _ (r1 + (j : Int)) _ hJs hroom
          clear hpre hsn hroom hsl
          gi_wp2
          refine hR.mono ?_
          rintro e W3 (⟨rfl, hJ3, hk3⟩ | ⟨rfl, hJx3⟩)
          · gi_wp2
            go_roundw
            case rel => exact ⟨j + 1, by go_num, by omega, by rw [HSN.out, ← List.append_assoc]; exact hJ3, HR3.out.keeps hk3, hk3.cell (by omega) hcr, Nat.le_trans hsz3 hk3.size⟩
            case measure => simp [intOf]; omega
          · gi_wp2
            refine bodyPost_ret (results_none rfl _ _ _) rfl ?_
            exact ⟨⟨_, rfl⟩, .inr ⟨_, HPRE.out, hJx3⟩⟩
        · have hall := span_all (r1, r2) j (by simp; omega)
          rw [hall, ← nums_snoc S k (r1, r2) HRr.out] at hJs
          clear hall hsl
          gi_wp2
          go_roundw
          case rel => exact ⟨k + 1, by omega, by go_num, hJs, HR3, hsz3⟩
          case measure => simp [intOf]; omega
    · obtain rfl : k = S.length := by omega
      rw [List.take_length] at hJs
      gi_wp2
      go_end0
      exact ⟨⟨_, rfl⟩, .inl ⟨_, rfl, hJs⟩⟩
/-- **The iterator's contract.** -/
theorem all1_stops (n : Nat) (hn : 1 ≤ n) (lo hi bS : Nat) (A : Option Addr) (c : Nat) (S : List Rg) (hz : S.length ≤ 1000000) (hok : ∀ r ∈ S, ok r) (w : World) (hW : SData lo hi bS A c S w) (hhi : hi ≤ w.heap.size) :
    SeqStopsK Fence.wide n Tryz.prog 74 #[.pointer (some ⟨bS, 0, none⟩)] (fun x : Int => #[i64 x]) (KeepsC lo hi)
      (fun ys => ys = nums S) (fun pre => ∃ k, k ≤ (nums S).length ∧ pre = (nums S).take k) (nums S).length w := by
  intro l J Jx W hBW hJ _ hY h0
  exact all1_in n hn l lo hi bS A c S hz hok J Jx W hJ (Nat.le_trans hhi hBW.size) hY (hW.keeps (keepsC_below hBW)) h0
end Go.Proofs.YtcpennlojjlpaaaGreatDoor
