/- The walk of the statement NewsrcAll. -/
import Derived.Test.YtcpennlojjlpaaaGreatDoorNyM
import Derived.Test.YtcpennlojjlpaaaGreatDoorZh
import Derived.Test.YtcpennlojjlpaaaGreatDoorZg
namespace Go.Nr
theorem upto_take {S : List Rg} {i : Nat} {r : Rg} (h : S[i]? = some r) (b : Int) : upto (S.take (i + 1)) b = upto (S.take i) b + if r.1 ≤ b then min r.2 b - r.1 + 1 else 0 := by
  obtain ⟨hl, hx⟩ := List.getElem?_eq_some_iff.1 h
  rw [List.take_succ_eq_append_getElem hl, hx, upto_snoc]
/-- The last number that came. -/
def lastI (pre : List Int) : Int := pre.getLast?.getD 0
theorem lastI_snoc (pre : List Int) (x : Int) : lastI (pre ++ [x]) = x := by simp [lastI]
theorem good_next {S : List Rg} (hS : Okset S) {pre : List Int} {x : Int} (h : ∃ k, k ≤ (nums S).length ∧ pre ++ [x] = (nums S).take k) : lastI pre < x ∧ has S x = true := by
  obtain ⟨k, hk, e⟩ := h
  have hl := congrArg List.length e
  simp at hl
  have hx : (nums S)[pre.length]? = some x := by
    have h1 : (pre ++ [x])[pre.length]? = some x := by simp
    rw [e, List.getElem?_take] at h1
    split at h1
    · exact h1
    · cases h1
  refine ⟨?_, nums_has hx⟩
  rcases List.eq_nil_or_concat pre with rfl | ⟨p, z, rfl⟩
  · have hm : mem S x := (mem_nums S x).1 (List.mem_of_getElem? hx)
    have := (hS.rng (nums_has hx)).1
    simp [lastI]; omega
  · rw [List.concat_eq_append] at e hx ⊢
    rw [lastI_snoc]
    have hz : (nums S)[p.length]? = some z := by
      have h1 : (p ++ [z] ++ [x])[p.length]? = some z := by simp
      rw [e, List.getElem?_take] at h1
      split at h1
      · exact h1
      · cases h1
    exact nums_lt hS.1 (by simp) hz hx
/-- What the counts of the numbers that came say. -/
theorem pre_upto {S : List Rg} (hS : Okset S) {k : Nat} (hk : k ≤ (nums S).length) : upto S (lastI ((nums S).take k)) = k := by
  rcases Nat.eq_zero_or_pos k with rfl | hp
  · simp [lastI]; exact upto_zero fun r hr => (hS.2 r hr).1
  · have hx : (nums S)[k - 1]? = some (nums S)[k - 1] := List.getElem?_eq_getElem (by omega)
    have e : lastI ((nums S).take k) = (nums S)[k - 1] := by
      unfold lastI
      rw [List.getLast?_take, if_neg (by omega), hx]
      rfl
    rw [e, upto_last hS.1 _ _ hx]; omega
end Go.Nr
namespace Go.Proofs.YtcpennlojjlpaaaGreatDoor
open Go.RowKit Go.Shelf Go.Nr
attribute [local go_sem] Oper.semAt_some

theorem allF_any (X : Option Addr) (c n : Nat) (W : World) : Calls Tryz.prog 19 #[.agg #[.slice X n c]] W fun e w' => e = .returned (.func (.func 74) #[] #[.pointer (some ⟨W.heap.size, 0, none⟩)]) ∧ w' = W.alloc (.cells #[.slice X n c] 26) := by
  go_enter Tryz.func19, Tryz.ntmps19
  go_wp2_with fail
  go_ret
  exact ⟨rfl, rfl⟩
theorem cell_same46 {w w' : World} {b o : Nat} (h : w'.heap[b]? = w.heap[b]?) : w'.cell? ⟨b, o, none⟩ = w.cell? ⟨b, o, none⟩ := by simp [World.cell?, h]
theorem frozen_same46 {w w' : World} {b o : Nat} (h : w'.heap[b]? = w.heap[b]?) : w'.frozen? ⟨b, o, none⟩ = w.frozen? ⟨b, o, none⟩ := by simp [World.frozen?, h]
theorem keepsC_set {lo hi c : Nat} {W : World} {v : Value} (h1 : lo ≤ c) (h2 : c < hi) : KeepsC lo hi W (W.setCell ⟨c, 0, none⟩ v) := ⟨by simp [World.setCell], fun b _ _ _ h hb => (blk_set_ne 0 v (by omega)).trans h⟩
theorem keepsC_put {lo hi : Nat} (W : World) (l : Nat) (o o' : Obj) (ho : W.heap[l]? = some o) (hc : o.isCells = false) : KeepsC lo hi W (W.putObj l o') :=
  ⟨by simp [World.putObj], fun b cs T fr h _ => by
    have hne : b ≠ l := fun e => by rw [e, ho] at h; cases h; simp [Obj.isCells] at hc
    exact (World.putObj_heap_other hne).trans h⟩
theorem at_below46 {W W' : World} {D : Nat} {o : Obj} (hb : Below W.heap.size W W') (h : W.heap[D]? = some o) : W'.heap[D]? = some o := (hb.block D (Array.getElem?_eq_some_iff.1 h).1).trans h
theorem keepsFrom_set46 {B b : Nat} {W : World} {v : Value} (h : b < B) : KeepsFrom B W (W.setCell ⟨b, 0, none⟩ v) := ⟨by simp [World.setCell], fun k o hB hk _ => (blk_set_ne 0 v (by omega)).trans hk⟩
/-- The statement's own variables: b the reference's set, b + 1 the count, then the last number and the most. -/
structure AllV (w : World) (b : Nat) (Y : Option Addr) (y : Nat) (S : List Rg) (n last most : Int) (W : World) : Prop where
  r : W.cell? ⟨w.heap.size, 0, none⟩ = some (.bool false) ∧ W.frozen? ⟨w.heap.size, 0, none⟩ = false
  s : W.cell? ⟨b, 0, none⟩ = some (.slice Y S.length y)
  rd : 0 < S.length → ∃ g o, Y = some ⟨g, o, none⟩ ∧ g < b ∧ ∀ j q, S[j]? = some q → W.cell? ⟨g, o + j * 2, none⟩ = some (i64 q.1) ∧ W.cell? ⟨g, o + j * 2 + 1, none⟩ = some (i64 q.2)
  n : W.cell? ⟨b + 1, 0, none⟩ = some (i64 n) ∧ W.frozen? ⟨b + 1, 0, none⟩ = false
  last : W.cell? ⟨b + 1 + 1, 0, none⟩ = some (i64 last) ∧ W.frozen? ⟨b + 1 + 1, 0, none⟩ = false
  most : W.cell? ⟨b + 1 + 1 + 1, 0, none⟩ = some (i64 most)
  ord : w.heap.size < b ∧ b + 1 + 1 + 1 < W.heap.size
  below : Below w.heap.size w W
section
variable {w : World} {b : Nat} {Y : Option Addr} {y : Nat} {S : List Rg} {n last most : Int} {W W' : World}
theorem AllV.keeps (h : AllV w b Y y S n last most W) (hs : W.heap.size ≤ W'.heap.size) (hk : ∀ c, c ≤ b + 1 + 1 + 1 → W'.heap[c]? = W.heap[c]?) (hb : Below w.heap.size w W') : AllV w b Y y S n last most W' := by
  obtain ⟨o1, o2⟩ := h.ord
  refine ⟨⟨?_, ?_⟩, ?_, ?_, ⟨?_, ?_⟩, ⟨?_, ?_⟩, ?_, ⟨o1, by omega⟩, hb⟩
  · rw [cell_same46 (hk _ (by omega))]; exact h.r.1
  · rw [frozen_same46 (hk _ (by omega))]; exact h.r.2
  · rw [cell_same46 (hk _ (by omega))]; exact h.s
  · intro hp
    obtain ⟨g, o, e, h1, h2⟩ := h.rd hp
    exact ⟨g, o, e, h1, fun j q hj => ⟨by rw [cell_same46 (hk _ (by omega))]; exact (h2 j q hj).1, by rw [cell_same46 (hk _ (by omega))]; exact (h2 j q hj).2⟩⟩
  · rw [cell_same46 (hk _ (by omega))]; exact h.n.1
  · rw [frozen_same46 (hk _ (by omega))]; exact h.n.2
  · rw [cell_same46 (hk _ (by omega))]; exact h.last.1
  · rw [frozen_same46 (hk _ (by omega))]; exact h.last.2
  · rw [cell_same46 (hk _ (by omega))]; exact h.most
theorem AllV.tr (h : AllV w b Y y S n last most W) (hb : Below W.heap.size W W') : AllV w b Y y S n last most W' :=
  h.keeps hb.size (fun c hc => hb.block c (by have := h.ord; omega)) (h.below.tr hb)
theorem AllV.grown {row : Option Nat} (h : AllV w b Y y S n last most W) (hg : W.grownBy W' row) (hr : ∀ r, row = some r → b + 1 + 1 + 1 < r) : AllV w b Y y S n last most W' :=
  h.keeps hg.size (fun c hc => hg.block c (by have := h.ord; omega) (fun e => by have := hr c e.symm; omega)) (h.below.grown hg h.below.size (fun k hk => by have := hr k hk; have := h.ord; omega))
theorem AllV.rdr (h : AllV w b Y y S n last most W) : RdR W Y S := fun hp => by
  obtain ⟨g, o, e, h1, h2⟩ := h.rd hp
  exact ⟨g, o, e, by have := h.ord; omega, h2⟩
theorem AllV.set (h : AllV w b Y y S n last most W) (n' last' : Int) : AllV w b Y y S n' last' most ((W.setCell ⟨b + 1, 0, none⟩ (i64 n')).setCell ⟨b + 1 + 1, 0, none⟩ (i64 last')) := by
  obtain ⟨o1, o2⟩ := h.ord
  have hk : ∀ c, c ≠ b + 1 → c ≠ b + 1 + 1 → ((W.setCell ⟨b + 1, 0, none⟩ (i64 n')).setCell ⟨b + 1 + 1, 0, none⟩ (i64 last')).heap[c]? = W.heap[c]? := fun c h1 h2 => (blk_set_ne 0 _ h2).trans (blk_set_ne 0 _ h1)
  refine ⟨⟨?_, ?_⟩, ?_, ?_, ⟨?_, ?_⟩, ⟨?_, ?_⟩, ?_, ⟨o1, by simpa [World.setCell] using o2⟩, (h.below.setCell (p := ⟨b + 1, 0, none⟩) (by simp; omega) _).setCell (p := ⟨b + 1 + 1, 0, none⟩) (by simp; omega) _⟩
  · rw [cell_same46 (hk _ (by omega) (by omega))]; exact h.r.1
  · rw [frozen_same46 (hk _ (by omega) (by omega))]; exact h.r.2
  · rw [cell_same46 (hk _ (by omega) (by omega))]; exact h.s
  · intro hp
    obtain ⟨g, o, e, h1, h2⟩ := h.rd hp
    exact ⟨g, o, e, h1, fun j q hj => ⟨by rw [cell_same46 (hk _ (by omega) (by omega))]; exact (h2 j q hj).1, by rw [cell_same46 (hk _ (by omega) (by omega))]; exact (h2 j q hj).2⟩⟩
  · rw [cell_same46 (blk_set_ne 0 _ (by omega))]
    exact World.cell?_setCell_same' _ _ _ (by rw [h.n.1]; rfl)
  · rw [World.frozen?_setCell, World.frozen?_setCell]; exact h.n.2
  · exact World.cell?_setCell_same' _ _ _ (by rw [cell_same46 (blk_set_ne 0 _ (by omega)), h.last.1]; rfl)
  · rw [World.frozen?_setCell, World.frozen?_setCell]; exact h.last.2
  · rw [cell_same46 (hk _ (by omega) (by omega))]; exact h.most
def InvA (w : World) (b : Nat) (Y : Option Addr) (y : Nat) (S : List Rg) (most : Int) (B : Nat) (pre : List Int) (W : World) : Prop :=
  AllV w b Y y S pre.length (lastI pre) most W ∧ (pre.length : Int) < most ∧ B ≤ W.heap.size
def ExA (w : World) (b : Nat) (Y : Option Addr) (y : Nat) (S : List Rg) (most : Int) (B : Nat) (cc : Code) (pre : List Int) (W : World) : Prop :=
  (cc = .exit 0 ∧ AllV w b Y y S pre.length (lastI pre) most W ∧ (pre.length : Int) = most ∧ B ≤ W.heap.size) ∨ ¬ ∃ k, k ≤ (nums S).length ∧ pre = (nums S).take k
theorem invA_own {B : Nat} (hB : b + 1 + 1 + 1 < B) : OwnFrom B (InvA w b Y y S most B) := by
  intro s W W' row ⟨h1, h2, h3⟩ hg hr
  exact ⟨h1.grown hg (fun r e => by have := (hr r e).1; omega), h2, Nat.le_trans h3 hg.size⟩
theorem exA_own {B : Nat} (hB : b + 1 + 1 + 1 < B) (cc : Code) : OwnFrom B (ExA w b Y y S most B cc) := by
  intro s W W' row h hg hr
  rcases h with ⟨h0, h1, h2, h3⟩ | h
  · exact .inl ⟨h0, h1.grown hg (fun r e => by have := (hr r e).1; omega), h2, Nat.le_trans h3 hg.size⟩
  · exact .inr h
theorem deferred_put46 {w W : World} {r : Nat} (h : Below w.heap.size w W) (hr : w.heap.size ≤ r) (o : Obj) : Below w.heap.size w (W.putObj r o) :=
  ⟨h.os, h.tape, h.output, by have := h.size; simpa [World.putObj] using this, fun k hk => (World.putObj_heap_other (by omega)).trans (h.block k hk)⟩
/-- The end of the statement: the mark is taken off, and true is handed back. -/
theorem leave1 (h : AllV w b Y y S n last most W) {D : Nat} (hd : W.heap[D]? = some (.deferred (some []))) (hD : w.heap.size < D) {tmps : Array Value} (ht : tmps[4]? = some (.pointer (some ⟨w.heap.size, 0, none⟩))) :
    LeavesInM Fence.wide 10 Tryz.prog Tryz.f3 tmps (fun e w' => e = .returned (.bool true) ∧ Below w.heap.size w w') [{ target := .collected D, args := #[] }] .returning (W.setCell ⟨w.heap.size, 0, none⟩ (.bool true)) := by
  have hd1 : (W.setCell ⟨w.heap.size, 0, none⟩ (.bool true)).heap[D]? = some (.deferred (some [])) := (blk_set_ne 0 _ (by omega)).trans hd
  refine ⟨by simp, .inl ⟨D, _, rfl, run_takeDeferred hd1, ?_⟩⟩
  have hc : ((W.setCell ⟨w.heap.size, 0, none⟩ (.bool true)).putObj D (.deferred none)).cell? ⟨w.heap.size, 0, none⟩ = some (.bool true) := by
    rw [cell_same46 (World.putObj_heap_other (by omega))]
    exact World.cell?_setCell_same' _ _ _ (by rw [h.r.1]; rfl)
  refine ⟨.bool true, ?_, rfl, deferred_put46 (h.below.setCell (by simp) _) (by omega) _⟩
  simp [results, Tryz.results3, go_sem, ht, hc]
def aA (a : Act) (x : Int) : Act := { tmps := (a.tmps.setIfInBounds 37 (i64 x)).setIfInBounds 11 (i64 x), defers := [] }
end
/-- The variables made. -/
theorem allV_made {w u : World} {Y : Option Addr} {y : Nat} {S : List Rg} (t : Int) (hB : Below w.heap.size w u) (hr : u.cell? ⟨w.heap.size, 0, none⟩ = some (.bool false) ∧ u.frozen? ⟨w.heap.size, 0, none⟩ = false) (hrd : RdR u Y S) :
    AllV w u.heap.size Y y S 0 0 t ((((u.alloc (.cells #[.slice Y S.length y] 22)).alloc (.cells #[i64 0] 3)).alloc (.cells #[i64 0] 3)).alloc (.cells #[i64 t] 3)) := by
  have k1 := below_new u (.cells #[.slice Y S.length y] 22)
  have k2 := below_new (u.alloc (.cells #[.slice Y S.length y] 22)) (.cells #[i64 0] 3)
  have k3 := below_new ((u.alloc (.cells #[.slice Y S.length y] 22)).alloc (.cells #[i64 0] 3)) (.cells #[i64 0] 3)
  have k4 := below_new (((u.alloc (.cells #[.slice Y S.length y] 22)).alloc (.cells #[i64 0] 3)).alloc (.cells #[i64 0] 3)) (.cells #[i64 t] 3)
  have n1 := blk_new u (.cells #[.slice Y S.length y] 22)
  have n2 := blk_new (u.alloc (.cells #[.slice Y S.length y] 22)) (.cells #[i64 0] 3)
  have n3 := blk_new ((u.alloc (.cells #[.slice Y S.length y] 22)).alloc (.cells #[i64 0] 3)) (.cells #[i64 0] 3)
  have n4 := blk_new (((u.alloc (.cells #[.slice Y S.length y] 22)).alloc (.cells #[i64 0] 3)).alloc (.cells #[i64 0] 3)) (.cells #[i64 t] 3)
  rw [World.size_alloc] at n2
  rw [World.size_alloc, World.size_alloc] at n3
  rw [World.size_alloc, World.size_alloc, World.size_alloc] at n4
  have kk := ((k1.tr k2).tr k3).tr k4
  have hlt := World.block_lt_of_cell? u _ hr.1
  refine ⟨⟨Below.cellv kk hr.1, by rw [kk.frozen (p := ⟨w.heap.size, 0, none⟩) hlt]; exact hr.2⟩, ?_, ?_, ⟨?_, ?_⟩, ⟨?_, ?_⟩, ?_, ⟨hlt, by simp⟩, hB.tr kk⟩
  · rw [blk_cell (blk_old _ (blk_old _ (blk_old _ n1))) 0]; rfl
  · intro hp
    obtain ⟨g, o, e, h1, h2⟩ := hrd hp
    exact ⟨g, o, e, h1, fun j q hj => ⟨Below.cellv kk (h2 j q hj).1, Below.cellv kk (h2 j q hj).2⟩⟩
  · rw [blk_cell (blk_old _ (blk_old _ n2)) 0]; rfl
  · exact blk_free (blk_old _ (blk_old _ n2)) 0
  · rw [blk_cell (blk_old _ n3) 0]; rfl
  · exact blk_free (blk_old _ n3) 0
  · rw [blk_cell n4 0]; rfl

set_option maxRecDepth 100000 in
set_option maxHeartbeats 8000000 in
theorem newsrcAll_walk (A : Option Addr) (c : Nat) (l : List Rg) (tn : Int) (htn : (Lit.int .u8 tn).wf = true) (w : World) (hr : RdR w A l) (hE : Env w) (hT : Tab w) :
    Calls Tryz.prog 3 #[.slice A l.length c, .int .u8 tn] w fun e w' => e = .returned (.bool true) ∧ Below w.heap.size w w' := by
  have HK := Lib.hid (fun W (h : Below w.heap.size w W) => known_any W (hE.below h) (hT.below h))
  have ht0 : 0 ≤ tn ∧ tn < 256 := by
    have e1 : IntKind.u8.min = 0 := by decide
    have e2 : IntKind.u8.max = 255 := by decide
    simp [Lit.wf, e1, e2] at htn
    omega
  obtain ⟨ht1, ht2⟩ := ht0
  have R0 := Lib.hid hr
  clear htn hr hE hT
  refine callsIn_wide.1 (callsIn_of_wp_marks (n := 10) Tryz.func3 rfl trivial ?_)
  refine wpIn_wide.2 ?_
  simp only [Tryz.ntmps3, List.size_toArray, List.length_cons, List.length_nil, Nat.reduceAdd, Nat.reduceSub, Array.replicate_succ, Array.replicate_zero, List.push_toArray, List.append_toArray, List.nil_append, List.cons_append]
  go_wp2_with fail
  have ra1 := Lib.hid (R0.out.below (below_new w (.cells #[.bool false] 4))); clear R0
  have B1 := Lib.hid (below_new w (.cells #[.bool false] 4))
  have res1 := Lib.hid (blk_new w (.cells #[.bool false] 4))
  refine (HK.out _ (B1.out.tr (by first | exact Below.refl _ _ | exact below_new _ _))).mono ?_; rintro e w2 ⟨rfl, b⟩
  have b' : Below (w.alloc (.cells #[.bool false] 4)).heap.size (w.alloc (.cells #[.bool false] 4)) w2 := Below.tr (by first | exact Below.refl _ _ | exact below_new _ _) b
  clear b
  have ra2 := Lib.hid (ra1.out.below b'); clear ra1
  have res2 := Lib.hid (blk_below b' res1.out); clear res1
  have B2 := Lib.hid (B1.out.tr b'); clear B1
  clear b'
  by_cases h60 : 60 < l.length
  case pos =>
    go_wp2_with fail
    refine (HK.out _ (B2.out.tr (by first | exact Below.refl _ _ | exact below_new _ _))).mono ?_; rintro e w3 ⟨rfl, b⟩
    have b' : Below w2.heap.size w2 w3 := Below.tr (by first | exact Below.refl _ _ | exact below_new _ _) b
    clear b
    have ra3 := Lib.hid (ra2.out.below b'); clear ra2
    have res3 := Lib.hid (blk_below b' res2.out); clear res2
    have B3 := Lib.hid (B2.out.tr b'); clear B2
    clear b'
    have hrr := blk_cell res3.out 0
    have hrf := blk_free res3.out 0
    go_wp2_with fail
    refine ⟨.bool true, ?_, rfl, ?_⟩
    · simp [results, Tryz.results3, go_sem, hrr]
    · exact B3.out.setCell (by simp) _
  case neg =>
    have HO1 := Lib.hid (fun W (h : RdR W A l) => own_any46 A c l W h (by omega))
    have HF := Lib.hid (fun O o W (h : RdR W O l) (h2 : SlR O o l.length) => fromR_any O o l W h h2 (by omega))
    go_wp2_with fail
    refine (HO1.out _ (ra2.out.below (by first | exact Below.refl _ _ | exact below_new _ _))).mono ?_; rintro e w3 ⟨O1, o1, rfl, ho, b⟩
    have b' : Below w2.heap.size w2 w3 := Below.tr (by first | exact Below.refl _ _ | exact below_new _ _) b
    clear b
    have ra3 := Lib.hid (ra2.out.below b'); clear ra2
    have res3 := Lib.hid (blk_below b' res2.out); clear res2
    have B3 := Lib.hid (B2.out.tr b'); clear B2
    clear b'
    have oo3 := Lib.hid ((RdR.of_own ho).1)
    have s_O := Lib.hid (SlR.of_own ho); clear ho
    go_wp2_with fail
    refine (HF.out O1 o1 _ (oo3.out.below (by first | exact Below.refl _ _ | exact below_new _ _)) s_O.out).mono ?_; rintro e w4 ⟨X, x, rfl, hR, hs', ht', b⟩
    have b' : Below w3.heap.size w3 w4 := Below.tr (by first | exact Below.refl _ _ | exact below_new _ _) b
    clear b
    have ra4 := Lib.hid (ra3.out.below b'); clear ra3
    have oo4 := Lib.hid (oo3.out.below b'); clear oo3
    have res4 := Lib.hid (blk_below b' res3.out); clear res3
    have B4 := Lib.hid (B3.out.tr b'); clear B3
    clear b'
    have rx4 := Lib.hid hR; clear hR
    have s_X := Lib.hid hs'; have HTY := Lib.hid ht'; clear hs' ht'
    by_cases hall : l.all okB = true
    case neg =>
      have e1 : fromE l = 2 := by unfold fromE; rw [if_neg hall]
      have e2 : fromS l = [] := by unfold fromS; rw [if_neg hall]
      rw [e1, e2]
      have q1 : (((2 : Nat) : Int) != 0) = true := by decide
      rw [e2] at *
      have r5 := blk_below (below_new w4 (.cells #[.slice X 0 x] 26)) res4.out
      have hrr := blk_cell r5 0
      have hrf := blk_free r5 0
      have B5 := Lib.hid (B4.out.tr (below_new w4 (.cells #[.slice X 0 x] 26)))
      go_wp2_with fail
      refine ⟨.bool true, ?_, rfl, ?_⟩
      · simp [results, Tryz.results3, go_sem, hrr]
      · exact B5.out.setCell (by simp) _
    case pos =>
      have e1 : fromE l = 0 := by unfold fromE; rw [if_pos hall]
      have e2 : fromS l = norm l := by unfold fromS; rw [if_pos hall]
      have hS := fromS_ok l
      have hSl := fromS_length l
      rw [e1] at *
      have q1 : (((0 : Nat) : Int) != 0) = false := by decide
      have HN := Lib.hid (fun W (h : RdR W A l) => refNormal_any A c l W h (by omega) fun r hr => by
        obtain ⟨z1, z2, z3⟩ := (okB_iff r).1 (List.all_eq_true.1 hall r hr)
        rw [M_eq] at *
        omega)
      rw [← e2] at HN
      clear e2 e1 hall HF
      generalize fromS l = S at *
      have HS := Lib.hid hS
      have HSL := Lib.hid hSl
      clear hS hSl
      go_wp2_with fail
      have ra5 := Lib.hid (ra4.out.below (below_new w4 (.cells #[.slice X S.length x] 26))); clear ra4
      have oo5 := Lib.hid (oo4.out.below (below_new w4 (.cells #[.slice X S.length x] 26))); clear oo4
      have rx5 := Lib.hid (rx4.out.below (below_new w4 (.cells #[.slice X S.length x] 26))); clear rx4
      have res5 := Lib.hid (blk_below (below_new w4 (.cells #[.slice X S.length x] 26)) res4.out); clear res4
      have B5 := Lib.hid (B4.out.tr (below_new w4 (.cells #[.slice X S.length x] 26))); clear B4
      have bs5 := Lib.hid (blk_new w4 (.cells #[.slice X S.length x] 26))
      refine (HN.out _ (ra5.out.below (by first | exact Below.refl _ _ | exact below_new _ _))).mono ?_; rintro e w6 ⟨Y, y, rfl, ho, b⟩
      have b' : Below (w4.alloc (.cells #[.slice X S.length x] 26)).heap.size (w4.alloc (.cells #[.slice X S.length x] 26)) w6 := Below.tr (by first | exact Below.refl _ _ | exact below_new _ _) b
      clear b
      have ra6 := Lib.hid (ra5.out.below b'); clear ra5
      have oo6 := Lib.hid (oo5.out.below b'); clear oo5
      have rx6 := Lib.hid (rx5.out.below b'); clear rx5
      have res6 := Lib.hid (blk_below b' res5.out); clear res5
      have bs6 := Lib.hid (blk_below b' bs5.out); clear bs5
      have B6 := Lib.hid (B5.out.tr b'); clear B5
      clear b'
      have ry6 := Lib.hid ((RdR.of_own ho).1)
      clear ho
      have HA := Lib.hid (allV_made (y := y) (1 + tn) B6.out ⟨blk_cell res6.out 0, blk_free res6.out 0⟩ ry6.out)
      have k4 : Below w6.heap.size w6 ((((w6.alloc (.cells #[.slice Y S.length y] 22)).alloc (.cells #[i64 0] 3)).alloc (.cells #[i64 0] 3)).alloc (.cells #[i64 (1 + tn)] 3)) := (((below_new _ _).tr (below_new _ _)).tr (below_new _ _)).tr (below_new _ _)
      have hbs := blk_cell (blk_below k4 bs6.out) 0
      have HX := Lib.hid rx6.out
      obtain ⟨u7, hu7⟩ : ∃ q, ((((w6.alloc (.cells #[.slice Y S.length y] 22)).alloc (.cells #[i64 0] 3)).alloc (.cells #[i64 0] 3)).alloc (.cells #[i64 (1 + tn)] 3)) = q := ⟨_, rfl⟩
      have K4 := Lib.hid k4
      clear k4
      rw [hu7] at HA K4
      have HU := Lib.hid hu7
      clear hu7
      go_wp2_with fail
      clear hbs
      rw [HU.out]
      have hx7 := HX.out
      clear HX rx6 ry6 bs6 res6 oo6 ra6 HN HO1 HK HTY s_O s_X HU
      refine (allF_any X x S.length u7).mono ?_; rintro e u8 ⟨rfl, rfl⟩
      have hbx := blk_new u7 (.cells #[.slice X S.length x] 26)
      have hA8 := HA.out.tr (below_new u7 (.cells #[.slice X S.length x] 26))
      have k8 : Below w6.heap.size w6 (u7.alloc (.cells #[.slice X S.length x] 26)) := K4.out.tr (below_new _ _)
      have hs7 := HA.out.ord
      have hs8 : (u7.alloc (.cells #[.slice X S.length x] 26)).heap.size = u7.heap.size + 1 := World.size_alloc _ _
      have hsd : SData (w6.heap.size + 1) (w6.heap.size + 1 + 1 + 1) u7.heap.size X x S (u7.alloc (.cells #[.slice X S.length x] 26)) := ⟨⟨.inr (by omega), by rw [blk_cell hbx 0]; rfl⟩, fun hp => by
        obtain ⟨g, o, e, h1, h2⟩ := hx7 hp
        exact ⟨g, o, e, .inl (by omega), fun j q hj => ⟨Below.cellv k8 (h2 j q hj).1, Below.cellv k8 (h2 j q hj).2⟩⟩⟩
      have HSD := Lib.hid hsd
      have HA8 := Lib.hid hA8
      have HS8 := Lib.hid hs8
      clear hsd hA8 hs8 hbx k8 hx7 K4
      go_wp2_with fail
      generalize hu8 : (u7.alloc (.cells #[.slice X S.length x] 26)) = u8 at *
      have hs8 := HS8.out
      clear HS8 hu8
      generalize hbb : w6.heap.size = b at *
      refine (wpIn_wide (n := 10)).1 ?_
      generalize ha : Act.mk _ _ = a
      refine wpIn_rangeFunc_ownG rfl (by omega) (gf := 74) (lb := #[.pointer (some ⟨u7.heap.size, 0, none⟩)]) (by rw [← ha]; rfl) trivial (enters_of Tryz.func74 (by kernel_rfl) rfl)
        (all1_stops 9 (by omega) (b + 1) (b + 1 + 1 + 1) u7.heap.size X x S (by have := HSL.out; omega) HS.out.2 u8 HSD.out (by omega))
        (fun h k => h.trans k) (fun W l o o' hl ho hc _ => keepsC_put W l o o' ho hc) (Below.refl _ _) (fun _ => rfl)
        (InvA w b Y y S (1 + tn) u8.heap.size) (ExA w b Y y S (1 + tn) u8.heap.size) (invA_own (by omega)) (exA_own (by omega)) ⟨by simpa [lastI] using HA8.out, by simp; omega, Nat.le_refl _⟩ (aA a) ?assign ?body ?done ?stop
      case assign =>
        intro l x W K hK
        subst ha
        unfold aA at hK
        simp only [List.setIfInBounds_toArray, List.set_cons_succ, List.set_cons_zero] at hK
        gi_wp2
        exact hK
      case body =>
        rintro l' pre z W ⟨hV, hlt, hBs⟩ hlt2
        subst ha
        unfold aA
        have hsl := HSL.out
        have HV := Lib.hid hV
        have hct := HV.out.n.1
        have hcl := HV.out.last.1
        have hcs := HV.out.s
        have hord := HV.out.ord
        have hfn := HV.out.n.2
        have hfl := HV.out.last.2
        by_cases hle : z ≤ lastI pre
        · have hq2 : decide (z ≤ lastI pre) = true := by simpa using hle
          have hcr := HV.out.r.1
          have hfr := HV.out.r.2
          have hbad : ¬ ∃ k, k ≤ (nums S).length ∧ pre ++ [z] = (nums S).take k := fun h => by have := (good_next HS.out h).1; omega
          clear hV
          gi_wp2
          refine ⟨trivial, ?_⟩
          gi_wp2
          exact ⟨keepsFrom_set46 (by omega), .inr hbad⟩
        · have hq2 : decide (z ≤ lastI pre) = false := by simpa using hle
          clear hV
          gi_wp2
          refine ⟨trivial, ((callsIn_wide.2 (refHas_any Y y S z W HV.out.rdr (by omega))).inRound l').mono ?_⟩
          rintro e W2 ⟨rfl, rfl⟩
          cases hz : has S z with
          | false =>
            have hcr := HV.out.r.1
            have hfr := HV.out.r.2
            have hbad : ¬ ∃ k, k ≤ (nums S).length ∧ pre ++ [z] = (nums S).take k := fun h => by have := (good_next HS.out h).2; rw [hz] at this; cases this
            gi_wp2
            exact ⟨keepsFrom_set46 (by omega), .inr hbad⟩
          | true =>
            have hset := HV.out.set (pre.length + 1) z
            have e1 : ((pre ++ [z]).length : Int) = (pre.length : Int) + 1 := by simp
            have e3 : lastI (pre ++ [z]) = z := lastI_snoc pre z
            have hcm := HV.out.most
            have E1 := Lib.hid e1
            have E3 := Lib.hid e3
            have HSET := Lib.hid hset
            clear e1 e3 hset
            have hkf : ∀ v1 v2, KeepsFrom u8.heap.size W ((W.setCell ⟨b + 1, 0, none⟩ v1).setCell ⟨b + 1 + 1, 0, none⟩ v2) := fun v1 v2 => (keepsFrom_set46 (by omega)).trans (keepsFrom_set46 (by omega))
            have HKF := Lib.hid hkf
            clear hkf
            by_cases hm : (pre.length : Int) + 1 = 1 + tn
            · have hq3 : ((pre.length : Int) + 1 == 1 + tn) = true := by simpa using hm
              have HM := Lib.hid hm
              clear hm
              gi_wp2
              refine ⟨HKF.out _ _, .inl ⟨rfl, ?_, ?_, by simpa [World.setCell] using hBs⟩⟩
              · rw [E1.out, E3.out]; exact HSET.out
              · rw [E1.out]; exact HM.out
            · have hq3 : ((pre.length : Int) + 1 == 1 + tn) = false := by simpa using hm
              gi_wp2
              refine ⟨HKF.out _ _, (keepsC_set (by omega) (by omega)).trans (keepsC_set (by omega) (by omega)), ?_, ?_, by simpa [World.setCell] using hBs⟩
              · rw [E1.out, E3.out]; exact HSET.out
              · rw [E1.out]; omega
      case done =>
        intro D ys W hD hS1 hI1 hdef
        subst hS1
        subst ha
        obtain ⟨hV, hlt, hB⟩ := hI1
        have hcnt := nums_length fun r hr => (HS.out.2 r hr).2.1
        have hup := pre_upto HS.out (Nat.le_refl (nums S).length)
        rw [List.take_length] at hup
        obtain ⟨N, hN⟩ : ∃ q : Int, ((nums S).length : Int) = q := ⟨_, rfl⟩
        rw [hN] at hV hlt hcnt hup
        have hN0 : 0 ≤ N := by omega
        clear hN
        have hmin : min (1 + tn) (count S) = N := by omega
        have hmin2 : min (count S) (1 + tn) = N := by omega
        generalize lastI (nums S) = L at *
        have HV := Lib.hid hV
        have HDEF := Lib.hid hdef
        have hsl := HSL.out
        have hcr60 : 0 ≤ count S ∧ count S ≤ 65970697666560 := by have := count_rng S HS.out.2; omega
        clear hV hdef hsl hcnt
        go_wp2_with fail
        refine Flow.wp_region_segs Flow.Later Flow.Later.refl Flow.Later.trans [([0, 1, 2], 3)] [4, 5] (by kernel_rfl) (by kernel_rfl) ?_
        have OD := Lib.hid (HV.out.tr (Below.refl _ _).drew)
        have DD := Lib.hid (at_below46 (Below.refl _ _).drew HDEF.out)
        clear HV HDEF
        generalize hwd : World.drew _ = wd at *
        clear hwd
        have z1 := Flow.cls_cell OD.out.n.1
        have z2 := Flow.cls_cell OD.out.most
        have z3 := Flow.cls_cell OD.out.s
        haveI nonE := Flow.cls_nonempty wd
        rw [Flow.wpSegs_cons]
        simp only [Flow.pick, List.getElem?_toArray, List.getElem?_cons_succ, List.getElem?_cons_zero]
        repeat go_big_quiet_step (fail)
        refine wpQuiet_nil ?_
        clear nonE z1 z2 z3
        rw [Flow.callAt_eq]
        simp only [List.getElem?_toArray, List.getElem?_cons_succ, List.getElem?_cons_zero]
        rw [if_pos (by rfl)]
        refine Flow.wp_behind (fun K hK => ?_)
        go_wp2_with fail
        refine (refCount_any Y y S wd OD.out.rdr HS.out.2 (by have := HSL.out; omega)).mono ?_; rintro e v2 ⟨rfl, b2⟩
        refine hK.out _ _ ⟨b2, ?_⟩
        clear hK K
        have OE := Lib.hid (OD.out.tr b2)
        have DE := Lib.hid (at_below46 b2 DD.out)
        clear OD DD b2
        haveI nonE := Flow.cls_nonempty v2
        rw [Flow.wpSegs_nil]
        simp only [Flow.pick, List.getElem?_toArray, List.getElem?_cons_succ, List.getElem?_cons_zero]
        repeat go_big_quiet_step (fail)
        refine wpQuiet_nil ?_
        clear nonE
        go_wp2_with fail
        clear hmin hmin2
        go_loopg [12, 13] S.length (fun gg tv iv wr => ∃ i : Nat, i ≤ S.length ∧ S.length - i ≤ gg ∧ iv = .int .i64 i ∧ tv = .int .i64 (upto (S.take i) L) ∧ Hid (AllV w b Y y S N L (1 + tn) wr) ∧ Hid (wr.heap[D]? = some (.deferred (some []))))
        case atStart => exact ⟨0, by omega, by omega, rfl, by simp [upto_nil], OE, DE⟩
        case round =>
          obtain ⟨i, hi, hgi, rfl, rfl, O, DF⟩ := hrel
          have hcs := O.out.s
          have hcl := O.out.last.1
          by_cases hlti : i < S.length
          · obtain ⟨g, o, q, rfl, _, hq, hc1, hc2⟩ := O.out.rdr.at_ hlti
            obtain ⟨x1, x2⟩ := q
            have hut := upto_take hq L
            obtain ⟨ho1, ho2, ho3⟩ := HS.out.2 _ (List.mem_of_getElem? hq)
            have hur := upto_rng (l := S.take i) (fun r hr => (HS.out.2 r (List.mem_of_mem_take hr)).2.1) L
            have hcr := count_rng (S.take i) fun r hr => HS.out.2 r (List.mem_of_mem_take hr)
            have htl : (S.take i).length ≤ i := List.length_take_le _ _
            have hsl := HSL.out
            rw [M_eq] at ho3
            simp only at hc1 hc2 hut ho1 ho2 ho3
            have HUT := Lib.hid hut
            clear hut hq
            have hup2 : 0 ≤ upto (S.take i) L ∧ upto (S.take i) L ≤ 65970697666560 := by omega
            obtain ⟨hup3, hup4⟩ := hup2
            clear hur hcr htl
            generalize upto (S.take i) L = ui at *
            have hib : (0 : Int) ≤ (i : Int) := by omega
            have hib2 : (i : Int) < (S.length : Int) := by omega
            by_cases hle : x1 ≤ L
            · rw [if_pos hle] at HUT
              have hq2 : decide (x1 ≤ L) = true := by simpa using hle
              obtain ⟨mn, hmn⟩ : ∃ q, min x2 L = q := ⟨_, rfl⟩
              have hmn2 : 0 ≤ mn ∧ mn ≤ 1099511627776 := by omega
              rw [hmn] at HUT
              obtain ⟨hmn3, hmn4⟩ := hmn2
              have hib3 : (i : Int) < 60 := by omega
              clear hsl
              go_wp2_with fail
              go_quiet (fail)
              go_wp2_with fail
              go_quiet (fail)
              go_wp2_with fail
              go_roundg (S.length - (i + 1))
              case measure => omega
              case rel => exact ⟨i + 1, by omega, by omega, by go_num, by rw [HUT.out]; go_num, Lib.hid (O.out.tr ((Below.refl _ _).drewN _)), Lib.hid (at_below46 ((Below.refl _ _).drewN _) DF.out)⟩
            · rw [if_neg hle] at HUT
              have hq2 : decide (x1 ≤ L) = false := by simpa using hle
              have hib3 : (i : Int) < 60 := by omega
              clear hsl
              go_wp2_with fail
              go_quiet (fail)
              go_wp2_with fail
              go_roundg (S.length - (i + 1))
              case measure => omega
              case rel => exact ⟨i + 1, by omega, by omega, by go_num, by rw [HUT.out]; go_num, Lib.hid (O.out.tr ((Below.refl _ _).drewN _)), Lib.hid (at_below46 ((Below.refl _ _).drewN _) DF.out)⟩
          · obtain rfl : i = S.length := by omega
            rw [List.take_length, hup]
            have hcn := O.out.n.1
            have hcr := O.out.r.1
            have hfr := O.out.r.2
            go_wp2_with fail
            exact leave1 O.out DF.out (by omega) rfl
      case stop =>
        rintro D cc pre W hD hSp hE1 hdef
        subst ha
        obtain ⟨hcc, hV, hlt, hB⟩ := hE1.resolve_right (fun h => h hSp)
        subst hcc
        obtain ⟨k, hk, rfl⟩ := hSp
        have hcnt := nums_length fun r hr => (HS.out.2 r hr).2.1
        have hup := pre_upto HS.out hk
        have hlk : ((nums S).take k).length = k := by simp; omega
        rw [hlk] at hV hlt
        obtain ⟨N, hN⟩ : ∃ q : Int, (k : Int) = q := ⟨_, rfl⟩
        have hmin : min (1 + tn) (count S) = N := by omega
        have hmin2 : min (count S) (1 + tn) = N := by omega
        rw [hN] at hV hlt hup
        have hN0 : 0 ≤ N := by omega
        clear hN
        generalize lastI ((nums S).take k) = L at *
        have HV := Lib.hid hV
        have HDEF := Lib.hid hdef
        have hsl := HSL.out
        have hcr60 : 0 ≤ count S ∧ count S ≤ 65970697666560 := by have := count_rng S HS.out.2; omega
        clear hV hdef hsl hcnt hlk hE1
        gi_wp2_with fail
        go_wp2_with fail
        refine Flow.wp_region_segs Flow.Later Flow.Later.refl Flow.Later.trans [([0, 1, 2], 3)] [4, 5] (by kernel_rfl) (by kernel_rfl) ?_
        have OD := Lib.hid (HV.out.tr (Below.refl _ _).drew)
        have DD := Lib.hid (at_below46 (Below.refl _ _).drew HDEF.out)
        clear HV HDEF
        generalize hwd : World.drew _ = wd at *
        clear hwd
        have z1 := Flow.cls_cell OD.out.n.1
        have z2 := Flow.cls_cell OD.out.most
        have z3 := Flow.cls_cell OD.out.s
        haveI nonE := Flow.cls_nonempty wd
        rw [Flow.wpSegs_cons]
        simp only [Flow.pick, List.getElem?_toArray, List.getElem?_cons_succ, List.getElem?_cons_zero]
        repeat go_big_quiet_step (fail)
        refine wpQuiet_nil ?_
        clear nonE z1 z2 z3
        rw [Flow.callAt_eq]
        simp only [List.getElem?_toArray, List.getElem?_cons_succ, List.getElem?_cons_zero]
        rw [if_pos (by rfl)]
        refine Flow.wp_behind (fun K hK => ?_)
        go_wp2_with fail
        refine (refCount_any Y y S wd OD.out.rdr HS.out.2 (by have := HSL.out; omega)).mono ?_; rintro e v2 ⟨rfl, b2⟩
        refine hK.out _ _ ⟨b2, ?_⟩
        clear hK K
        have OE := Lib.hid (OD.out.tr b2)
        have DE := Lib.hid (at_below46 b2 DD.out)
        clear OD DD b2
        haveI nonE := Flow.cls_nonempty v2
        rw [Flow.wpSegs_nil]
        simp only [Flow.pick, List.getElem?_toArray, List.getElem?_cons_succ, List.getElem?_cons_zero]
        repeat go_big_quiet_step (fail)
        refine wpQuiet_nil ?_
        clear nonE
        go_wp2_with fail
        clear hmin hmin2
        go_loopg [12, 13] S.length (fun gg tv iv wr => ∃ i : Nat, i ≤ S.length ∧ S.length - i ≤ gg ∧ iv = .int .i64 i ∧ tv = .int .i64 (upto (S.take i) L) ∧ Hid (AllV w b Y y S N L (1 + tn) wr) ∧ Hid (wr.heap[D]? = some (.deferred (some []))))
        case atStart => exact ⟨0, by omega, by omega, rfl, by simp [upto_nil], OE, DE⟩
        case round =>
          obtain ⟨i, hi, hgi, rfl, rfl, O, DF⟩ := hrel
          have hcs := O.out.s
          have hcl := O.out.last.1
          by_cases hlti : i < S.length
          · obtain ⟨g, o, q, rfl, _, hq, hc1, hc2⟩ := O.out.rdr.at_ hlti
            obtain ⟨x1, x2⟩ := q
            have hut := upto_take hq L
            obtain ⟨ho1, ho2, ho3⟩ := HS.out.2 _ (List.mem_of_getElem? hq)
            have hur := upto_rng (l := S.take i) (fun r hr => (HS.out.2 r (List.mem_of_mem_take hr)).2.1) L
            have hcr := count_rng (S.take i) fun r hr => HS.out.2 r (List.mem_of_mem_take hr)
            have htl : (S.take i).length ≤ i := List.length_take_le _ _
            have hsl := HSL.out
            rw [M_eq] at ho3
            simp only at hc1 hc2 hut ho1 ho2 ho3
            have HUT := Lib.hid hut
            clear hut hq
            have hup2 : 0 ≤ upto (S.take i) L ∧ upto (S.take i) L ≤ 65970697666560 := by omega
            obtain ⟨hup3, hup4⟩ := hup2
            clear hur hcr htl
            generalize upto (S.take i) L = ui at *
            have hib : (0 : Int) ≤ (i : Int) := by omega
            have hib2 : (i : Int) < (S.length : Int) := by omega
            by_cases hle : x1 ≤ L
            · rw [if_pos hle] at HUT
              have hq2 : decide (x1 ≤ L) = true := by simpa using hle
              obtain ⟨mn, hmn⟩ : ∃ q, min x2 L = q := ⟨_, rfl⟩
              have hmn2 : 0 ≤ mn ∧ mn ≤ 1099511627776 := by omega
              rw [hmn] at HUT
              obtain ⟨hmn3, hmn4⟩ := hmn2
              have hib3 : (i : Int) < 60 := by omega
              clear hsl
              go_wp2_with fail
              go_quiet (fail)
              go_wp2_with fail
              go_quiet (fail)
              go_wp2_with fail
              go_roundg (S.length - (i + 1))
              case measure => omega
              case rel => exact ⟨i + 1, by omega, by omega, by go_num, by rw [HUT.out]; go_num, Lib.hid (O.out.tr ((Below.refl _ _).drewN _)), Lib.hid (at_below46 ((Below.refl _ _).drewN _) DF.out)⟩
            · rw [if_neg hle] at HUT
              have hq2 : decide (x1 ≤ L) = false := by simpa using hle
              have hib3 : (i : Int) < 60 := by omega
              clear hsl
              go_wp2_with fail
              go_quiet (fail)
              go_wp2_with fail
              go_roundg (S.length - (i + 1))
              case measure => omega
              case rel => exact ⟨i + 1, by omega, by omega, by go_num, by rw [HUT.out]; go_num, Lib.hid (O.out.tr ((Below.refl _ _).drewN _)), Lib.hid (at_below46 ((Below.refl _ _).drewN _) DF.out)⟩
          · obtain rfl : i = S.length := by omega
            rw [List.take_length, hup]
            have hcn := O.out.n.1
            have hcr := O.out.r.1
            have hfr := O.out.r.2
            go_wp2_with fail
            exact leave1 O.out DF.out (by omega) rfl
end Go.Proofs.YtcpennlojjlpaaaGreatDoor
