/- What the text's contract asks of the statistics of accepted events; events in another order.
   Contracts: maps.Equal at equal maps, Equal of equal statistics.
   Contracts: maps.DeleteFunc at the names, Forget.
   Contracts: Clone, Merge. -/
import Derived.Test.YthgefcoaaommkaaGreatDoorZi
import Derived.Test.YthgefcoaaommkaaGreatDoorZa
import Derived.Test.YthgefcoaaommkaaGreatDoorZf
import Derived.Test.YthgefcoaaommkaaGreatDoorZe
import Derived.Test.YthgefcoaaommkaaGreatDoorZc
import Derived.Test.YthgefcoaaommkaaGreatDoorClnL
namespace Go.Proofs.YthgefcoaaommkaaGreatDoor
open Go.RowKit Go.Gn Go.Sr Go.Maps

/-- What Text asks. -/
structure TextOk (ds : List (Int × C)) (ns : List (Ky × C)) (zs : List Int) : Prop where
  dn : ds.length ≤ 100
  nn : ns.length ≤ 5000
  d : ∀ q ∈ ds, (0 ≤ q.1 ∧ q.1 ≤ 1000000000000000) ∧ NumC q.2
  n : ∀ q ∈ ns, (1 ≤ q.1.2.1 ∧ q.1.2.1 ≤ 3) ∧ q.1.2.2.length ≤ 10000 ∧ NumC q.2
  z : ∀ k, 0 ≤ zs.getD k 0 ∧ zs.getD k 0 ≤ 1000000000000000
  zl : zs.length = 18
theorem lineN_len (k : Int) (n : List UInt8) {c : C} (h : NumC c) : (lineN k n c).length ≤ n.length + 42 := by
  unfold lineN
  have h1 := lineC_len (s := wordT k ++ 32 :: n) (c := c) h.1.1 h.1.2 h.2.1 h.2.2
  have h2 := word_len k
  rw [List.length_append, List.length_cons] at h1
  omega
theorem sizeLn_len (k : Nat) {n : Int} (h0 : 0 ≤ n) (h1 : n ≤ 1000000000000000) (hk : k < 1000) : (sizeLn k n).length ≤ 50 := by
  unfold sizeLn
  split
  · simp
  · have := dg_len h0 h1
    have := dg_len (n := (k : Int)) (by omega) (by omega)
    have := word_len 4
    simp only [List.length_append, List.length_cons, List.length_nil]
    omega
theorem zero_num : NumC (0, 0) := by unfold NumC; simp
theorem get_num {κ : Type} [DecidableEq κ] {L : List (κ × C)} (h : ∀ q ∈ L, NumC q.2) (x : κ) : NumC ((getA L x).getD (0, 0)) := by
  cases hg : getA L x with
  | none => exact zero_num
  | some c => exact h _ (getA_some hg)
theorem TextOk.len {ds : List (Int × C)} {ns : List (Ky × C)} {zs : List Int} (h : TextOk ds ns zs) : (textP ds ns zs).length ≤ 9000000000 := by
  unfold textP
  rw [List.length_append]
  have h1 : ((insAll icmp (ds.map (·.1))).flatMap (dayText ds ns)).length ≤ 50300100 * (insAll icmp (ds.map (·.1))).length := by
    refine flat_len _ _ _ fun d hd => ?_
    obtain ⟨q, hq, rfl⟩ := List.mem_map.1 ((mem_insAll icmp_lin _ _).1 hd)
    have hqd := h.d q hq
    unfold dayText
    rw [List.length_append]
    have a1 := lineN_len 0 (dg q.1) (get_num (fun q hq => (h.d q hq).2) q.1)
    have a2 := dg_len hqd.1.1 hqd.1.2
    have a3 : ((dayNames ns q.1).flatMap fun x => lineN x.1 x.2 ((getA ns (q.1, x)).getD (0, 0))).length ≤ 10050 * (dayNames ns q.1).length := by
      refine flat_len _ _ _ fun x hx => ?_
      unfold dayNames at hx
      obtain ⟨y, hy, rfl⟩ := List.mem_map.1 ((mem_insAll kcmp_lin _ _).1 hx)
      have hyn := h.n y (List.mem_filter.1 hy).1
      have := lineN_len y.1.2.1 y.1.2.2 (get_num (fun q hq => (h.n q hq).2.2) (q.1, y.1.2))
      omega
    have a4 : (dayNames ns q.1).length ≤ 5000 := by
      have b1 := insAll_length kcmp ((ns.filter fun x => decide (x.1.1 = q.1)).map (·.1.2))
      have b2 := List.length_filter_le (fun x : Ky × C => decide (x.1.1 = q.1)) ns
      rw [List.length_map] at b1
      have := h.nn
      unfold dayNames
      omega
    omega
  have h2 : (insAll icmp (ds.map (·.1))).length ≤ 100 := by
    have := insAll_length icmp (ds.map (·.1))
    rw [List.length_map] at this
    have := h.dn
    omega
  have h3 : (sizesT zs).length ≤ 50 * (List.range zs.length).length := by
    unfold sizesT
    refine flat_len _ _ _ fun k hk => sizeLn_len k (h.z k).1 (h.z k).2 ?_
    have := List.mem_range.1 hk
    have := h.zl
    omega
  rw [List.length_range, h.zl] at h3
  omega
theorem TextOk.any {ds : List (Int × C)} {ns : List (Ky × C)} {zs : List Int} (h : TextOk ds ns zs) (p bd bn : Nat) (w : World) (hs : StM w p bd bn ds ns zs) (hT : Tab w) :
    Calls Tryz.prog 17 #[.pointer (some ⟨p, 0, none⟩)] w fun e w' => e = .returned (enS (textP ds ns zs)) ∧ Below w.heap.size w w' :=
  text_any p bd bn ds ns zs w hs hT (by have := h.dn; omega) (by have := h.nn; omega) h.d h.n h.z h.len
/-- The statistics of accepted events. -/
theorem textOk_of {l : List Ev} (hg : ∀ e ∈ l, GoodE e) (ha : ∀ e ∈ l, e.author.length = 16) (hl : l.length ≤ 40) : TextOk (daysL l) (namesL l) (sizesL l) := by
  have hd := daysL_bnd l hg
  have hn := namesL_bnd l hg
  refine ⟨by have := daysL_len l; omega, by have := namesL_len l hg; omega, fun q hq => ⟨?_, ?_⟩, fun q hq => ⟨?_, ?_, ?_⟩, fun k => by have := sizesL_bnd l hg k; omega, sizesL_length l⟩
  · obtain ⟨e, he, h1⟩ := (mem_daysM l q.1).1 ((keys_daysL l q.1).1 (List.mem_map.2 ⟨q, hq, rfl⟩))
    have := (hg e he).minute
    rw [← h1]; unfold dayE; omega
  · have := hd q hq
    unfold NumC; omega
  · obtain ⟨e, he, hk⟩ := (mem_keysL (fun e he => (hg e he).apart) q.1).1 (List.mem_map.2 ⟨q, hq, rfl⟩)
    have := (mem_keysE e q.1.1 q.1.2.1 q.1.2.2).1 hk
    have h2 := this.2
    unfold hasE at h2
    rw [Bool.and_eq_true] at h2
    exact of_decide_eq_true h2.1
  · obtain ⟨e, he, hk⟩ := (mem_keysL (fun e he => (hg e he).apart) q.1).1 (List.mem_map.2 ⟨q, hq, rfl⟩)
    have h2 := ((mem_keysE e q.1.1 q.1.2.1 q.1.2.2).1 hk).2
    unfold hasE at h2
    rw [Bool.and_eq_true] at h2
    have h3 := of_decide_eq_true h2.2
    unfold ofKind at h3
    split at h3
    · rw [List.mem_singleton.1 h3, hexT_len, ha e he]; omega
    · split at h3
      · have := siteE_zero ((hg e he).sites _ h3); omega
      · have := check_len ((hg e he).groups _ h3); omega
  · have := hn q hq
    unfold NumC; omega
theorem TextOk.from {l : List Ev} (h : TextOk (daysL l) (namesL l) (sizesL l)) (b : Int) : TextOk (daysL l) (fromDay b (namesL l)) (sizesL l) :=
  ⟨h.dn, Nat.le_trans (List.length_filter_le _ _) h.nn, h.d, fun q hq => h.n q (List.mem_filter.1 hq).1, h.z, h.zl⟩
/-- All names lie at day 0 or later. -/
theorem from_zero {l : List Ev} (hg : ∀ e ∈ l, GoodE e) : fromDay 0 (namesL l) = namesL l := fromDay_all fun q hq => by
  obtain ⟨e, he, hk⟩ := (mem_keysL (fun e he => (hg e he).apart) q.1).1 (List.mem_map.2 ⟨q, hq, rfl⟩)
  rw [((mem_keysE e q.1.1 q.1.2.1 q.1.2.2).1 hk).1]
  have := (hg e he).minute
  unfold dayE; omega
theorem text_model {l : List Ev} (hg : ∀ e ∈ l, GoodE e) : textP (daysL l) (namesL l) (sizesL l) = textM l 0 := by
  rw [← text_eq (fun e he => (hg e he).apart) 0, from_zero hg]
/-! ### a list read in another order -/
theorem mod_inj {n a b t : Nat} (ha : a < n) (hb : b < n) (h : (a + t) % n = (b + t) % n) : a = b := by
  have one : ∀ {a b : Nat}, b < n → a ≤ b → (a + t) % n = (b + t) % n → a = b := fun {a b} hb hab h => by
    have h1 := Nat.sub_mod_eq_zero_of_mod_eq h.symm
    rw [show b + t - (a + t) = b - a by omega, Nat.mod_eq_of_lt (by omega)] at h1
    omega
  rcases Nat.le_total a b with hab | hab
  · exact one hb hab h
  · exact (one ha hab h.symm).symm
/-- The places in the order of the statement. -/
def turnI (n t : Nat) : List Nat := (List.range n).map fun i => (n - 1 - i + t) % n
theorem turnI_perm (n t : Nat) : (turnI n t).Perm (List.range n) := by
  have hn : (turnI n t).Nodup := by
    unfold turnI List.Nodup
    rw [List.pairwise_map]
    refine List.Pairwise.imp_of_mem (fun {a b} ha hb hab e => hab ?_) List.nodup_range
    have ha' := List.mem_range.1 ha
    have hb' := List.mem_range.1 hb
    have := mod_inj (n := n) (a := n - 1 - a) (b := n - 1 - b) (t := t) (by omega) (by omega) e
    omega
  have hs : ∀ x ∈ turnI n t, x ∈ List.range n := fun x hx => by
    obtain ⟨i, hi, rfl⟩ := List.mem_map.1 hx
    have := List.mem_range.1 hi
    exact List.mem_range.2 (Nat.mod_lt _ (by omega))
  have hl : (turnI n t).length = n := by unfold turnI; simp
  refine (List.perm_ext_iff_of_nodup hn List.nodup_range).2 fun x => ⟨hs x, fun hx => Classical.byContradiction fun hc => ?_⟩
  have := len_le_nodup (x :: turnI n t) (List.range n) (List.nodup_cons.2 ⟨hc, hn⟩) fun y hy => by
    rcases List.mem_cons.1 hy with rfl | hy
    · exact hx
    · exact hs y hy
  rw [List.length_cons, hl, List.length_range] at this
  omega
def turned {α : Type} (l : List α) (t : Nat) : List α := (turnI l.length t).filterMap fun i => l[i]?
theorem range_all {α : Type} (l : List α) : (List.range l.length).filterMap (fun i => l[i]?) = l := by
  induction l with
  | nil => rfl
  | cons a r ih =>
    rw [List.length_cons, List.range_succ_eq_map, List.filterMap_cons]
    simp only [List.getElem?_cons_zero, List.filterMap_map, Function.comp_def, Nat.succ_eq_add_one, List.getElem?_cons_succ]
    rw [ih]
theorem turned_perm {α : Type} (l : List α) (t : Nat) : (turned l t).Perm l := by
  have h := (turnI_perm l.length t).filterMap fun i => l[i]?
  rw [range_all] at h
  exact h
/-- .. up to place k. -/
def turnU {α : Type} (l : List α) (t k : Nat) : List α := ((List.range k).map fun i => (l.length - 1 - i + t) % l.length).filterMap fun i => l[i]?
theorem turnU_succ {α : Type} {l : List α} {t k : Nat} {x : α} (h : l[(l.length - 1 - k + t) % l.length]? = some x) : turnU l t (k + 1) = turnU l t k ++ [x] := by
  unfold turnU
  rw [List.range_succ, List.map_append, List.filterMap_append]
  simp [h]
theorem turnU_end {α : Type} (l : List α) (t : Nat) : turnU l t l.length = turned l t := rfl
theorem turnU_len {α : Type} (l : List α) (t k : Nat) (hk : k ≤ l.length) : (turnU l t k).length = k := by
  induction k with
  | zero => rfl
  | succ k ih =>
    have hlt : (l.length - 1 - k + t) % l.length < l.length := Nat.mod_lt _ (by omega)
    rw [turnU_succ (List.getElem?_eq_getElem hlt), List.length_append, ih (by omega)]; rfl
theorem okS_perm {l m : List EvM} (h : l.Perm m) : (okS l).Perm (okS m) := h.filter _
end Go.Proofs.YthgefcoaaommkaaGreatDoor

namespace Go.Proofs.YthgefcoaaommkaaGreatDoor
open Go.RowKit Go.Gn Go.Sr Go.Maps

theorem wpList_lookup_ok_r {P : Program} {k : TypeId} {κ β : Type} [DecidableEq κ] {w : World} {ops : Array Oper} {rest : List Oper} {o : Oper} {a : Act} {Q : Exit → Act → World → Prop} (hg : o.guard = none) (m x : Operand) (t : TypeId) (hop : o.op = Op.lookup t m x true)
    (S : KV P k κ β) (e : TypeId) (ht : P.underlying t = some (.map k e)) (z : Value) (hz : (zeroValue e).run P w = .ok z w) (b : Nat) (L : List (κ × β))
    (hm : a.eval m = .map (some b)) (hown : MapA S w b L) (y : κ) (hy : S.ok y) (hx : a.eval x = S.kv y) (c : β) (hc : getA L y = some c) (r : Value) (hr : S.vv c = r)
    (hK : wpList P ops Q rest (a.put o.dst (.tuple #[r, .bool true])) w) : wpList P ops Q (o :: rest) a w :=
  wpList_lookup_a_ok w hg m x t hop S e ht z hz b L hm hown y hy hx (by rw [hc]; simpa [hr] using hK)
theorem len_same {κ β : Type} [DecidableEq κ] {L M : List (κ × β)} (hL : NoTwo L) (hM : NoTwo M) (h : ∀ x, getA L x = getA M x) : L.length = M.length := (perm_of_mem hL hM (mem_ext hL hM h)).length_eq
set_option maxRecDepth 100000 in
set_option maxHeartbeats 4000000 in
theorem mapsEqD_true (b1 b2 : Nat) (L M : List (Int × C)) (w : World) (h1 : MapA dayK w b1 L) (h2 : MapA dayK w b2 M) (he : ∀ x, getA L x = getA M x) :
    Calls Tryz.prog 60 #[.map (some b1), .map (some b2)] w fun e w' => e = .returned (.bool true) ∧ Below w.heap.size w w' := by
  have hlen := len_same h1.two h2.two he
  have hne : ((L.length : Int) != M.length) = false := by rw [hlen]; simp
  have hb2 := h2.lt
  have H1 := Lib.hid h1
  have H2 := Lib.hid h2
  have HE := Lib.hid he
  have HTW := Lib.hid h1.two
  clear h1 h2 he
  go_enter Tryz.func60, Tryz.ntmps60
  go_wp2_with (first | (refine wpList_len_a w rfl _ 69 rfl dayK 34 Tryz.underlying69 b1 L rfl H1.out ?_) | (refine wpList_len_a w rfl _ 69 rfl dayK 34 Tryz.underlying69 b2 M rfl H2.out ?_) | (at_range; refine wpList_range_a _ rfl _ 69 rfl dayK 34 Tryz.underlying69 b1 L rfl H1.out ?_; intro w0 hrg0 hg0 hs0) | go_in)
  try go_frame
  have BE0 := Lib.hid ((Below.refl w.heap.size w).grown hg0 (Nat.le_refl _) (fun k hk => by cases hk))
  have R0 := Lib.hid hrg0
  have M0 := Lib.hid (H2.out.kept hg0 (by intro e; cases e))
  clear hg0 hs0 hrg0 H1 H2
  go_loopg [5] L.length (fun gg cv wr => ∃ done : List (Int × C), L.length - done.length ≤ gg ∧ Hid (RngA dayK wr b1 w.heap.size L done) ∧ Hid (MapA dayK wr b2 M) ∧ Hid (Below w.heap.size w wr))
  case atStart => exact ⟨[], by simp, R0, M0, BE0⟩
  case round =>
    obtain ⟨done, hgg, R3, M3, BE3⟩ := hrel
    go_wp2_with (first | (at_next; refine wpList_next_day rfl _ rfl b1 w.heap.size L done rfl R3.out ?_ ?_) | go_in)
    · intro hp
      go_wp2_with fail
      go_ret
      exact ⟨rfl, BE3.out⟩
    · intro x c1 c2 w1 hmem hnd hwf R4 hg4 hs4 hen
      have M4 := Lib.hid (M3.out.kept hg4 (by intro e; injection e with e; omega))
      have BE4 := Lib.hid (BE3.out.grown hg4 BE3.out.size (fun k hk => by cases hk; exact Nat.le_refl _))
      have HGM := Lib.hid (show getA M x = some (c1, c2) by rw [← HE.out]; exact (getA_iff HTW.out _ _).2 hmem)
      have HR4 := Lib.hid R4
      clear hmem hnd R4 hg4 hs4 R3 M3 BE3
      have hcc1 : (c1 != c1) = false := by simp
      have hcc2 : (c2 != c2) = false := by simp
      go_wp2_with (refine wpList_lookup_ok_r rfl _ _ 69 rfl dayK 34 Tryz.underlying69 _ (zeroC _) b2 M rfl (by first | exact M4.out.below (below_new _ _) | exact (M4.out.below (below_new _ _)).below (below_new _ _)) x hwf rfl (c1, c2) HGM.out (.agg #[i64 c1, i64 c2]) rfl ?_)
      have b1x := below_new w1 (.cells #[i64 c1, i64 c2] 34)
      have b2x := b1x.tr (below_new _ (.cells #[i64 c1, i64 c2] 34))
      have R9 := Lib.hid (HR4.out.below b2x)
      have M9 := Lib.hid (M4.out.below b2x)
      have BE9 := Lib.hid (BE4.out.tr b2x)
      go_roundg (L.length - (done.length + 1))
      case measure =>
        have := R9.out.len
        simp at this
        omega
      case rel => exact ⟨done ++ [(x, (c1, c2))], by simp, R9, M9, BE9⟩
set_option maxRecDepth 100000 in
set_option maxHeartbeats 4000000 in
theorem mapsEqN_true (b1 b2 : Nat) (L M : List (Ky × C)) (w : World) (h1 : MapA nameK w b1 L) (h2 : MapA nameK w b2 M) (he : ∀ x, getA L x = getA M x) :
    Calls Tryz.prog 61 #[.map (some b1), .map (some b2)] w fun e w' => e = .returned (.bool true) ∧ Below w.heap.size w w' := by
  have hlen := len_same h1.two h2.two he
  have hne : ((L.length : Int) != M.length) = false := by rw [hlen]; simp
  have hb2 := h2.lt
  have H1 := Lib.hid h1
  have H2 := Lib.hid h2
  have HE := Lib.hid he
  have HTW := Lib.hid h1.two
  clear h1 h2 he
  go_enter Tryz.func61, Tryz.ntmps61
  go_wp2_with (first | (refine wpList_len_a w rfl _ 70 rfl nameK 34 Tryz.underlying70 b1 L rfl H1.out ?_) | (refine wpList_len_a w rfl _ 70 rfl nameK 34 Tryz.underlying70 b2 M rfl H2.out ?_) | (at_range; refine wpList_range_a _ rfl _ 70 rfl nameK 34 Tryz.underlying70 b1 L rfl H1.out ?_; intro w0 hrg0 hg0 hs0) | go_in)
  try go_frame
  have BE0 := Lib.hid ((Below.refl w.heap.size w).grown hg0 (Nat.le_refl _) (fun k hk => by cases hk))
  have R0 := Lib.hid hrg0
  have M0 := Lib.hid (H2.out.kept hg0 (by intro e; cases e))
  clear hg0 hs0 hrg0 H1 H2
  go_loopg [5] L.length (fun gg cv wr => ∃ done : List (Ky × C), L.length - done.length ≤ gg ∧ Hid (RngA nameK wr b1 w.heap.size L done) ∧ Hid (MapA nameK wr b2 M) ∧ Hid (Below w.heap.size w wr))
  case atStart => exact ⟨[], by simp, R0, M0, BE0⟩
  case round =>
    obtain ⟨done, hgg, R3, M3, BE3⟩ := hrel
    go_wp2_with (first | (at_next; refine wpList_next_name rfl _ rfl b1 w.heap.size L done rfl R3.out ?_ ?_) | go_in)
    · intro hp
      go_wp2_with fail
      go_ret
      exact ⟨rfl, BE3.out⟩
    · intro x1 x2 x3 c1 c2 w1 hmem hnd hwf R4 hg4 hs4 hen
      have M4 := Lib.hid (M3.out.kept hg4 (by intro e; injection e with e; omega))
      have BE4 := Lib.hid (BE3.out.grown hg4 BE3.out.size (fun k hk => by cases hk; exact Nat.le_refl _))
      have HGM := Lib.hid (show getA M (x1, x2, x3) = some (c1, c2) by rw [← HE.out]; exact (getA_iff HTW.out _ _).2 hmem)
      have HR4 := Lib.hid R4
      clear hmem hnd R4 hg4 hs4 R3 M3 BE3
      have hcc1 : (c1 != c1) = false := by simp
      have hcc2 : (c2 != c2) = false := by simp
      go_wp2_with (refine wpList_lookup_ok_r rfl _ _ 70 rfl nameK 34 Tryz.underlying70 _ (zeroC _) b2 M rfl (by first | exact M4.out.below (below_new _ _) | exact (M4.out.below (below_new _ _)).below (below_new _ _)) (x1, x2, x3) hwf rfl (c1, c2) HGM.out (.agg #[i64 c1, i64 c2]) rfl ?_)
      have b1x := below_new w1 (.cells #[i64 x1, i64 x2, enS x3] 74)
      have b2x := b1x.tr (below_new _ (.cells #[i64 c1, i64 c2] 34))
      have b3x := b2x.tr (below_new _ (.cells #[i64 c1, i64 c2] 34))
      have R9 := Lib.hid (HR4.out.below b3x)
      have M9 := Lib.hid (M4.out.below b3x)
      have BE9 := Lib.hid (BE4.out.tr b3x)
      go_roundg (L.length - (done.length + 1))
      case measure =>
        have := R9.out.len
        simp at this
        omega
      case rel => exact ⟨done ++ [((x1, x2, x3), (c1, c2))], by simp, R9, M9, BE9⟩
section
variable {P : Program} {C : World → Prop} {K : Act → Prop} {a : Act} {o : Oper}
theorem quiet_eqlI (t e : TypeId) (n : Nat) (ht : P.underlying t = some (.array n e)) (he : P.underlying e = some (.int .i64)) (hsz : ∀ w, (Go.sizeOf e).run P w = .ok 1 w) (hm : P.eqGuardType P.depth t = false)
    (x y : Operand) (r : TypeId) (ho : o.op = .binOp .eql t x y r) (xs ys : List Int) (hx : a.eval x = .agg (xs.map i64).toArray) (hy : a.eval y = .agg (ys.map i64).toArray) (lx : xs.length = n) (ly : ys.length = n)
    (hk : K (a.put o.dst (.bool (xs == ys)))) : o.quiet P a C K :=
  ⟨_, fun w _ => by
    unfold Oper.quietAt execOp
    simp only [ho, Sem.run_bind, Sem.run_pure, hx, hy, run_eqGuard_agg w .eql t x y _ _ hm, run_eql_ints w t e n ht he hsz xs ys lx ly, Result.andThen_ok]
    exact ⟨rfl, rfl⟩, hk⟩
end
set_option maxRecDepth 100000 in
set_option maxHeartbeats 4000000 in
theorem equal_true (p bd bn q be bm : Nat) (ds ds' : List (Int × C)) (ns ns' : List (Ky × C)) (zs : List Int) (w : World) (h : StM w p bd bn ds ns zs) (k : StM w q be bm ds' ns' zs) (hd : ∀ x, getA ds x = getA ds' x) (hn : ∀ x, getA ns x = getA ns' x) :
    Calls Tryz.prog 21 #[.pointer (some ⟨p, 0, none⟩), .pointer (some ⟨q, 0, none⟩)] w fun e w' => e = .returned (.bool true) ∧ Below w.heap.size w w' := by
  have hzl := h.zl
  have hsz : (zs.map i64).length = 18 := by rw [List.length_map]; exact hzl
  have HS : Hid ((Tryz.prog.info? 63).map (·.size) = some 18) := Lib.hid (by kernel_rfl)
  have HP := Lib.hid h
  have HQ := Lib.hid k
  have HD := Lib.hid hd
  have HN := Lib.hid hn
  clear h k hd hn
  go_enter Tryz.func21, Tryz.ntmps21
  go_wp2_with fail
  refine Flow.wp_region_segs Flow.Later Flow.Later.refl Flow.Later.trans [([0, 1, 2, 3, 4, 5, 6, 7], 8), ([9, 10, 11, 12, 13, 14, 15, 16, 17], 18)] [19, 20, 21, 22, 23, 24, 25, 26, 27, 28, 29, 30, 31] (by kernel_rfl) (by kernel_rfl) ?_
  have bq : Below w.heap.size w (World.drew w) := (Below.refl _ _).drew
  have P1 := Lib.hid (HP.out.below bq); clear HP
  have Q1 := Lib.hid (HQ.out.below bq); clear HQ
  have B1 := Lib.hid bq; clear bq
  generalize World.drew _ = w1 at *
  have c0 := P1.out.c0
  have d0 := Q1.out.c0
  have q1 : ∀ t : Flow.Cls (Flow.Later w1), t.val.cell? _ = some (.map (some bd)) := fun t => Flow.cls_cell c0 t
  have q2 : ∀ t : Flow.Cls (Flow.Later w1), t.val.cell? _ = some (.map (some be)) := fun t => Flow.cls_cell d0 t
  haveI nonE := Flow.cls_nonempty w1
  rw [Flow.wpSegs_cons]
  simp only [Flow.pick, List.getElem?_toArray, List.getElem?_cons_succ, List.getElem?_cons_zero]
  repeat go_big_quiet_step (fail)
  refine wpQuiet_nil ?_
  clear nonE q1 q2 c0 d0
  rw [Flow.callAt_eq]
  simp only [List.getElem?_toArray, List.getElem?_cons_succ, List.getElem?_cons_zero]
  rw [if_pos (by rfl)]
  refine Flow.wp_behind (fun K hK => ?_)
  go_wp2_with fail
  refine (mapsEqD_true bd be ds ds' w1 P1.out.md Q1.out.md HD.out).mono ?_; rintro e w2 ⟨rfl, b⟩
  refine hK.out _ _ ⟨b, ?_⟩
  clear hK K
  have P2 := Lib.hid (P1.out.below b); clear P1
  have Q2 := Lib.hid (Q1.out.below b); clear Q1
  have B2 := Lib.hid (B1.out.tr b); clear B1 b
  try simp only [Act.put, List.setIfInBounds_toArray, List.set_cons_succ, List.set_cons_zero]
  have c1 := P2.out.c1
  have d1 := Q2.out.c1
  have q1 : ∀ t : Flow.Cls (Flow.Later w2), t.val.cell? _ = some (.map (some bn)) := fun t => Flow.cls_cell c1 t
  have q2 : ∀ t : Flow.Cls (Flow.Later w2), t.val.cell? _ = some (.map (some bm)) := fun t => Flow.cls_cell d1 t
  haveI nonE := Flow.cls_nonempty w2
  rw [Flow.wpSegs_cons]
  simp only [Flow.pick, List.getElem?_toArray, List.getElem?_cons_succ, List.getElem?_cons_zero]
  repeat go_big_quiet_step (fail)
  refine wpQuiet_nil ?_
  clear nonE q1 q2 c1 d1
  rw [Flow.callAt_eq]
  simp only [List.getElem?_toArray, List.getElem?_cons_succ, List.getElem?_cons_zero]
  rw [if_pos (by rfl)]
  refine Flow.wp_behind (fun K hK => ?_)
  go_wp2_with fail
  refine (mapsEqN_true bn bm ns ns' w2 P2.out.mn Q2.out.mn HN.out).mono ?_; rintro e w3 ⟨rfl, b⟩
  refine hK.out _ _ ⟨b, ?_⟩
  clear hK K
  have P3 := Lib.hid (P2.out.below b); clear P2
  have Q3 := Lib.hid (Q2.out.below b); clear Q2
  have B3 := Lib.hid (B2.out.tr b); clear B2 b
  try simp only [Act.put, List.setIfInBounds_toArray, List.set_cons_succ, List.set_cons_zero]
  have hbz : (zs == zs) = true := by simp
  haveI nonE := Flow.cls_nonempty w3
  rw [Flow.wpSegs_nil]
  simp only [Flow.pick, List.getElem?_toArray, List.getElem?_cons_succ, List.getElem?_cons_zero]
  repeat (first
    | (refine BigFrame.wpQuiet_want (by rfl) (fun K hK => quiet_load_mid 63 _ rfl p 2 rfl (zs.map i64) _ (fun _ he => by obtain ⟨t, rfl⟩ := he; exact (P3.out.below t.2).rz) Tryz.underlying63 rfl (by rw [hsz]; exact HS.out) (hK _ ?_)); clear hK K; simp only [Act.put, List.setIfInBounds_toArray, List.set_cons_succ, List.set_cons_zero])
    | (refine BigFrame.wpQuiet_want (by rfl) (fun K hK => quiet_load_mid 63 _ rfl q 2 rfl (zs.map i64) _ (fun _ he => by obtain ⟨t, rfl⟩ := he; exact (Q3.out.below t.2).rz) Tryz.underlying63 rfl (by rw [hsz]; exact HS.out) (hK _ ?_)); clear hK K; simp only [Act.put, List.setIfInBounds_toArray, List.set_cons_succ, List.set_cons_zero])
    | (refine BigFrame.wpQuiet_want (by rfl) (fun K hK => quiet_eqlI 63 3 18 Tryz.underlying63 Tryz.underlying3 Tryz.sizeOf3 (by kernel_rfl) _ _ _ rfl zs zs rfl rfl hzl hzl (hK _ ?_)); clear hK K; rw [hbz]; simp only [Act.put, List.setIfInBounds_toArray, List.set_cons_succ, List.set_cons_zero])
    | go_big_quiet_step (fail))
  refine wpQuiet_nil ?_
  clear nonE
  go_wp2_with fail
  go_ret
  exact ⟨rfl, B3.out⟩
end Go.Proofs.YthgefcoaaommkaaGreatDoor

namespace Go.Proofs.YthgefcoaaommkaaGreatDoor
open Go.RowKit Go.Gn Go.Sr Go.Maps

set_option maxRecDepth 100000 in
theorem forgetFn_any (k : Ky) (c : C) (pb : Nat) (before : Int) (w : World) (h : w.cell? ⟨pb, 0, none⟩ = some (i64 before)) :
    Calls Tryz.prog 44 #[kV k, cV c, .pointer (some ⟨pb, 0, none⟩)] w fun e w' => e = .returned (.bool (decide (k.1 < before))) ∧ Below w.heap.size w w' := by
  obtain ⟨k1, k2, k3⟩ := k
  obtain ⟨c1, c2⟩ := c
  have hlt := World.block_lt_of_cell? w _ h
  simp only at hlt
  show Calls Tryz.prog 44 #[.agg #[i64 k1, i64 k2, enS k3], .agg #[i64 c1, i64 c2], .pointer (some ⟨pb, 0, none⟩)] w _
  have b1 := below_new w (.cells #[i64 k1, i64 k2, enS k3] 74)
  have b2 := b1.tr (below_new _ (.cells #[i64 c1, i64 c2] 34))
  go_enter Tryz.func44, Tryz.ntmps44
  go_wp2_with fail
  go_ret
  exact ⟨rfl, b2⟩
theorem filter_snoc_ne {κ β : Type} [DecidableEq κ] {done : List (κ × β)} {x : κ} {c : β} (h : x ∉ done.map (·.1)) : (done ++ [(x, c)]).filter (fun p => !decide (p.1 = x)) = done := by
  rw [List.filter_append, List.filter_cons_of_neg (by simp), List.filter_nil, List.append_nil, List.filter_eq_self]
  intro p hp
  have : p.1 ≠ x := fun e => h (List.mem_map.2 ⟨p, hp, e⟩)
  simpa using this
theorem filter_del_len {κ β : Type} [DecidableEq κ] : ∀ {L : List (κ × β)} {x : κ} {c : β}, NoTwo L → (x, c) ∈ L → (L.filter fun p => !decide (p.1 = x)).length + 1 = L.length
  | [], _, _, _, h => by simp at h
  | a :: r, x, c, hn, h => by
    have hn' := List.nodup_cons.1 (show ((a :: r).map (·.1)).Nodup from hn)
    by_cases e : a.1 = x
    · subst e
      rw [List.filter_cons_of_neg (by simp), List.filter_eq_self.2, List.length_cons]
      intro p hp
      have : p.1 ≠ a.1 := fun e => hn'.1 (List.mem_map.2 ⟨p, hp, e⟩)
      simpa using this
    · have hr : (x, c) ∈ r := by
        rcases List.mem_cons.1 h with h | h
        · exact absurd (congrArg Prod.fst h).symm e
        · exact h
      rw [List.filter_cons_of_pos (by simpa using e), List.length_cons, filter_del_len hn'.2 hr, List.length_cons]
set_option maxRecDepth 100000 in
set_option maxHeartbeats 4000000 in
theorem delF_any (bn pb : Nat) (ns : List (Ky × C)) (before : Int) (w : World) (h : MapA nameK w bn ns) (hc : w.cell? ⟨pb, 0, none⟩ = some (i64 before)) (hpb : pb ≠ bn) :
    Calls Tryz.prog 43 #[.map (some bn), .func (.func 44) #[] #[.pointer (some ⟨pb, 0, none⟩)]] w fun e w' => e = .returned (.tuple #[]) ∧ MapA nameK w' bn (fromDay before ns) ∧ ButL [bn] w w' := by
  have hbl := h.lt
  have hpl := World.block_lt_of_cell? w _ hc
  simp only at hpl
  have H1 := Lib.hid h
  have HC := Lib.hid hc
  have HTW := Lib.hid h.two
  clear h hc
  go_enter Tryz.func43, Tryz.ntmps43
  go_wp2_with (first | (at_range; refine wpList_range_a _ rfl _ 70 rfl nameK 34 Tryz.underlying70 bn ns rfl H1.out ?_; intro w0 hrg0 hg0 hs0) | go_in)
  try go_frame
  have BE0 := Lib.hid (show ButL [bn] w w0 from ButL.grown hg0 (fun k hk => by cases hk))
  have R0 := Lib.hid hrg0
  clear hg0 hs0 hrg0 H1
  go_loopg [] ns.length (fun gg wr => ∃ L done : List (Ky × C), L.length - done.length ≤ gg ∧ Hid (RngA nameK wr bn w.heap.size L done) ∧ Hid (ButL [bn] w wr) ∧ Hid ((∀ q ∈ L, q ∈ ns) ∧ (∀ q ∈ ns, before ≤ q.1.1 → q ∈ L) ∧ ∀ q ∈ done, before ≤ q.1.1))
  case atStart => exact ⟨ns, [], by simp, R0, BE0, Lib.hid ⟨fun _ h => h, fun _ h _ => h, by simp⟩⟩
  case round =>
    obtain ⟨L, done, hgg, R3, BE3, HI⟩ := hrel
    go_wp2_with (first | (at_next; refine wpList_next_name rfl _ rfl bn w.heap.size L done rfl R3.out ?_ ?_) | go_in)
    · intro hp
      have hperm : L.Perm (fromDay before ns) := by
        refine perm_of_mem R3.out.map.two (HTW.out.filter _) fun q => ?_
        unfold fromDay
        rw [List.mem_filter]
        constructor
        · intro hq
          exact ⟨HI.out.1 q hq, decide_eq_true (HI.out.2.2 q (hp.mem_iff.2 hq))⟩
        · rintro ⟨h1, h2⟩
          exact HI.out.2.1 q h1 (of_decide_eq_true h2)
      go_wp2_with fail
      go_end0
      exact ⟨rfl, R3.out.map.perm hperm, BE3.out⟩
    · intro x1 x2 x3 c1 c2 w1 hmem hnd hwf R4 hg4 hs4 hen
      have BE4 := Lib.hid (show ButL [bn] w w1 from BE3.out.late (ButL.grown (R := [w.heap.size]) hg4 (fun k hk => by cases hk; simp)) (fun b hb => by simp at hb; omega))
      have HNX := Lib.hid hmem
      have HND := Lib.hid hnd
      have HR4 := Lib.hid R4
      have hlen := filter_del_len R3.out.map.two hmem
      have hdl := R3.out.len
      have hsz := BE4.out.size
      have HC4 := Lib.hid ((World.cell?_of_block (w := w) (w' := w1) (a := ⟨pb, 0, none⟩) (BE4.out.block pb hpl (by simpa using hpb))).trans HC.out)
      clear hmem hnd R4 hg4 hs4 R3 BE3
      go_wp2_with fail
      have b2x := (below_new w1 (.cells #[i64 x1, i64 x2, enS x3] 74)).tr (below_new _ (.cells #[i64 c1, i64 c2] 34))
      have HK5 : Hid (((w1.alloc (.cells #[i64 x1, i64 x2, enS x3] 74)).alloc (.cells #[i64 c1, i64 c2] 34)).heap[w1.heap.size]? = some (.cells #[i64 x1, i64 x2, enS x3] 74 (0, 0))) := Lib.hid (blk_below (below_new _ _) (blk_new _ _))
      have HR5 := Lib.hid (HR4.out.below b2x)
      have HC5 := Lib.hid (Below.cellv b2x HC4.out)
      have BE5 := Lib.hid (BE4.out.trans (ButL.of_below b2x))
      clear HR4 HC4 BE4 b2x
      generalize hkb : w1.heap.size = kb at *
      generalize World.alloc (w1.alloc _) _ = w5 at *
      refine (forgetFn_any (x1, x2, x3) (c1, c2) pb before w5 HC5.out).mono ?_; rintro e w6 ⟨rfl, b⟩
      have R6 := Lib.hid (HR5.out.below b)
      have BE6 := Lib.hid (BE5.out.trans (ButL.of_below b))
      have HK6 := Lib.hid (blk_below b HK5.out)
      clear HR5 BE5 HC5 HK5 b
      by_cases hlt : x1 < before
      · have hd : decide (x1 < before) = true := decide_eq_true hlt
        simp only
        rw [hd]
        have k0 := blk_cell HK6.out 0
        have k1 := blk_cell HK6.out 1
        have k2 := blk_cell HK6.out 2
        go_wp2_with (refine wpList_delete_a _ rfl _ _ 70 rfl nameK 34 Tryz.underlying70 bn w.heap.size L (done ++ [((x1, x2, x3), (c1, c2))]) rfl R6.out (x1, x2, x3) hwf rfl ?_; intro w7 hr7 hg7)
        rw [filter_snoc_ne (fun h => by
          obtain ⟨⟨k, e1, e2⟩, hq, he⟩ := List.mem_map.1 h
          simp only at he
          subst he
          exact HND.out _ _ hq)] at hr7
        have R7 := Lib.hid hr7
        have BE7 := Lib.hid (BE6.out.trans (ButL.grown (R := [bn]) hg7 (fun k hk => by cases hk; simp)))
        have HI7 : Hid ((∀ q ∈ L.filter (fun p => !decide (p.1 = (x1, x2, x3))), q ∈ ns) ∧ (∀ q ∈ ns, before ≤ q.1.1 → q ∈ L.filter (fun p => !decide (p.1 = (x1, x2, x3)))) ∧ ∀ q ∈ done, before ≤ q.1.1) := Lib.hid ⟨fun q hq => HI.out.1 q (List.mem_filter.1 hq).1, fun q hq hb => List.mem_filter.2 ⟨HI.out.2.1 q hq hb, by
          have : q.1 ≠ (x1, x2, x3) := fun e => by rw [e] at hb; simp only at hb; omega
          simpa using this⟩, HI.out.2.2⟩
        have hd1 := R6.out.len
        rw [List.length_append, List.length_singleton] at hd1
        clear hr7 hg7 R6 BE6 HK6 HI
        go_wp2_with fail
        go_roundg ((L.filter (fun p => !decide (p.1 = (x1, x2, x3)))).length - done.length)
        case measure => omega
        case rel => exact ⟨_, done, by omega, R7, BE7, HI7⟩
      · have hd : decide (x1 < before) = false := decide_eq_false hlt
        simp only
        rw [hd]
        have HI7 : Hid ((∀ q ∈ L, q ∈ ns) ∧ (∀ q ∈ ns, before ≤ q.1.1 → q ∈ L) ∧ ∀ q ∈ done ++ [((x1, x2, x3), (c1, c2))], before ≤ q.1.1) := Lib.hid ⟨HI.out.1, HI.out.2.1, fun q hq => by
          rcases List.mem_append.1 hq with h | h
          · exact HI.out.2.2 q h
          · rw [List.mem_singleton.1 h]; simp only; omega⟩
        clear HI
        go_wp2_with fail
        go_roundg (L.length - (done.length + 1))
        case measure =>
          have := R6.out.len
          simp at this
          omega
        case rel => exact ⟨L, done ++ [((x1, x2, x3), (c1, c2))], by simp, R6, BE6, HI7⟩
set_option maxRecDepth 100000 in
set_option maxHeartbeats 4000000 in
theorem forget_any (p bd bn : Nat) (ds : List (Int × C)) (ns : List (Ky × C)) (zs : List Int) (before : Int) (w : World) (h : StM w p bd bn ds ns zs) (hn : ns.length ≤ 100000) :
    Calls Tryz.prog 16 #[.pointer (some ⟨p, 0, none⟩), i64 before] w fun e w' => e = .returned (i64 ((ns.length : Int) - (fromDay before ns).length)) ∧ StM w' p bd bn ds (fromDay before ns) zs ∧ ButL [bn] w w' := by
  have BN := below_new w (.cells #[i64 before] 3)
  have H1 := Lib.hid (h.below BN)
  have HB : Hid ((w.alloc (.cells #[i64 before] 3)).cell? ⟨w.heap.size, 0, none⟩ = some (i64 before)) := Lib.hid (blk_cell (blk_new _ _) 0)
  have BN1 := Lib.hid (ButL.of_below (R := [bn]) BN)
  have hnl := h.ln
  have hpl := h.lp
  have hpn := h.pn
  have hbd := h.ne
  have hdl := h.ld
  have hfl : (fromDay before ns).length ≤ ns.length := List.length_filter_le _ _
  clear h BN
  have hc1 := H1.out.c1
  go_enter Tryz.func16, Tryz.ntmps16
  go_wp2_with (refine wpList_len_a _ rfl _ 70 rfl nameK 34 Tryz.underlying70 bn ns rfl H1.out.mn ?_)
  refine (delF_any bn w.heap.size ns before _ H1.out.mn HB.out (by omega)).mono ?_; rintro e w2 ⟨rfl, hm, hb⟩
  have H2 : Hid (StM w2 p bd bn ds (fromDay before ns) zs) := Lib.hid ⟨(hb.block p H1.out.lp (by simpa using hpn)).trans H1.out.blk, H1.out.md.keep (hb.block bd H1.out.ld (by simpa using hbd)), hm, hbd, H1.out.zl⟩
  have B2 := Lib.hid (BN1.out.trans hb)
  clear hm hb H1 HB BN1 hc1
  have hc1 := H2.out.c1
  go_wp2_with (refine wpList_len_a _ rfl _ 70 rfl nameK 34 Tryz.underlying70 bn _ rfl H2.out.mn ?_)
  go_ret
  exact ⟨rfl, H2.out, B2.out⟩
end Go.Proofs.YthgefcoaaommkaaGreatDoor

namespace Go.Proofs.YthgefcoaaommkaaGreatDoor
open Go.RowKit Go.Gn Go.Sr Go.Maps

theorem cloneD_any (b : Nat) (L : List (Int × C)) (w : World) (h : MapA dayK w b L) :
    Calls Tryz.prog 62 #[.map (some b)] w fun e w' => e = .returned (.map (some w.heap.size)) ∧ MapA dayK w' w.heap.size L ∧ Below w.heap.size w w' := by
  obtain ⟨D, hown, hent⟩ := h
  exact (AnyW.maps_Clone_owns Tryz.clnDayD 3 heldR b _ D w hown).mono fun e w' ⟨h1, h2, _, h4⟩ => ⟨h1, ⟨D, h2, hent⟩, h4⟩
theorem cloneN_any (b : Nat) (L : List (Ky × C)) (w : World) (h : MapA nameK w b L) :
    Calls Tryz.prog 63 #[.map (some b)] w fun e w' => e = .returned (.map (some w.heap.size)) ∧ MapA nameK w' w.heap.size L ∧ Below w.heap.size w w' := by
  obtain ⟨D, hown, hent⟩ := h
  exact (AnyW.maps_Clone_owns Tryz.clnNameD 74 heldR b _ D w hown).mono fun e w' ⟨h1, h2, _, h4⟩ => ⟨h1, ⟨D, h2, hent⟩, h4⟩
theorem quiet_build3 {P : Program} {C : World → Prop} {K : Act → Prop} {a : Act} {o : Oper} (t : TypeId) (x0 x1 x2 : Operand) (ho : o.op = .build t #[(0, x0), (1, x1), (2, x2)]) (v0 v1 v2 : Value) (h0 : a.eval x0 = v0) (h1 : a.eval x1 = v1) (h2 : a.eval x2 = v2) (cells : Array Value) (hb : P.built t [(0, v0), (1, v1), (2, v2)] = some cells) (hk : K (a.put o.dst (.agg cells))) : o.quiet P a C K :=
  quiet_build t _ ho cells (by
    have e : ((#[(0, x0), (1, x1), (2, x2)] : Array (Nat × Operand)).map fun (q : Nat × Operand) => (q.1, a.eval q.2)).toList = [(0, v0), (1, v1), (2, v2)] := by simp [h0, h1, h2]
    exact (congrArg (P.built t) e).trans hb) hk
theorem built_stats (d n : Nat) (a0 a1 a2 a3 a4 a5 a6 a7 a8 a9 a10 a11 a12 a13 a14 a15 a16 a17 : Int) : Tryz.prog.built 72 [(0, .map (some d)), (1, .map (some n)), (2, .agg #[i64 a0, i64 a1, i64 a2, i64 a3, i64 a4, i64 a5, i64 a6, i64 a7, i64 a8, i64 a9, i64 a10, i64 a11, i64 a12, i64 a13, i64 a14, i64 a15, i64 a16, i64 a17])] = some #[.map (some d), .map (some n), i64 a0, i64 a1, i64 a2, i64 a3, i64 a4, i64 a5, i64 a6, i64 a7, i64 a8, i64 a9, i64 a10, i64 a11, i64 a12, i64 a13, i64 a14, i64 a15, i64 a16, i64 a17] := by kernel_rfl
set_option maxRecDepth 100000 in
set_option maxHeartbeats 4000000 in
theorem clone_any (p bd bn : Nat) (ds : List (Int × C)) (ns : List (Ky × C)) (zs : List Int) (w : World) (h : StM w p bd bn ds ns zs) :
    Calls Tryz.prog 22 #[.pointer (some ⟨p, 0, none⟩)] w fun e w' => ∃ q be bm, e = .returned (.pointer (some ⟨q, 0, none⟩)) ∧ StM w' q be bm ds ns zs ∧ Below w.heap.size w w' ∧ w.heap.size ≤ q ∧ w.heap.size ≤ be ∧ w.heap.size ≤ bm := by
  obtain ⟨a0, a1, a2, a3, a4, a5, a6, a7, a8, a9, a10, a11, a12, a13, a14, a15, a16, a17, hz⟩ := list18 h.zl
  have HS : Hid ((Tryz.prog.info? 63).map (·.size) = some 18) := Lib.hid (by kernel_rfl)
  have HP := Lib.hid h
  clear h
  go_enter Tryz.func22, Tryz.ntmps22
  go_wp2_with fail
  refine Flow.wp_region_segs Flow.Later Flow.Later.refl Flow.Later.trans [([0, 1, 2, 3, 5, 6, 7, 8, 10, 11, 12, 13], 4), ([], 9), ([14], 15)] [16] (by kernel_rfl) (by kernel_rfl) ?_
  have bq : Below w.heap.size w (World.drew w) := (Below.refl _ _).drew
  have P1 := Lib.hid (HP.out.below bq); clear HP
  have B1 := Lib.hid bq; clear bq
  generalize World.drew _ = w1 at *
  have c0 := P1.out.c0
  have c1 := P1.out.c1
  have hrz := P1.out.rz
  rw [hz] at hrz
  have HRZ := Lib.hid (show w1.rangeAt p 2 [i64 a0, i64 a1, i64 a2, i64 a3, i64 a4, i64 a5, i64 a6, i64 a7, i64 a8, i64 a9, i64 a10, i64 a11, i64 a12, i64 a13, i64 a14, i64 a15, i64 a16, i64 a17] from hrz)
  clear hrz
  have q1 : ∀ t : Flow.Cls (Flow.Later w1), t.val.cell? _ = some (.map (some bd)) := fun t => Flow.cls_cell c0 t
  have q2 : ∀ t : Flow.Cls (Flow.Later w1), t.val.cell? _ = some (.map (some bn)) := fun t => Flow.cls_cell c1 t
  haveI nonE := Flow.cls_nonempty w1
  rw [Flow.wpSegs_cons]
  simp only [Flow.pick, List.getElem?_toArray, List.getElem?_cons_succ, List.getElem?_cons_zero]
  repeat (first
    | (refine BigFrame.wpQuiet_want (by rfl) (fun K hK => quiet_load_mid 63 _ rfl p 2 rfl [i64 a0, i64 a1, i64 a2, i64 a3, i64 a4, i64 a5, i64 a6, i64 a7, i64 a8, i64 a9, i64 a10, i64 a11, i64 a12, i64 a13, i64 a14, i64 a15, i64 a16, i64 a17] _ (fun _ he => by obtain ⟨t, rfl⟩ := he; exact range_below HRZ.out t.2) Tryz.underlying63 rfl HS.out (hK _ ?_)); clear hK K; simp only [Act.put, List.setIfInBounds_toArray, List.set_cons_succ, List.set_cons_zero])
    | go_big_quiet_step (fail))
  refine wpQuiet_nil ?_
  clear nonE q1 q2 c0 c1
  rw [Flow.callAt_eq]
  simp only [List.getElem?_toArray, List.getElem?_cons_succ, List.getElem?_cons_zero]
  rw [if_pos (by rfl)]
  refine Flow.wp_behind (fun K hK => ?_)
  go_wp2_with fail
  refine (cloneD_any bd ds w1 P1.out.md).mono ?_; rintro e w2 ⟨rfl, hm, b⟩
  refine hK.out _ _ ⟨b, ?_⟩
  clear hK K
  have P2 := Lib.hid (P1.out.below b); clear P1
  have hs1 : w.heap.size ≤ w1.heap.size := B1.out.size
  have B2 := Lib.hid (B1.out.tr b); clear B1 b
  have M2 := Lib.hid hm; clear hm
  try simp only [Act.put, List.setIfInBounds_toArray, List.set_cons_succ, List.set_cons_zero]
  haveI nonE := Flow.cls_nonempty w2
  rw [Flow.wpSegs_cons]
  simp only [Flow.pick]
  refine wpQuiet_nil ?_
  clear nonE
  rw [Flow.callAt_eq]
  simp only [List.getElem?_toArray, List.getElem?_cons_succ, List.getElem?_cons_zero]
  rw [if_pos (by rfl)]
  refine Flow.wp_behind (fun K hK => ?_)
  go_wp2_with fail
  refine (cloneN_any bn ns w2 P2.out.mn).mono ?_; rintro e w3 ⟨rfl, hm, b⟩
  refine hK.out _ _ ⟨b, ?_⟩
  clear hK K
  have hs2 : w1.heap.size < w2.heap.size := M2.out.lt
  have M3 := Lib.hid (M2.out.below b); clear M2
  have N3 := Lib.hid hm; clear hm
  have hs3 : w2.heap.size < w3.heap.size := N3.out.lt
  have B3 := Lib.hid (B2.out.tr b); clear B2 b
  try simp only [Act.put, List.setIfInBounds_toArray, List.set_cons_succ, List.set_cons_zero]
  haveI nonE := Flow.cls_nonempty w3
  rw [Flow.wpSegs_cons]
  simp only [Flow.pick, List.getElem?_toArray, List.getElem?_cons_succ, List.getElem?_cons_zero]
  refine BigFrame.wpQuiet_want (by rfl) (fun K hK => quiet_build3 72 _ _ _ rfl (.map (some w1.heap.size)) (.map (some w2.heap.size)) (.agg #[i64 a0, i64 a1, i64 a2, i64 a3, i64 a4, i64 a5, i64 a6, i64 a7, i64 a8, i64 a9, i64 a10, i64 a11, i64 a12, i64 a13, i64 a14, i64 a15, i64 a16, i64 a17]) rfl rfl rfl #[.map (some w1.heap.size), .map (some w2.heap.size), i64 a0, i64 a1, i64 a2, i64 a3, i64 a4, i64 a5, i64 a6, i64 a7, i64 a8, i64 a9, i64 a10, i64 a11, i64 a12, i64 a13, i64 a14, i64 a15, i64 a16, i64 a17] (built_stats w1.heap.size w2.heap.size a0 a1 a2 a3 a4 a5 a6 a7 a8 a9 a10 a11 a12 a13 a14 a15 a16 a17) (hK _ ?_)); clear hK K; simp only [Act.put, List.setIfInBounds_toArray, List.set_cons_succ, List.set_cons_zero]
  refine wpQuiet_nil ?_
  clear nonE
  rw [Flow.callAt_eq]
  simp only [List.getElem?_toArray, List.getElem?_cons_succ, List.getElem?_cons_zero]
  rw [if_pos (by rfl)]
  refine Flow.wp_behind (fun K hK => ?_)
  go_wp2_with fail
  have bA := below_new w3 (.cells #[.map (some w1.heap.size), .map (some w2.heap.size), i64 a0, i64 a1, i64 a2, i64 a3, i64 a4, i64 a5, i64 a6, i64 a7, i64 a8, i64 a9, i64 a10, i64 a11, i64 a12, i64 a13, i64 a14, i64 a15, i64 a16, i64 a17] 72)
  have K4 := Lib.hid (blk_new w3 (.cells #[.map (some w1.heap.size), .map (some w2.heap.size), i64 a0, i64 a1, i64 a2, i64 a3, i64 a4, i64 a5, i64 a6, i64 a7, i64 a8, i64 a9, i64 a10, i64 a11, i64 a12, i64 a13, i64 a14, i64 a15, i64 a16, i64 a17] 72))
  refine hK.out _ _ ⟨bA, ?_⟩
  clear hK K
  have M4 := Lib.hid (M3.out.below bA)
  have N4 := Lib.hid (N3.out.below bA)
  have B4 := Lib.hid (B3.out.tr bA)
  have hs4 := bA.size
  try simp only [Act.put, List.setIfInBounds_toArray, List.set_cons_succ, List.set_cons_zero]
  haveI nonE := Flow.cls_nonempty (w3.alloc (.cells #[.map (some w1.heap.size), .map (some w2.heap.size), i64 a0, i64 a1, i64 a2, i64 a3, i64 a4, i64 a5, i64 a6, i64 a7, i64 a8, i64 a9, i64 a10, i64 a11, i64 a12, i64 a13, i64 a14, i64 a15, i64 a16, i64 a17] 72))
  rw [Flow.wpSegs_nil]
  simp only [Flow.pick, List.getElem?_toArray, List.getElem?_cons_succ, List.getElem?_cons_zero]
  repeat go_big_quiet_step (fail)
  refine wpQuiet_nil ?_
  clear nonE
  go_wp2_with fail
  go_ret
  exact ⟨w3.heap.size, w1.heap.size, w2.heap.size, rfl, ⟨by rw [hz]; exact K4.out, M4.out, N4.out, by omega, by rw [hz]; rfl⟩, B4.out, by omega, by omega, by omega⟩

theorem StM.grown {w w' : World} {p bd bn : Nat} {ds : List (Int × C)} {ns : List (Ky × C)} {zs : List Int} {row : Option Nat} (h : StM w p bd bn ds ns zs) (hg : w.grownBy w' row) (h0 : some p ≠ row) (h1 : some bd ≠ row) (h2 : some bn ≠ row) : StM w' p bd bn ds ns zs :=
  h.keep (hg.block p h.lp h0) (hg.block bd h.ld h1) (hg.block bn h.ln h2)
theorem RngA.doneTwo {P : Program} {k : TypeId} {κ β : Type} {S : KV P k κ β} {w : World} {b r : Nat} {L done : List (κ × β)} (h : RngA S w b r L done) : NoTwo done := by
  obtain ⟨D, n, left, cnt, h1, h2, h3, h4, _⟩ := h
  exact h3
theorem mergeA_len {κ : Type} [DecidableEq κ] : ∀ (M L : List (κ × C)), (mergeA L M).length ≤ L.length + M.length
  | [], L => by simp [mergeA]
  | q :: M, L => by
    show (mergeA (addA L q.1 q.2) M).length ≤ _
    have h1 := mergeA_len M (addA L q.1 q.2)
    have h2 : (addA L q.1 q.2).length ≤ L.length + 1 := by
      unfold addA; rw [putA_length]; split <;> omega
    rw [List.length_cons]; omega
theorem merge_get_not {κ : Type} [DecidableEq κ] {L M : List (κ × C)} (hL : NoTwo L) (hM : NoTwo M) {x : κ} (hx : x ∉ M.map (·.1)) : getA (mergeA L M) x = getA L x := by
  rw [getA_merge M hL hM, getA_not hx]; rfl
theorem get_ok {κ : Type} [DecidableEq κ] {L : List (κ × C)} (h : ∀ q ∈ L, smallC q.2) (x : κ) : okC ((getA L x).getD (0, 0)) := by
  cases hg : getA L x with
  | none => unfold okC; simp
  | some c => exact (h _ (getA_some hg)).ok
/-- The sizes added up to place k. -/
def upZ (a z : List Int) (k : Nat) : List Int := (addZ a z).take k ++ a.drop k
theorem upZ_zero (a z : List Int) : upZ a z 0 = a := by simp [upZ]
theorem addZ_at {a z : List Int} {k : Nat} {x y : Int} (hx : a[k]? = some x) (hy : z[k]? = some y) : (addZ a z)[k]? = some (x + y) := by
  unfold addZ
  rw [List.getElem?_zipWith, hx, hy]
theorem upZ_get {a z : List Int} {k : Nat} {x : Int} (hl : a.length = z.length) (hx : a[k]? = some x) : (upZ a z k)[k]? = some x := by
  have hk := (List.getElem?_eq_some_iff.1 hx).1
  have e : ((addZ a z).take k).length = k := by unfold addZ; rw [List.length_take, List.length_zipWith]; omega
  unfold upZ
  rw [List.getElem?_append_right (by omega), e, Nat.sub_self, List.getElem?_drop, Nat.add_zero]; exact hx
theorem upZ_set {a z : List Int} {k : Nat} {x y : Int} (hl : a.length = z.length) (hx : a[k]? = some x) (hy : z[k]? = some y) : (upZ a z k).set k (x + y) = upZ a z (k + 1) := by
  have hk := (List.getElem?_eq_some_iff.1 hx).1
  have hal : (addZ a z).length = a.length := by unfold addZ; rw [List.length_zipWith]; omega
  have e : ((addZ a z).take k).length = k := by rw [List.length_take, hal]; omega
  have h2 := addZ_at hx hy
  unfold upZ
  rw [List.set_append_right _ _ (by omega), e, Nat.sub_self, take_snoc h2, List.append_assoc]
  congr 1
  rw [List.drop_eq_getElem_cons hk]
  simp only [List.set_cons_zero, List.singleton_append]
theorem upZ_end {a z : List Int} (hl : a.length = z.length) : upZ a z a.length = addZ a z := by
  have hal : (addZ a z).length = a.length := by unfold addZ; rw [List.length_zipWith]; omega
  unfold upZ
  rw [List.drop_length, List.append_nil, List.take_of_length_le (by omega)]
theorem upZ_len {a z : List Int} (hl : a.length = z.length) (k : Nat) (hk : k ≤ a.length) : (upZ a z k).length = a.length := by
  have hal : (addZ a z).length = a.length := by unfold addZ; rw [List.length_zipWith]; omega
  unfold upZ
  rw [List.length_append, List.length_take, List.length_drop, hal]; omega
set_option maxRecDepth 100000 in
set_option maxHeartbeats 16000000 in
theorem merge_any (p bd bn q be bm : Nat) (ds ds' : List (Int × C)) (ns ns' : List (Ky × C)) (zs zs' : List Int) (w : World) (h : StM w p bd bn ds ns zs) (k : StM w q be bm ds' ns' zs') (hd : ∀ q ∈ ds, smallC q.2) (hd' : ∀ q ∈ ds', smallC q.2) (hn : ∀ q ∈ ns, smallC q.2) (hn' : ∀ q ∈ ns', smallC q.2)
    (ld : ds.length ≤ 100000) (ld' : ds'.length ≤ 100000) (ln : ns.length ≤ 100000) (ln' : ns'.length ≤ 100000) (hz : ∀ k, 0 ≤ zs.getD k 0 ∧ zs.getD k 0 ≤ 1000000000000) (hz' : ∀ k, 0 ≤ zs'.getD k 0 ∧ zs'.getD k 0 ≤ 1000000000000) (ht : 0 ≤ (sumC (ds.map (·.2))).1) (ht' : 0 ≤ (sumC (ds'.map (·.2))).1) (hs : (sumC (ds.map (·.2))).1 + (sumC (ds'.map (·.2))).1 ≤ 1000000) :
    Calls Tryz.prog 23 #[.pointer (some ⟨p, 0, none⟩), .pointer (some ⟨q, 0, none⟩)] w fun e w' => e = .returned (i64 0) ∧ ∃ Ld Ln, Ld.Perm ds' ∧ Ln.Perm ns' ∧ StM w' p bd bn (mergeA ds Ld) (mergeA ns Ln) (addZ zs zs') ∧ ButL [p, bd, bn] w w' := by
  have lp := h.lp
  have lbd := h.ld
  have lbn := h.ln
  have hpd := h.pd
  have hpn := h.pn
  have hdn := h.ne
  have zl := h.zl
  have zl' := k.zl
  have HP := Lib.hid h
  have HQ := Lib.hid k
  have HD := Lib.hid hd
  have HD' := Lib.hid hd'
  have HN := Lib.hid hn
  have HN' := Lib.hid hn'
  have HZ := Lib.hid hz
  have HZ' := Lib.hid hz'
  have T1 := Lib.hid h.md.two
  have T2 := Lib.hid h.mn.two
  obtain ⟨t, hte⟩ : ∃ t, sumC (ds.map (·.2)) = t := ⟨_, rfl⟩
  obtain ⟨t', hte'⟩ : ∃ t, sumC (ds'.map (·.2)) = t := ⟨_, rfl⟩
  rw [hte] at ht hs
  rw [hte'] at ht' hs
  have HTE := Lib.hid hte
  have HTE' := Lib.hid hte'
  obtain ⟨ta, tb⟩ := t
  obtain ⟨ta', tb'⟩ := t'
  simp only at ht ht' hs
  have hfd : ∀ (a b : Int) (u : World), (Instr.field 34 (.agg #[i64 a, i64 b]) 0).run Tryz.prog u = .ok (i64 a) u := fun _ _ _ => by kernel_rfl
  clear h k hd hd' hn hn' hz hz' hte hte'
  go_enter Tryz.func23, Tryz.ntmps23
  go_wp2_with fail
  refine (total_any p bd bn _ _ _ w HP.out HD.out ld).mono ?_; rintro e u1 ⟨rfl, b⟩
  rw [HTE.out]
  have P1 := Lib.hid (HP.out.below b); clear HP
  have Q1 := Lib.hid (HQ.out.below b); clear HQ
  have B1 := Lib.hid b; clear b
  dsimp only [cV]
  go_wp2_with fail
  refine (total_any q be bm _ _ _ u1 Q1.out HD'.out ld').mono ?_; rintro e u2 ⟨rfl, b⟩
  rw [HTE'.out]
  have P2 := Lib.hid (P1.out.below b); clear P1
  have Q2 := Lib.hid (Q1.out.below b); clear Q1
  have B2 := Lib.hid (B1.out.tr b); clear B1 b
  dsimp only [cV]
  go_wp2_with fail
  refine (clone_any q be bm _ _ _ u2 Q2.out).mono ?_; rintro e u3 ⟨cq, cbe, cbm, rfl, hst, b, g1, g2, g3⟩
  have P3 := Lib.hid (P2.out.below b); clear P2 Q2
  have C3 := Lib.hid hst; clear hst
  have hs2 := B2.out.size
  have B3 := Lib.hid (ButL.of_below (R := [p, bd, bn]) (B2.out.tr b)); clear B2 b
  have g1 : w.heap.size ≤ cq := by omega
  have g2 : w.heap.size ≤ cbe := by omega
  have g3 : w.heap.size ≤ cbm := by omega
  have hs3 := B3.out.size
  have lq := C3.out.lp
  have lbe := C3.out.ld
  have lbm := C3.out.ln
  have hc0 := C3.out.c0
  go_upto_block 0 with (first | (at_range; refine wpList_range_a _ rfl _ 69 rfl dayK 34 Tryz.underlying69 cbe ds' rfl C3.out.md ?_; intro w0 hrg0 hg0 hs0) | go_in)
  try go_frame
  have P4 := Lib.hid (P3.out.grown hg0 (by intro e; cases e) (by intro e; cases e) (by intro e; cases e)); clear P3
  have C4 := Lib.hid (C3.out.grown hg0 (by intro e; cases e) (by intro e; cases e) (by intro e; cases e)); clear C3
  have B4 := Lib.hid (B3.out.trans (ButL.grown (R := [p, bd, bn]) hg0 (fun k hk => by cases hk))); clear B3
  obtain ⟨rr, hrr⟩ : ∃ n, u3.heap.size = n := ⟨_, rfl⟩
  rw [hrr] at hrg0 hs0 ⊢
  have hrl : w.heap.size ≤ rr ∧ cq < rr ∧ cbe < rr ∧ cbm < rr := by omega
  have R0 := Lib.hid hrg0
  clear hrg0 hg0 hs0 hc0 hrr
  go_cut [] (fun wx => ∃ done, Hid (done.Perm ds') ∧ Hid (StM wx p bd bn (mergeA ds done) ns zs) ∧ Hid (StM wx cq cbe cbm ds' ns' zs') ∧ Hid (ButL [p, bd, bn] w wx) ∧ rr < wx.heap.size)
  case first =>
    go_wp2_with fail
    go_loopg [6] ds'.length (fun gg cv wr => ∃ done, ds'.length - done.length ≤ gg ∧ Hid (RngA dayK wr cbe rr ds' done) ∧ Hid (StM wr p bd bn (mergeA ds done) ns zs) ∧ Hid (StM wr cq cbe cbm ds' ns' zs') ∧ Hid (ButL [p, bd, bn] w wr))
    case atStart => exact ⟨[], by simp, R0, P4, C4, B4⟩
    case round =>
      obtain ⟨done, hgg, R, P, Q, BT⟩ := hrel
      clear R0 P4 C4 B4
      go_wp2_with (first | (at_next; refine wpList_next_day rfl _ rfl cbe rr ds' done rfl R.out ?_ ?_) | go_in)
      · intro hp
        have HPm := Lib.hid hp
        have hrs := R.out.lt
        clear hp
        go_wp2_with fail
        go_meet
        exact ⟨done, HPm, P, Q, BT, hrs⟩
      · intro x c1 c2 w1 hmem hnd hwf R4 hg4 hs4 hen
        have P5 := Lib.hid (P.out.grown hg4 (by intro e; injection e with e; omega) (by intro e; injection e with e; omega) (by intro e; injection e with e; omega))
        have Q5 := Lib.hid (Q.out.grown hg4 (by intro e; injection e with e; omega) (by intro e; injection e with e; omega) (by intro e; injection e with e; omega))
        have BT5 := Lib.hid (BT.out.late (ButL.grown (R := [rr]) hg4 (fun k hk => by cases hk; simp)) (fun b hb => by simp at hb; omega))
        have HR5 := Lib.hid R4
        have hcs := HD'.out _ hmem
        have hold := get_ok HD.out x
        rw [← merge_get_not T1.out R.out.doneTwo (fun h => by
          obtain ⟨⟨k', e1, e2⟩, hq, he⟩ := List.mem_map.1 h
          simp only at he
          subst he
          exact hnd _ _ hq)] at hold
        have hml := mergeA_len done ds
        have hdl := R.out.len
        have MS : Hid (mergeA ds (done ++ [(x, (c1, c2))]) = addA (mergeA ds done) x (c1, c2)) := Lib.hid (mergeA_snoc ds done _)
        have HCS := Lib.hid hcs
        have HOLD := Lib.hid hold
        clear hmem hnd R4 hg4 hs4 R P Q BT hcs hold
        go_wp2_with fail
        have b2x := below_new w1 (.cells #[i64 c1, i64 c2] 34)
        have P6 := Lib.hid (P5.out.below b2x)
        have Q6 := Lib.hid (Q5.out.below b2x)
        have BT6 := Lib.hid (BT5.out.trans (ButL.of_below b2x))
        have HR6 := Lib.hid (HR5.out.below b2x)
        clear P5 Q5 BT5 HR5 b2x
        generalize w1.alloc _ = w5 at *
        refine (count_any p bd bn _ _ _ x (c1, c2) w5 P6.out hwf HCS.out.ok HOLD.out (by omega)).mono ?_; rintro e w6 ⟨rfl, hst, hb⟩
        rw [← MS.out] at hst
        have P7 := Lib.hid hst
        have Q7 := Lib.hid (Q6.out.but hb (by simp; omega) (by simp; omega) (by simp; omega))
        have HR7 := Lib.hid (HR6.out.keep (hb.block cbe HR6.out.map.lt (by simp; omega)) (hb.block rr HR6.out.lt (by simp; omega)))
        have BT7 := Lib.hid (BT6.out.trans (hb.sub (S := [p, bd, bn]) (by simp)))
        clear hst hb P6 Q6 HR6 BT6 MS HCS HOLD
        go_wp2_with fail
        go_roundg (ds'.length - (done.length + 1))
        case measure =>
          have := HR7.out.len
          simp at this
          omega
        case rel => exact ⟨done ++ [(x, (c1, c2))], by simp, HR7, P7, Q7, BT7⟩
  clear R0 P4 C4 B4
  obtain ⟨Ld, HLd, P3, C3, B3, hrx⟩ := hcut
  have hs3 := B3.out.size
  have lq := C3.out.lp
  have lbe := C3.out.ld
  have lbm := C3.out.ln
  have hc0 := C3.out.c1
  go_upto_block 2 with (first | (at_range; refine wpList_range_a _ rfl _ 70 rfl nameK 34 Tryz.underlying70 cbm ns' rfl C3.out.mn ?_; intro w0 hrg0 hg0 hs0) | go_in)
  try go_frame
  have P4 := Lib.hid (P3.out.grown hg0 (by intro e; cases e) (by intro e; cases e) (by intro e; cases e)); clear P3
  have C4 := Lib.hid (C3.out.grown hg0 (by intro e; cases e) (by intro e; cases e) (by intro e; cases e)); clear C3
  have B4 := Lib.hid (B3.out.trans (ButL.grown (R := [p, bd, bn]) hg0 (fun k hk => by cases hk))); clear B3
  obtain ⟨rr, hrr⟩ : ∃ n, wc.heap.size = n := ⟨_, rfl⟩
  rw [hrr] at hrg0 hs0 ⊢
  have hrl : w.heap.size ≤ rr ∧ cq < rr ∧ cbe < rr ∧ cbm < rr := by omega
  have R0 := Lib.hid hrg0
  clear hrg0 hg0 hs0 hc0 hrr
  go_cut [] (fun wx => ∃ done, Hid (done.Perm ns') ∧ Hid (StM wx p bd bn (mergeA ds Ld) (mergeA ns done) zs) ∧ Hid (StM wx cq cbe cbm ds' ns' zs') ∧ Hid (ButL [p, bd, bn] w wx) ∧ rr < wx.heap.size)
  case first =>
    go_wp2_with fail
    go_loopg [8] ns'.length (fun gg cv wr => ∃ done, ns'.length - done.length ≤ gg ∧ Hid (RngA nameK wr cbm rr ns' done) ∧ Hid (StM wr p bd bn (mergeA ds Ld) (mergeA ns done) zs) ∧ Hid (StM wr cq cbe cbm ds' ns' zs') ∧ Hid (ButL [p, bd, bn] w wr))
    case atStart => exact ⟨[], by simp, R0, P4, C4, B4⟩
    case round =>
      obtain ⟨done, hgg, R, P, Q, BT⟩ := hrel
      clear R0 P4 C4 B4
      go_wp2_with (first | (at_next; refine wpList_next_name rfl _ rfl cbm rr ns' done rfl R.out ?_ ?_) | go_in)
      · intro hp
        have HPm := Lib.hid hp
        have hrs := R.out.lt
        clear hp
        go_wp2_with fail
        go_meet
        exact ⟨done, HPm, P, Q, BT, hrs⟩
      · intro x1 x2 x3 c1 c2 w1 hmem hnd hwf R4 hg4 hs4 hen
        have P5 := Lib.hid (P.out.grown hg4 (by intro e; injection e with e; omega) (by intro e; injection e with e; omega) (by intro e; injection e with e; omega))
        have Q5 := Lib.hid (Q.out.grown hg4 (by intro e; injection e with e; omega) (by intro e; injection e with e; omega) (by intro e; injection e with e; omega))
        have BT5 := Lib.hid (BT.out.late (ButL.grown (R := [rr]) hg4 (fun k hk => by cases hk; simp)) (fun b hb => by simp at hb; omega))
        have HR5 := Lib.hid R4
        have hcs := HN'.out _ hmem
        have hold := get_ok HN.out (x1, x2, x3)
        rw [← merge_get_not T2.out R.out.doneTwo (fun h => by
          obtain ⟨⟨k', e1, e2⟩, hq, he⟩ := List.mem_map.1 h
          simp only at he
          subst he
          exact hnd _ _ hq)] at hold
        have hml := mergeA_len done ns
        have hdl := R.out.len
        have MS : Hid (mergeA ns (done ++ [((x1, x2, x3), (c1, c2))]) = addA (mergeA ns done) (x1, x2, x3) (c1, c2)) := Lib.hid (mergeA_snoc ns done _)
        have HCS := Lib.hid hcs
        have HOLD := Lib.hid hold
        clear hmem hnd R4 hg4 hs4 R P Q BT hcs hold
        go_wp2_with fail
        have b2x := (below_new w1 (.cells #[i64 x1, i64 x2, enS x3] 74)).tr (below_new _ (.cells #[i64 c1, i64 c2] 34))
        have P6 := Lib.hid (P5.out.below b2x)
        have Q6 := Lib.hid (Q5.out.below b2x)
        have BT6 := Lib.hid (BT5.out.trans (ButL.of_below b2x))
        have HR6 := Lib.hid (HR5.out.below b2x)
        clear P5 Q5 BT5 HR5 b2x
        generalize World.alloc (w1.alloc _) _ = w5 at *
        refine (countName_any p bd bn _ _ _ (x1, x2, x3) (c1, c2) w5 P6.out hwf HCS.out.ok HOLD.out (by omega)).mono ?_; rintro e w6 ⟨rfl, hst, hb⟩
        rw [← MS.out] at hst
        have P7 := Lib.hid hst
        have Q7 := Lib.hid (Q6.out.but hb (by simp; omega) (by simp; omega) (by simp; omega))
        have HR7 := Lib.hid (HR6.out.keep (hb.block cbm HR6.out.map.lt (by simp; omega)) (hb.block rr HR6.out.lt (by simp; omega)))
        have BT7 := Lib.hid (BT6.out.trans (hb.sub (S := [p, bd, bn]) (by simp)))
        clear hst hb P6 Q6 HR6 BT6 MS HCS HOLD
        go_wp2_with fail
        go_roundg (ns'.length - (done.length + 1))
        case measure =>
          have := HR7.out.len
          simp at this
          omega
        case rel => exact ⟨done ++ [((x1, x2, x3), (c1, c2))], by simp, HR7, P7, Q7, BT7⟩
  clear R0 P4 C4 B4
  obtain ⟨Ln, HLn, P3, C3, B3, hrx⟩ := hcut
  have hs3 := B3.out.size
  obtain ⟨Z, hZ⟩ : ∃ Z, (zs'.map i64).toArray = Z := ⟨_, rfl⟩
  have HZe := Lib.hid hZ
  have HZs : Hid (Z.size = 18) := Lib.hid (by (show _ = _); rw [← hZ]; simpa using zl')
  have HS : Hid ((Tryz.prog.info? 63).map (·.size) = some 18) := Lib.hid (by kernel_rfl)
  have hsz : (zs'.map i64).length = 18 := by rw [List.length_map]; exact zl'
  clear hZ
  go_wp2_with (refine wpList_load_mid rfl 63 _ rfl cq 2 rfl (zs'.map i64) _ C3.out.rz Tryz.underlying63 rfl (by rw [hsz]; exact HS.out) ?_)
  rw [show (zs'.map i64).toArray = Z from HZe.out]
  have P3' : Hid (StM wc p bd bn (mergeA ds Ld) (mergeA ns Ln) (upZ zs zs' 0)) := by rw [upZ_zero]; exact P3
  clear P3
  go_loopg [60] 18 (fun gg kv wr => ∃ j : Nat, j ≤ 18 ∧ 18 - j ≤ gg ∧ kv = i64 j ∧ Hid (StM wr p bd bn (mergeA ds Ld) (mergeA ns Ln) (upZ zs zs' j)) ∧ Hid (ButL [p, bd, bn] w wr))
  case atStart => exact ⟨0, by omega, by omega, rfl, P3', B3⟩
  case round =>
    obtain ⟨j, hj, hgj, rfl, P, BT⟩ := hrel
    clear P3' B3
    by_cases hlt : j < 18
    · obtain ⟨x, hx⟩ : ∃ x, zs[j]? = some x := ⟨_, List.getElem?_eq_getElem (by omega)⟩
      obtain ⟨y, hy⟩ : ∃ y, zs'[j]? = some y := ⟨_, List.getElem?_eq_getElem (by omega)⟩
      have hxb := HZ.out j
      rw [List.getD_eq_getElem?_getD, hx] at hxb
      have hyb := HZ'.out j
      rw [List.getD_eq_getElem?_getD, hy] at hyb
      simp only [Option.getD_some] at hxb hyb
      have hll : zs.length = zs'.length := by omega
      have HU := Lib.hid (upZ_set hll hx hy)
      have hg := upZ_get hll hx
      have hz := P.out.cz hlt
      rw [List.getD_eq_getElem?_getD, hg] at hz
      simp only [Option.getD_some] at hz
      have HCZ := Lib.hid hz
      have HZx : Hid (Z[j]? = some (i64 y)) := Lib.hid (by (show _ = _); rw [← HZe.out, List.getElem?_toArray, List.getElem?_map, hy]; rfl)
      clear hx hy hg hz
      go_wp2_with (refine wpList_index18 rfl _ _ rfl Z HZs.out j hlt (i64 y) HZx.out rfl rfl ?_)
      refine Flow.wp_region_pre Flow.Later Flow.Later.refl Flow.Later.trans [11] (.held [0, 1, 2, 3, 4, 5, 6, 7] (.pure [8, 9, 10] (.tail (.step [] 11 (.done []))))) (by kernel_rfl) (by kernel_rfl) ?_
      have bq : Below wr.heap.size wr (World.drew wr) := (Below.refl _ _).drew
      have P2 := Lib.hid (P.out.below bq); clear P
      have BT2 := Lib.hid (BT.out.trans (ButL.of_below bq)); clear BT
      have hz2 := Below.cellv bq HCZ.out
      clear bq
      generalize World.drew wr = wd at *
      have hfz := P2.out.fz (2 + j)
      have qz : ∀ t : Flow.Cls (Flow.Later wd), t.val.cell? _ = some (i64 x) := fun t => Flow.cls_cell hz2 t
      haveI nonE := Flow.cls_nonempty wd
      rw [Flow.wpPre_held]
      simp only [Flow.pick, List.getElem?_toArray, List.getElem?_cons_succ, List.getElem?_cons_zero]
      repeat go_big_quiet_step (fail)
      refine wpQuiet_nil ?_
      clear nonE qz
      haveI nonE := Flow.cls_nonempty_true
      rw [Flow.wpPre_pure]
      simp only [Flow.pick, List.getElem?_toArray, List.getElem?_cons_succ, List.getElem?_cons_zero]
      repeat go_big_quiet_step (fail)
      refine wpQuiet_nil ?_
      clear nonE
      rw [Flow.wpPre_tail, Flow.wpSched_step]
      simp only [Flow.pick]
      refine wpQuiet_nil ?_
      rw [Flow.callAt_eq]
      simp only [List.getElem?_toArray, List.getElem?_cons_succ, List.getElem?_cons_zero]
      rw [if_pos (by rfl)]
      refine Flow.wp_behind (fun K hK => ?_)
      go_wp2_with fail
      refine hK.out _ _ ⟨trivial, ?_⟩
      clear hK K
      have hul := upZ_len hll j (by omega)
      have P5 := Lib.hid (P2.out.putZ (k := j) (by omega) (x + y))
      rw [HU.out] at P5
      have BT5 := Lib.hid (BT2.out.trans (ButL.setCell wd ⟨p, 2 + j, none⟩ (i64 (x + y)) (by simp)))
      clear P2 BT2 hz2 hfz HCZ
      rw [Flow.wpSched_done]
      simp only [Flow.pick]
      refine wpQuiet_nil ?_
      go_wp2_with fail
      go_roundg (18 - (j + 1))
      case measure => omega
      case rel => exact ⟨j + 1, by omega, by omega, by go_num, P5, BT5⟩
    · obtain rfl : j = 18 := by omega
      have P6 : Hid (StM wr p bd bn (mergeA ds Ld) (mergeA ns Ln) (addZ zs zs')) := by
        have e := upZ_end (a := zs) (z := zs') (by omega)
        rw [zl] at e
        rw [← e]; exact P
      go_wp2_with fail
      go_ret
      exact ⟨rfl, Ld, Ln, HLd.out, HLn.out, P6.out, BT.out⟩
end Go.Proofs.YthgefcoaaommkaaGreatDoor
