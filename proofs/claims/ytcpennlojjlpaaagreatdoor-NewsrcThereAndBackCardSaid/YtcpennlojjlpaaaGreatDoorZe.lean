/- Contracts: slices.Sort and slices.Compact at numbers; the closures of Union, Intersection, Difference.
   Contract of combine.
   Contracts: Union, Intersection, Difference, Add, Remove.
   Contracts: a strings.Builder in texts, Itoa, Set.Text. -/
import Derived.Test.YtcpennlojjlpaaaGreatDoorZd
import Derived.Test.YtcpennlojjlpaaaGreatDoorZa
import Derived.Test.YtcpennlojjlpaaaGreatDoorZc
namespace Go.Proofs.YtcpennlojjlpaaaGreatDoor
open Go.RowKit Go.Nr Go.Sort

/-- The numbers of a row of the call's own, as the library's sort has them. -/
def HI (base : Nat) (w : World) (A : Option Addr) (xs : List Int) : Prop := 0 < xs.length → ∃ g, A = some ⟨g, 0, none⟩ ∧ base ≤ g ∧ g < w.heap.size ∧ Holds (Value.int .i64) w g 0 xs.toArray
theorem HI.rd {base : Nat} {w : World} {A : Option Addr} {xs : List Int} (h : HI base w A xs) : RdI w A xs := fun hp => by
  obtain ⟨g, e, _, hl, hH⟩ := h hp
  refine ⟨g, 0, e, hl, fun j x hj => ?_⟩
  obtain ⟨h1, h2⟩ := List.getElem?_eq_some_iff.1 hj
  have := (hH j (by simpa using h1)).1
  simpa [h1, h2] using this
theorem HI.of_own {w : World} {base c n : Nat} {e : TypeId} {A : Option Addr} {xs : List Int} (h : w.ownsRow base e 1 (.slice A n c) n (xs.map i64)) : HI base w A xs := fun hp => by
  have hn : n = xs.length := by simpa using h.1.symm
  rcases h.2 with ⟨e1, e2⟩ | ⟨g, cap, cur, e1, hb, hg, hcap, hml, hsz, ht⟩
  · omega
  · cases e1
    refine ⟨g, rfl, hb, blk_lt hg, fun j hj => ?_⟩
    simp at hj
    refine ⟨?_, blk_free hg _⟩
    rw [Nat.zero_add, blk_cell hg j]
    have hj' : (xs.map i64)[j]? = some (i64 xs[j]) := by rw [List.getElem?_map, List.getElem?_eq_getElem hj]; rfl
    rw [← ht, List.getElem?_take] at hj'
    split at hj'
    · simp at hj'; simp [hj', hj]
    · cases hj'
theorem holds_pre {w : World} {g : Nat} {xs ys : List Int} (h : Holds (Value.int .i64) w g 0 (xs ++ ys).toArray) : Holds (Value.int .i64) w g 0 xs.toArray := fun j hj => by
  have hj' : j < xs.length := by simpa using hj
  have := h j (by simp; omega)
  have e : (xs ++ ys).toArray[j]! = xs.toArray[j]! := by
    simp only [getElem!_def, List.getElem?_toArray, List.getElem?_append_left hj']
  rw [e] at this
  exact this
theorem sort1_below {B : Nat} (w : World) (blk n : Nat) (d : Array Int) (os : Array Obj) (hB : B ≤ blk) (hw : B ≤ w.heap.size) : RowKit.Below B w (grow (putRow (Value.int .i64) (Sort.ahead w n) blk 0 d) os) := by
  refine ⟨rfl, rfl, rfl, by simp, fun k hk => ?_⟩
  rw [heap_grow_old _ _ (by simp; exact Nat.lt_of_lt_of_le hk hw)]
  have : blk ≠ k := by omega
  simp [putRow, mapBlock, Sort.ahead, Array.getElem?_modify, this]
theorem put1_below {B : Nat} (w : World) (blk n : Nat) (d : Array Int) (hB : B ≤ blk) : RowKit.Below B w (putRow (Value.int .i64) (Sort.ahead w n) blk 0 d) := by
  refine ⟨rfl, rfl, rfl, by simp, fun k hk => ?_⟩
  have : blk ≠ k := by omega
  simp [putRow, mapBlock, Sort.ahead, Array.getElem?_modify, this]
theorem sortI_all (base : Nat) (A : Option Addr) (c : Nat) (xs : List Int) (w : World) (h : HI base w A xs) (hb : base ≤ w.heap.size) (hn : xs.length ≤ 1000000) :
    Calls Tryz.prog 112 #[.slice A xs.length c] w fun e w' => e = .returned (.tuple #[]) ∧ ∃ m : List Int, m.length = xs.length ∧ (∀ x, x ∈ m ↔ x ∈ xs) ∧ m.Pairwise (· ≤ ·) ∧ HI base w' A m ∧ RowKit.Below base w w' := by
  by_cases h0 : xs = []
  · subst h0
    refine (Tryz.slices_Sort_int_none A c w).mono fun e w' ⟨h1, h2⟩ => ⟨h1, [], rfl, fun _ => Iff.rfl, by simp, fun hp => absurd hp (by simp), by rw [h2]; exact RowKit.Below.refl _ _⟩
  · obtain ⟨g, rfl, hg1, hg2, hH⟩ := h (List.length_pos_iff.2 h0)
    refine (Tryz.slices_Sort_int g 0 c xs w hH hg2 (by omega)).mono fun e w' ⟨h1, n, os, h2⟩ => ⟨h1, xs.mergeSort fun x y => decide (x ≤ y), by simp, fun x => by simp, ?_, fun _ => ⟨g, rfl, hg1, ?_, ?_⟩, ?_⟩
    · have := List.pairwise_mergeSort (le := fun x y : Int => decide (x ≤ y)) (fun a b c h1 h2 => by simp at *; omega) (fun a b => by simp; omega) xs
      exact this.imp fun h => by simpa using h
    · rw [h2]; simp; omega
    · rw [h2]
      exact holds_grow (Value.int .i64) _ _ _ _ _ (by simpa using hg2) (holds_putRow (Value.int .i64) (Sort.ahead w n) g 0 xs.toArray _ hH (by simp))
    · rw [h2]; exact sort1_below w g n _ os hg1 hb
/-- The order of numbers. -/
def icmp (a b : Int) : Int := if a < b then -1 else if a = b then 0 else 1
theorem icmp_cases (a b : Int) : (a < b ∧ icmp a b = -1) ∨ (a = b ∧ icmp a b = 0) ∨ (b < a ∧ icmp a b = 1) := by
  unfold icmp
  rcases Int.lt_trichotomy a b with h | h | h
  · exact .inl ⟨h, by rw [if_pos h]⟩
  · exact .inr (.inl ⟨h, by rw [if_neg (by omega), if_pos h]⟩)
  · exact .inr (.inr ⟨h, by rw [if_neg (by omega), if_neg (by omega)]⟩)
theorem icmp_lin : Go.Gn.Lin icmp where
  zero a b := by have := icmp_cases a b; omega
  anti a b := by have := icmp_cases a b; have := icmp_cases b a; omega
  trans a b d := by have := icmp_cases a b; have := icmp_cases b d; have := icmp_cases a d; omega
  lo a b := by have := icmp_cases a b; omega
  hi a b := by have := icmp_cases a b; omega
theorem compactI (m : List Int) (h : m.Pairwise (· ≤ ·)) : (Lib.compact m).Pairwise (· < ·) ∧ ∀ x, x ∈ Lib.compact m ↔ x ∈ m := by
  have := Go.Gn.compact_inc icmp_lin m (h.imp fun {a b} hab => by have := icmp_cases a b; omega)
  exact ⟨this.1.imp fun {a b} hab => by have := icmp_cases a b; omega, this.2⟩
theorem compactI_length (zs : List Int) : (Lib.compact zs).length ≤ zs.length := by
  unfold Lib.compact Lib.compactUpTo
  rw [List.length_map]
  exact Nat.le_trans (List.length_filter_le _ _) (by simp)
theorem compactI_all (base : Nat) (A : Option Addr) (c : Nat) (m : List Int) (w : World) (h : HI base w A m) (hc : m.length ≤ c) (hn : m.length ≤ 1000000) :
    Calls Tryz.prog 113 #[.slice A m.length c] w fun e w' => e = .returned (.slice A (Lib.compact m).length c) ∧ HI base w' A (Lib.compact m) ∧ RowKit.Below base w w' := by
  by_cases h0 : m = []
  · subst h0
    have e0 : Lib.compact ([] : List Int) = [] := rfl
    rw [e0]
    refine (Tryz.slices_Compact_int_empty A c w).mono fun e w' ⟨h1, h2⟩ => ⟨h1, fun hp => absurd hp (by simp), by rw [h2]; exact RowKit.Below.refl _ _⟩
  · obtain ⟨g, rfl, hg1, hg2, hH⟩ := h (List.length_pos_iff.2 h0)
    refine (Tryz.slices_Compact_int g 0 c m w hH (by omega) hc).mono fun e w' ⟨h1, q, h2⟩ => ⟨h1, fun _ => ⟨g, rfl, hg1, ?_, ?_⟩, ?_⟩
    · rw [h2]; simpa using hg2
    · rw [h2]
      exact holds_pre (holds_putRow (Value.int .i64) (Sort.ahead w q) g 0 m.toArray _ hH (by have := compactI_length m; simp; omega))
    · rw [h2]; exact put1_below w g q _ hg1

/-- A function of two truths. -/
def KeepAt (g : Nat) (f : Bool → Bool → Bool) : Prop := (∀ args w, (callFunc g args).run Tryz.prog w = .ok (.enter g args) w) ∧ ∀ (a b : Bool) (W : World), Calls Tryz.prog g #[.bool a, .bool b] W fun e w' => e = .returned (.bool (f a b)) ∧ W = w'
theorem keepOr : KeepAt 76 (fun a b => a || b) := by
  refine ⟨enters_of Tryz.func76 (by kernel_rfl) rfl, fun a b W => ?_⟩
  cases a <;> cases b
  all_goals
    go_enter Tryz.func76, Tryz.ntmps76
    go_wp2
    go_ret
    exact ⟨rfl, rfl⟩
theorem keepAnd : KeepAt 77 (fun a b => a && b) := by
  refine ⟨enters_of Tryz.func77 (by kernel_rfl) rfl, fun a b W => ?_⟩
  cases a <;> cases b
  all_goals
    go_enter Tryz.func77, Tryz.ntmps77
    go_wp2
    go_ret
    exact ⟨rfl, rfl⟩
theorem keepNot : KeepAt 78 (fun a b => a && !b) := by
  refine ⟨enters_of Tryz.func78 (by kernel_rfl) rfl, fun a b W => ?_⟩
  cases a <;> cases b
  all_goals
    go_enter Tryz.func78, Tryz.ntmps78
    go_wp2
    go_ret
    exact ⟨rfl, rfl⟩
end Go.Proofs.YtcpennlojjlpaaaGreatDoor

namespace Go.Proofs.YtcpennlojjlpaaaGreatDoor
open Go.RowKit Go.Nr

theorem cuts_snoc (p : Int → Bool) : ∀ (bs : List Int) (x y : Int), cuts p (bs ++ [x] ++ [y]) = cuts p (bs ++ [x]) ++ (if p x then [(x, y - 1)] else [])
  | [], x, y => by simp [cuts]
  | [b], x, y => by
    have := cuts_snoc p [] x y
    simp only [List.nil_append] at this
    show cuts p (b :: x :: [y]) = cuts p (b :: x :: []) ++ _
    unfold cuts
    rw [show cuts p (x :: [y]) = cuts p [x] ++ (if p x then [(x, y - 1)] else []) from this]
    split <;> simp
  | b :: b' :: bs, x, y => by
    have := cuts_snoc p (b' :: bs) x y
    show cuts p (b :: b' :: (bs ++ [x] ++ [y])) = cuts p (b :: b' :: (bs ++ [x])) ++ _
    unfold cuts
    rw [show cuts p (b' :: (bs ++ [x] ++ [y])) = cuts p (b' :: (bs ++ [x])) ++ (if p x then [(x, y - 1)] else []) from this]
    split <;> simp
theorem cuts_step (p : Int → Bool) {bs : List Int} {i : Nat} {x y : Int} (hx : bs[i]? = some x) (hy : bs[i + 1]? = some y) : merge (cuts p (bs.take (i + 1 + 1))) = if p x then app (merge (cuts p (bs.take (i + 1)))) (x, y - 1) else merge (cuts p (bs.take (i + 1))) := by
  obtain ⟨h1, e1⟩ := List.getElem?_eq_some_iff.1 hx
  obtain ⟨h2, e2⟩ := List.getElem?_eq_some_iff.1 hy
  rw [List.take_succ_eq_append_getElem h2, e2, List.take_succ_eq_append_getElem h1, e1, cuts_snoc]
  split
  · rw [merge_snoc]
  · rw [List.append_nil]
theorem cuts_snd (p : Int → Bool) : ∀ (bs : List Int), ∀ r ∈ cuts p bs, ∃ y ∈ bs, r.2 = y - 1
  | [], r, h => by simp [cuts] at h
  | [b], r, h => by simp [cuts] at h
  | b :: c :: t, r, h => by
    unfold cuts at h
    split at h
    · simp at h
      rcases h with rfl | h
      · exact ⟨c, by simp, rfl⟩
      · obtain ⟨y, hy, e⟩ := cuts_snd p (c :: t) r h
        exact ⟨y, by simp at hy ⊢; exact .inr hy, e⟩
    · obtain ⟨y, hy, e⟩ := cuts_snd p (c :: t) r h
      exact ⟨y, by simp at hy ⊢; exact .inr hy, e⟩
theorem merge_snd2 {P : Int → Prop} {m : List Rg} (h : ∀ r ∈ m, P r.2) : ∀ q ∈ merge m, P q.2 := fun q hq => merge_snd m m.length h q (by rw [List.take_length]; exact hq)
theorem ends_take {l : List Rg} {k : Nat} {r : Rg} (h : l[k]? = some r) : ends (l.take (k + 1)) = ends (l.take k) ++ [r.1, r.2 + 1] := by
  obtain ⟨hl, hx⟩ := List.getElem?_eq_some_iff.1 h
  rw [List.take_succ_eq_append_getElem hl, hx]
  simp [ends]
theorem ends_length (l : List Rg) : (ends l).length = l.length * 2 := by
  induction l with
  | nil => rfl
  | cons r l ih =>
    have : ends (r :: l) = [r.1, r.2 + 1] ++ ends l := rfl
    rw [this]; simp [ih]; omega
theorem ends_rng {l : List Rg} (h : ∀ r ∈ l, ok r) : ∀ x ∈ ends l, 1 ≤ x ∧ x ≤ 1099511627777 := by
  intro x hx
  obtain ⟨r, hr, hx⟩ := List.mem_flatMap.1 hx
  obtain ⟨h1, h2, h3⟩ := h r hr
  rw [M_eq] at h3
  simp at hx
  rcases hx with rfl | rfl <;> omega
theorem int_info : (Tryz.prog.info? 3).map (fun i => (i.zero, i.size, i.bytes)) = some (some (i64 0), 1, 8) := by kernel_rfl

theorem cls_cell' {w : World} {p : Addr} {v : Value} (h : w.cell? p = some v) (t : Cls (fun x => Below w.heap.size w x)) : t.val.cell? p = some v := Below.cellv t.ok h
/-- The bounds of the first of two sets. -/
def preE (a b : List Rg) : Nat → List Int
  | 0 => []
  | 1 => ends a
  | _ => ends a ++ ends b
/-- The boxed arguments and the result's cell. -/
structure Cb (w : World) (A : Option Addr) (c : Nat) (a : List Rg) (B : Option Addr) (d : Nat) (b : List Rg) (W : World) : Prop where
  ha : W.heap[w.heap.size]? = some (.cells #[.slice A a.length c] 26 (0, 0))
  hb : W.heap[w.heap.size + 1]? = some (.cells #[.slice B b.length d] 26 (0, 0))
  hr : W.heap[w.heap.size + 1 + 1]? = some (.cells #[.slice none 0 0] 26 (0, 0))
  below : Below w.heap.size w W
theorem Cb.keep {w : World} {A : Option Addr} {c : Nat} {a : List Rg} {B : Option Addr} {d : Nat} {b : List Rg} {W W' : World} {base : Nat} (h : Cb w A c a B d b W) (hB : w.heap.size + 1 + 1 < base) (hb : Below base W W') : Cb w A c a B d b W' :=
  ⟨(hb.block _ (by omega)).trans h.ha, (hb.block _ (by omega)).trans h.hb, (hb.block _ (by omega)).trans h.hr, h.below.trans (hb.mono (by omega))⟩
theorem Cb.tr {w : World} {A : Option Addr} {c : Nat} {a : List Rg} {B : Option Addr} {d : Nat} {b : List Rg} {W W' : World} (h : Cb w A c a B d b W) (hb : Below W.heap.size W W') : Cb w A c a B d b W' := h.keep (blk_lt h.hr) hb

set_option maxRecDepth 100000 in
set_option maxHeartbeats 8000000 in
theorem combine_any (g : Nat) (f : Bool → Bool → Bool) (hg : KeepAt g f) (hf : f false false = false) (A B : Option Addr) (c d : Nat) (a b : List Rg) (w : World) (ha : RdR w A a) (hb : RdR w B b) (hoa : Okset a) (hob : Okset b) (hn : a.length + b.length ≤ 2000)
    (T : List Rg) (hT : ∀ S, Nrm S → (∀ n, has S n = f (has a n) (has b n)) → S = T) :
    Calls Tryz.prog 75 #[.agg #[.slice A a.length c], .agg #[.slice B b.length d], .func (.func g) #[] #[]] w (GivesSet w T 0) := by
  obtain ⟨i0, hi, hz0, hz1, hz2⟩ := info_parts int_info
  have HA := Lib.hid ha; clear ha
  have HB := Lib.hid hb; clear hb
  have HOA := Lib.hid hoa; clear hoa
  have HOB := Lib.hid hob; clear hob
  have HG := Lib.hid hg; clear hg
  have HT := Lib.hid hT; clear hT
  have HF := Lib.hid hf; clear hf
  go_enter Tryz.func75, Tryz.ntmps75
  go_wp2_with fail
  have hB0 : Below w.heap.size w ((((w.alloc (.cells #[.slice A a.length c] 26)).alloc (.cells #[.slice B b.length d] 26)).alloc (.cells #[.slice none 0 0] 26)).alloc (.cells #[.slice A a.length c, .slice B b.length d] 26)) := (((below_new _ _).tr (below_new _ _)).tr (below_new _ _)).tr (below_new _ _)
  have hC0 : Cb w A c a B d b ((((w.alloc (.cells #[.slice A a.length c] 26)).alloc (.cells #[.slice B b.length d] 26)).alloc (.cells #[.slice none 0 0] 26)).alloc (.cells #[.slice A a.length c, .slice B b.length d] 26)) := by
    refine ⟨blk_old _ (blk_old _ (blk_old _ (blk_new w _))), ?_, ?_, hB0⟩
    · have := blk_new (w.alloc (.cells #[.slice A a.length c] 26)) (.cells #[.slice B b.length d] 26)
      rw [World.size_alloc] at this
      exact blk_old _ (blk_old _ this)
    · have := blk_new ((w.alloc (.cells #[.slice A a.length c] 26)).alloc (.cells #[.slice B b.length d] 26)) (.cells #[.slice none 0 0] 26)
      rw [World.size_alloc, World.size_alloc] at this
      exact blk_old _ this
  have harr := blk_new (((w.alloc (.cells #[.slice A a.length c] 26)).alloc (.cells #[.slice B b.length d] 26)).alloc (.cells #[.slice none 0 0] 26)) (.cells #[.slice A a.length c, .slice B b.length d] 26)
  rw [World.size_alloc, World.size_alloc, World.size_alloc] at harr
  have hsz0 : ((((w.alloc (.cells #[.slice A a.length c] 26)).alloc (.cells #[.slice B b.length d] 26)).alloc (.cells #[.slice none 0 0] 26)).alloc (.cells #[.slice A a.length c, .slice B b.length d] 26)).heap.size = w.heap.size + 4 := by simp
  have HC0 := Lib.hid hC0
  have HARR := Lib.hid harr
  have HSZ := Lib.hid hsz0
  clear hC0 harr hsz0 hB0
  generalize (((w.alloc (.cells #[.slice A a.length c] 26)).alloc (.cells #[.slice B b.length d] 26)).alloc (.cells #[.slice none 0 0] 26)).alloc (.cells #[.slice A a.length c, .slice B b.length d] 26) = u0 at *
  have hu0 : w.heap.size + 4 ≤ u0.heap.size := by rw [HSZ.out]; omega
  have hit : Hid (∀ i, i < 2 → ∃ (A' : Option Addr) (c' : Nat) (l' : List Rg), (#[Value.slice A a.length c, Value.slice B b.length d] : Array Value)[i]? = some (.slice A' l'.length c') ∧ RdR w A' l' ∧ Okset l' ∧ preE a b (i + 1) = preE a b i ++ ends l' ∧ l'.length ≤ 2000 ∧ (preE a b i).length + l'.length * 2 ≤ 4000) := by
    intro i hi
    have e1 := ends_length a
    match i, hi with
    | 0, _ => exact ⟨A, c, a, rfl, HA.out, HOA.out, by simp [preE], by omega, by simp [preE]; omega⟩
    | 1, _ => exact ⟨B, d, b, rfl, HB.out, HOB.out, by simp [preE], by omega, by simp [preE]; omega⟩
  have hp2 : (preE a b 2).length ≤ 4000 := by
    show (ends a ++ ends b).length ≤ 4000
    rw [List.length_append, ends_length, ends_length]; omega
  go_loopg [8, 19] 2 (fun gg bv iv wr => ∃ (i : Nat) (A1 : Option Addr) (c1 : Nat), i ≤ 2 ∧ 2 - i ≤ gg ∧ iv = .int .i64 i ∧ bv = .slice A1 (preE a b i).length c1 ∧ Hid (wr.ownsRow (w.heap.size + 4) 3 1 (.slice A1 (preE a b i).length c1) (preE a b i).length ((preE a b i).map i64)) ∧ Below (w.heap.size + 4) u0 wr)
  case atStart => exact ⟨0, none, 0, by omega, by omega, rfl, rfl, own2_nil _ _ _ _, Below.refl _ _⟩
  case round =>
    obtain ⟨i, A1, c1, hi2, hgi, rfl, rfl, O, hBr⟩ := hrel
    by_cases hlt : i < 2
    · obtain ⟨A', c', l', harr', hr', ho', hpre, hl', hlen⟩ := hit.out i hlt
      have harr := (hBr.block _ (by omega)).trans HARR.out
      have hcell := blk_cell harr i
      rw [harr'] at hcell
      have HPRE := Lib.hid hpre
      have HR' := Lib.hid (fun W (hb : Below (w.heap.size + 4) u0 W) => hr'.below (HC0.out.below.trans (hb.mono (by omega))))
      have HO' := Lib.hid ho'
      have hsr := hBr.size
      clear harr harr' hr' ho' hpre
      obtain ⟨pi, hpi⟩ : ∃ q, preE a b i = q := ⟨_, rfl⟩
      rw [hpi] at O HPRE hlen
      rw [hpi]
      clear hpi
      go_wp2_with fail
      clear hcell
      rw [show decide ((i : Int) < 2) = true from decide_eq_true (by omega)]
      have hBr1 : Below (w.heap.size + 4) u0 (wr.alloc (.cells #[.slice A' l'.length c'] 26)) := hBr.alloc (by omega) _
      have O1 := Lib.hid (own_below O.out (below_new wr (.cells #[.slice A' l'.length c'] 26)))
      go_loopg [8, 26] l'.length (fun gg bv kv wq => ∃ (k : Nat) (A2 : Option Addr) (c2 : Nat), k ≤ l'.length ∧ l'.length - k ≤ gg ∧ kv = .int .i64 k ∧ bv = .slice A2 (pi.length + k * 2) c2 ∧ Hid (wq.ownsRow (w.heap.size + 4) 3 1 (.slice A2 (pi.length + k * 2) c2) (pi.length + k * 2) (pi.map i64 ++ (ends (l'.take k)).map i64)) ∧ Below (w.heap.size + 4) u0 wq)
      case atStart =>
        have h0 := O1.out
        rw [show pi.map i64 = pi.map i64 ++ (ends (l'.take 0)).map i64 by simp [ends]] at h0
        exact ⟨0, A1, c1, by omega, by omega, rfl, rfl, Lib.hid h0, hBr1⟩
      case round =>
        obtain ⟨k, A2, c2, hk, hgk, rfl, rfl, Oq, hBq⟩ := hrel
        by_cases hltk : k < l'.length
        · obtain ⟨b1, o1, x, rfl, _, hxk, hx1, hx2⟩ := (HR'.out _ hBq).at_ hltk
          have het := ends_take hxk
          have HET := Lib.hid het
          obtain ⟨h1, h2, h3⟩ := HO'.out.2 x (List.mem_of_getElem? hxk)
          rw [M_eq] at h3
          obtain ⟨x1, x2⟩ := x
          simp only at hx1 hx2 h1 h2 h3
          have hsq := hBq.size
          clear het hxk
          go_wp2_with (at_builtin; refine wpList_append_own _ rfl _ _ 57 rfl (w.heap.size + 4) 3 i0 (i64 0) 1 8 Tryz.underlying57 hi hz0 hz1 hz2 rfl (by decide) (.slice A2 (pi.length + k * 2) c2) (pi.length + k * 2) (pi.map i64 ++ (ends (l'.take k)).map i64) rfl ?own ⟨wr.heap.size + 1, 0, none⟩ 2 2 [i64 x1, i64 (x2 + 1)] rfl rfl ?c1 ?c2 ?c3 ?c4 ?c5 ?_)
          case own => exact own_below (own_below Oq.out (below_new _ _)) (below_new _ _)
          case c2 => exact ⟨rfl, rfl⟩
          case c3 => unfold maxLen; omega
          case c4 => omega
          case c5 => omega
          intro v' w2 hown2 hg2 _
          obtain ⟨A3, c3, rfl⟩ := own2_slice hown2
          have b2 := own_grown_below (own_below (own_below Oq.out (below_new wr (.cells #[i64 x1, i64 x2] 42))) (below_new _ (.cells #[i64 x1, i64 (x2 + 1)] 3))) (by simp; omega) hg2
          have hB2 : Below (w.heap.size + 4) u0 w2 := ((hBq.alloc (by omega) _).alloc (by simp; omega) _).trans b2
          have HO2 := Lib.hid hown2
          clear hown2 hg2 b2
          go_wp2_with fail
          go_roundg (l'.length - (k + 1))
          case measure => omega
          case rel =>
            refine ⟨k + 1, A3, c3, by omega, by omega, by go_num, by rw [show pi.length + (k + 1) * 2 = pi.length + k * 2 + 2 by omega], ?_, hB2⟩
            have h0 := HO2.out
            rw [show (ends (l'.take k)).map i64 ++ [i64 x1, i64 (x2 + 1)] = (ends (l'.take (k + 1))).map i64 by rw [HET.out]; simp] at h0
            rw [show pi.length + (k + 1) * 2 = pi.length + k * 2 + 2 by omega]
            exact Lib.hid h0
        · obtain rfl : k = l'.length := by omega
          rw [List.take_length] at Oq
          have hpl : pi.length + l'.length * 2 = (pi ++ ends l').length := by rw [List.length_append, ends_length]
          rw [hpl, ← List.map_append] at Oq
          rw [hpl]
          clear hpl
          go_wp2_with fail
          go_roundg (2 - (i + 1))
          case measure => omega
          case rel =>
            refine ⟨i + 1, A2, c2, by omega, by omega, by go_num, ?_⟩
            rw [HPRE.out]
            exact ⟨rfl, Oq, hBq⟩
    · obtain rfl : i = 2 := by omega
      obtain ⟨E2, hE2⟩ : ∃ q, preE a b 2 = q := ⟨_, rfl⟩
      have hEm : Hid (∀ x, x ∈ E2 ↔ x ∈ ends a ∨ x ∈ ends b) := fun x => by rw [← hE2]; show x ∈ ends a ++ ends b ↔ _; simp
      have hEr : Hid (∀ x ∈ E2, 1 ≤ x ∧ x ≤ 1099511627777) := fun x hx => by
        rcases (hEm.out x).1 hx with h | h
        · exact ends_rng HOA.out.2 x h
        · exact ends_rng HOB.out.2 x h
      rw [hE2] at O hp2
      rw [hE2]
      clear hE2
      have hC1 := HC0.out.keep (by omega) hBr
      have hI := HI.of_own O.out
      have hEc := (RdI.of_own O.out).2.2
      have hsr := hBr.size
      have hsort := sortI_all (w.heap.size + 4) A1 c1 E2 wr hI (by omega) (by omega)
      have HC1 := Lib.hid hC1
      have HEC := Lib.hid hEc
      clear hC1 hI hEc O hBr
      go_wp2_with fail
      refine hsort.mono ?_; rintro e w3 ⟨rfl, m, hml, hmm, hms, hm3, b3⟩
      clear hsort
      have hC3 := HC1.out.keep (by omega) b3
      have hs3 := b3.size
      have hcomp := compactI_all (w.heap.size + 4) A1 c1 m w3 hm3 (by have := HEC.out; omega) (by omega)
      rw [hml] at hcomp
      have hbs := compactI m hms
      have hbl := compactI_length m
      have HC3 := Lib.hid hC3
      have HMM := Lib.hid hmm
      clear hC3 hm3 hms hmm HC1
      obtain ⟨bs, hbse⟩ : ∃ q, Lib.compact m = q := ⟨_, rfl⟩
      rw [hbse] at hcomp hbs hbl
      have hBP := Lib.hid hbs.1
      have hBM : Hid (∀ x, x ∈ bs ↔ x ∈ ends a ∨ x ∈ ends b) := fun x => by rw [hbs.2, HMM.out, hEm.out]
      have hBR : Hid (∀ x ∈ bs, 1 ≤ x ∧ x ≤ 1099511627777) := fun x hx => hEr.out x (by rw [← HMM.out, ← hbs.2]; exact hx)
      rw [hml] at hbl
      clear hbs hbse hml HMM hEm hEr b3
      go_wp2_with fail
      refine hcomp.mono ?_; rintro e w4 ⟨rfl, hm4, b4⟩
      clear hcomp
      have hC4 := HC3.out.keep (by omega) b4
      have hs4 := b4.size
      have HRI := Lib.hid hm4.rd
      have HC4 := Lib.hid hC4
      clear hC4 HC3 hm4 b4
      have hspec := comb_spec f HF.out a b bs hBP.out hBM.out
      have hT2 := HT.out _ hspec.1 hspec.2
      unfold comb at hT2
      have HT2 := Lib.hid hT2
      have HGE := HG.out.1
      have HP := Lib.hid (cuts_snd (fun n => f (has a n) (has b n)))
      clear hspec hT2 HT
      go_wp2_with fail
      go_loopg [13, 14] bs.length (fun gg ov iv wq => ∃ (j : Nat) (A3 : Option Addr) (c3 : Nat), j ≤ bs.length ∧ bs.length - j ≤ gg ∧ iv = .int .i64 j ∧ ov = .slice A3 (merge (cuts (fun n => f (has a n) (has b n)) (bs.take (j + 1)))).length c3 ∧ Hid (wq.ownsRow w4.heap.size 42 2 (.slice A3 (merge (cuts (fun n => f (has a n) (has b n)) (bs.take (j + 1)))).length c3) (merge (cuts (fun n => f (has a n) (has b n)) (bs.take (j + 1)))).length (flat (merge (cuts (fun n => f (has a n) (has b n)) (bs.take (j + 1)))))) ∧ Below w4.heap.size w4 wq)
      case atStart =>
        have h1 : cuts (fun n => f (has a n) (has b n)) (bs.take (0 + 1)) = [] := by
          cases bs with
          | nil => rfl
          | cons x t => rfl
        refine ⟨0, none, 0, by omega, by omega, rfl, ?_, ?_, Below.refl _ _⟩
        · rw [h1]; rfl
        · rw [h1]; exact own2_nil _ _ _ _
      case round =>
        obtain ⟨j, A3, c3, hj, hgj, rfl, rfl, Oq, hBq⟩ := hrel
        by_cases hlt3 : j + 1 < bs.length
        · obtain ⟨b1, o1, x, rfl, _, hxj, hcx4⟩ := HRI.out.at_ (show j < bs.length by omega)
          obtain ⟨b2, o2, y, e2, _, hyj, hcy4⟩ := HRI.out.at_ hlt3
          cases e2
          have HCX := Lib.hid hcx4
          have HCY := Lib.hid hcy4
          have hcx := Below.cellv hBq hcx4
          have hcy := Below.cellv hBq hcy4
          clear hcx4 hcy4
          have hstep := cuts_step (fun n => f (has a n) (has b n)) hxj hyj
          have hxr := hBR.out x (List.mem_of_getElem? hxj)
          have hyr := hBR.out y (List.mem_of_getElem? hyj)
          obtain ⟨r1, hr1⟩ : ∃ q, merge (cuts (fun n => f (has a n) (has b n)) (bs.take (j + 1))) = q := ⟨_, rfl⟩
          obtain ⟨r2, hr2⟩ : ∃ q, merge (cuts (fun n => f (has a n) (has b n)) (bs.take (j + 1 + 1))) = q := ⟨_, rfl⟩
          rw [hr1, hr2] at hstep
          rw [hr1] at Oq
          rw [hr1]
          have hr1l : r1.length ≤ 4000 := by rw [← hr1]; have := merge_length (cuts (fun n => f (has a n) (has b n)) (bs.take (j + 1))); have := cuts_length (fun n => f (has a n) (has b n)) (bs.take (j + 1)); rw [List.length_take] at this; omega
          have hr1q : ∀ q ∈ r1, 0 ≤ q.2 ∧ q.2 ≤ M := by
            rw [← hr1]
            refine merge_snd2 (P := fun z => 0 ≤ z ∧ z ≤ M) fun r hr => ?_
            obtain ⟨z, hz, e⟩ := HP.out _ r hr
            have := hBR.out z (List.mem_of_mem_take hz)
            rw [M_eq]; omega
          have HR1Q := Lib.hid hr1q
          have HST := Lib.hid hstep
          have HR2 := Lib.hid hr2
          have HXR := Lib.hid hxr
          clear hr1 hr1q hstep hr2 hxr hxj hyj
          have hsq := hBq.size
          have hCq := HC4.out.keep (by omega) hBq
          have hcl : bs.length ≤ 1000000 := by omega
          go_wp2_with fail
          have q1 := cls_cell' (blk_cell hCq.ha 0)
          have q2 := cls_cell' (blk_cell hCq.hb 0)
          have q3 := cls_cell' hcx
          have q4 := cls_cell' hcy
          have H1 : Hid (∀ t : Cls (fun x => Below wr.heap.size wr x), Calls Tryz.prog 35 #[.agg #[.slice A a.length c], i64 x] t.val fun e w' => e = .returned (.bool (has a x)) ∧ Below t.val.heap.size t.val w') := fun t => has_any A c a x t.val ((HA.out.below (HC4.out.below.trans (hBq.mono (by omega)))).below t.ok) HOA.out.1 (by omega)
          have H2 : Hid (∀ t : Cls (fun x => Below wr.heap.size wr x), Calls Tryz.prog 35 #[.agg #[.slice B b.length d], i64 x] t.val fun e w' => e = .returned (.bool (has b x)) ∧ Below t.val.heap.size t.val w') := fun t => has_any B d b x t.val ((HB.out.below (HC4.out.below.trans (hBq.mono (by omega)))).below t.ok) HOB.out.1 (by omega)
          have H3 := Lib.hid HG.out.2
          obtain ⟨pa, hpa⟩ : ∃ q, has a x = q := ⟨_, rfl⟩
          obtain ⟨pb, hpb⟩ : ∃ q, has b x = q := ⟨_, rfl⟩
          rw [hpa] at H1
          rw [hpb] at H2
          have HST2 : Hid (r2 = if f pa pb = true then app r1 (x, y - 1) else r1) := by
            have := HST.out
            rw [hpa, hpb] at this
            exact this
          clear hpa hpb HST
          refine wp_region_class (fun x => Below wr.heap.size wr x) (by kernel_rfl) (by kernel_rfl) (Below.drew (Below.refl _ _)) ?_
          haveI nonE : Nonempty (Cls (fun x => Below wr.heap.size wr x)) := ⟨⟨wr, Below.refl _ _⟩⟩
          repeat go_big_quiet_step (first
            | (go_at_call 35; with_reducible exact Calls.class_below (H1.out _))
            | (go_at_call 35; with_reducible exact Calls.class_below (H2.out _))
            | exact Calls.class_same (H3.out _ _ _))
          refine wpQuiet_nil ?_
          rintro w5 ⟨⟨_, b5⟩, rfl⟩
          clear q1 q2 q3 q4 nonE H1 H2
          have hs5 := b5.size
          cases hfp : f pa pb with
          | false =>
            rw [hfp] at HST2
            go_wp2_with fail
            go_roundg (bs.length - (j + 1))
            case measure => omega
            case rel =>
              refine ⟨j + 1, A3, c3, by omega, by omega, by go_num, ?_⟩
              rw [HR2.out, HST2.out, if_neg (by decide)]
              exact ⟨rfl, own_below Oq.out b5, hBq.tr b5⟩
          | true =>
            rw [hfp, if_pos rfl] at HST2
            go_wp2_with fail
            refine Flow.wp_region_segs (fun u v => Below w4.heap.size u v) (fun _ => Below.refl _ _) (fun u v x h k => Below.trans h k) [([0, 1, 2, 3, 4, 5, 6, 7, 8, 9, 10, 11], 12)] [13] (by kernel_rfl) (by kernel_rfl) ?_
            have HBD := Lib.hid ((hBq.tr b5).drew)
            have HOD := Lib.hid (own_below Oq.out (b5.drew))
            clear b5 hs5 Oq hBq hCq
            generalize hwd : World.drew w5 = wd at *
            clear hwd
            have q3 : ∀ t : Flow.Cls (fun v => Below w4.heap.size wd v), t.val.cell? ⟨b1, o1 + j, none⟩ = some (i64 x) := fun t => Below.cellv (HBD.out.trans t.ok) HCX.out
            have q4 : ∀ t : Flow.Cls (fun v => Below w4.heap.size wd v), t.val.cell? ⟨b1, o1 + (j + 1), none⟩ = some (i64 y) := fun t => Below.cellv (HBD.out.trans t.ok) HCY.out
            haveI nonE : Nonempty (Flow.Cls (fun v => Below w4.heap.size wd v)) := ⟨⟨wd, Below.refl _ _⟩⟩
            rw [Flow.wpSegs_cons]
            simp only [Flow.pick, List.getElem?_toArray, List.getElem?_cons_succ, List.getElem?_cons_zero]
            repeat go_big_quiet_step (fail)
            refine wpQuiet_nil ?_
            clear nonE q3 q4
            rw [Flow.callAt_eq]
            simp only [List.getElem?_toArray, List.getElem?_cons_succ, List.getElem?_cons_zero]
            rw [if_pos (by rfl)]
            refine Flow.wp_behind (fun K hK => ?_)
            have ha6 := appR_any w4.heap.size A3 c3 r1 (x, y - 1) wd HOD.out HBD.out.size (by omega) HR1Q.out
            simp only at ha6
            rw [← HST2.out] at ha6
            go_wp2_with fail
            refine ha6.mono ?_; rintro e w6 ⟨A6, c6, rfl, hown6, b6⟩
            refine hK.out _ _ ⟨b6, ?_⟩
            clear hK K ha6
            have HO6 := Lib.hid hown6
            have HB6 := Lib.hid (HBD.out.trans b6)
            clear hown6 b6
            haveI nonE : Nonempty (Flow.Cls (fun v => Below w4.heap.size w6 v)) := ⟨⟨w6, Below.refl _ _⟩⟩
            rw [Flow.wpSegs_nil]
            simp only [Flow.pick, List.getElem?_toArray, List.getElem?_cons_succ, List.getElem?_cons_zero]
            repeat go_big_quiet_step (fail)
            refine wpQuiet_nil ?_
            clear nonE
            go_wp2_with fail
            go_roundg (bs.length - (j + 1))
            case measure => omega
            case rel =>
              refine ⟨j + 1, A6, c6, by omega, by omega, by go_num, ?_⟩
              rw [HR2.out]
              exact ⟨rfl, HO6.out, HB6.out⟩
        · have htk : cuts (fun n => f (has a n) (has b n)) (bs.take (j + 1)) = cuts (fun n => f (has a n) (has b n)) bs := by rw [List.take_of_length_le (by omega)]
          rw [htk, HT2.out] at Oq
          rw [htk, HT2.out]
          have hTl : T.length ≤ 4000 := by
            rw [← HT2.out]
            have h1 := merge_length (cuts (fun n => f (has a n) (has b n)) bs)
            have h2 := cuts_length (fun n => f (has a n) (has b n)) bs
            omega
          have hlm := limited_any A3 T.length c3 wr (by omega)
          have hCq := HC4.out.keep (by omega) hBq
          have HCQ := Lib.hid hCq
          have hsq := hBq.size
          clear htk hCq HGE
          go_wp2_with fail
          refine hlm.mono ?_; rintro e w5 ⟨rfl, b5⟩
          clear hlm
          have hC5 := HCQ.out.tr b5
          have hrc := blk_cell hC5.hr 0
          have hrf := blk_free hC5.hr 0
          have HC5 := Lib.hid hC5
          clear hC5 HCQ
          go_wp2_with fail
          refine bodyPost_ret (v := .tuple #[.agg #[.slice A3 T.length c3], i64 0]) (by simp [results, Tryz.results75, go_sem, hrc]) rfl ?_
          have ho5 := own_below Oq.out b5
          have ho6 := own_keep (w' := w5.setCell ⟨w.heap.size + 1 + 1, 0, none⟩ (.slice A3 T.length c3)) ho5 (fun k _ e => blk_set_ne 0 _ (by have := (ho5.lt k e).1; omega))
          exact ⟨A3, c3, rfl, (RdR.of_own ho6).1, SlR.of_own ho6, own_new ho6 (by omega), HC5.out.below.setCell (show w.heap.size ≤ w.heap.size + 1 + 1 by omega) _⟩
end Go.Proofs.YtcpennlojjlpaaaGreatDoor

namespace Go.Proofs.YtcpennlojjlpaaaGreatDoor
open Go.RowKit Go.Nr

theorem gives_wrap {w w1 w2 : World} {A : Option Addr} {c b : Nat} {S : List Rg} {er : Int} (hb : Below w.heap.size w w1) (h0 : w.heap.size ≤ b) (h1 : b < w1.heap.size) (hr : RdR w2 A S) (hs : SlR A c S.length) (hn : ∀ a, A = some a → w1.heap.size ≤ a.block ∧ Ty w2 a.block 42) (b2 : Below w1.heap.size w1 w2) (v : Value) :
    GivesSet w S er (.returned (.tuple #[.agg #[.slice A S.length c], i64 er])) (w2.setCell ⟨b, 0, none⟩ v) :=
  ⟨A, c, rfl, hr.setCell (fun a ha => by have := (hn a ha).1; omega) v, hs, fun a ha => ⟨by have := (hn a ha).1; have := hb.size; omega, (hn a ha).2.keep (blk_set_ne 0 v (by have := (hn a ha).1; omega))⟩, (hb.tr b2).setCell h0 v⟩
/-- The numbers of both. -/
def andS (a b : List Rg) : List Rg := norm (bothL a b)
theorem andS_spec (a b : List Rg) : Nrm (andS a b) ∧ ∀ n, has (andS a b) n = (has a n && has b n) :=
  ⟨(norm_spec (bothL_ok a b)).1, fun n => by rw [andS, norm_has (bothL_ok a b), bothL_has]⟩
theorem okset_le {a : List Rg} (h : Okset a) : ∀ r ∈ a, r.1 ≤ r.2 := fun r hr => (h.2 r hr).2.1
theorem andS_ok {a b : List Rg} (ha : Okset a) : Okset (andS a b) := okset_of (andS_spec a b).1 fun n hn => by
  rw [(andS_spec a b).2, Bool.and_eq_true] at hn
  exact ha.rng hn.1

set_option maxRecDepth 100000 in
theorem union_any (A B : Option Addr) (c d : Nat) (a b : List Rg) (w : World) (ha : RdR w A a) (hb : RdR w B b) (hoa : Okset a) (hob : Okset b) (hn : a.length + b.length ≤ 2000) :
    Calls Tryz.prog 22 #[.agg #[.slice A a.length c], .agg #[.slice B b.length d]] w (GivesSet w (orS a b) 0) := by
  have hb0 : Below w.heap.size w (((w.alloc (.cells #[.slice A a.length c] 26)).alloc (.cells #[.slice B b.length d] 26)).alloc (.cells #[.slice none 0 0] 26)) := ((below_new _ _).tr (below_new _ _)).tr (below_new _ _)
  have hsp := orS_spec (okset_le hoa) (okset_le hob)
  have hc := combine_any 76 _ keepOr rfl A B c d a b _ (ha.below hb0) (hb.below hb0) hoa hob hn (orS a b) fun s h1 h2 => has_uniq h1 hsp.1 fun n => by rw [h2, hsp.2]
  have hr0 := blk_new ((w.alloc (.cells #[.slice A a.length c] 26)).alloc (.cells #[.slice B b.length d] 26)) (.cells #[.slice none 0 0] 26)
  rw [World.size_alloc, World.size_alloc] at hr0
  have HR0 := Lib.hid hr0
  have HB0 := Lib.hid hb0
  clear ha hb hoa hob hsp hr0 hb0
  generalize orS a b = T at *
  go_enter Tryz.func22, Tryz.ntmps22
  go_wp2_with fail
  refine hc.mono ?_; rintro e w2 ⟨A2, c2, rfl, hr, hs, hnw, b2⟩
  clear hc
  have hb2 := blk_below b2 HR0.out
  have hrc := blk_cell hb2 0
  have hrf := blk_free hb2 0
  have h1 := blk_lt HR0.out
  clear hb2
  go_wp2_with fail
  refine bodyPost_ret (v := .tuple #[.agg #[.slice A2 T.length c2], i64 0]) (by simp [results, Tryz.results22, go_sem, hrc]) rfl ?_
  exact gives_wrap HB0.out (show w.heap.size ≤ w.heap.size + 1 + 1 by omega) h1 hr hs hnw b2 _

set_option maxRecDepth 100000 in
theorem inter_any (A B : Option Addr) (c d : Nat) (a b : List Rg) (w : World) (ha : RdR w A a) (hb : RdR w B b) (hoa : Okset a) (hob : Okset b) (hn : a.length + b.length ≤ 2000) :
    Calls Tryz.prog 23 #[.agg #[.slice A a.length c], .agg #[.slice B b.length d]] w (GivesSet w (andS a b) 0) := by
  have hb0 : Below w.heap.size w (((w.alloc (.cells #[.slice A a.length c] 26)).alloc (.cells #[.slice B b.length d] 26)).alloc (.cells #[.slice none 0 0] 26)) := ((below_new _ _).tr (below_new _ _)).tr (below_new _ _)
  have hsp := andS_spec a b
  have hc := combine_any 77 _ keepAnd rfl A B c d a b _ (ha.below hb0) (hb.below hb0) hoa hob hn (andS a b) fun s h1 h2 => has_uniq h1 hsp.1 fun n => by rw [h2, hsp.2]
  have hr0 := blk_new ((w.alloc (.cells #[.slice A a.length c] 26)).alloc (.cells #[.slice B b.length d] 26)) (.cells #[.slice none 0 0] 26)
  rw [World.size_alloc, World.size_alloc] at hr0
  have HR0 := Lib.hid hr0
  have HB0 := Lib.hid hb0
  clear ha hb hoa hob hsp hr0 hb0
  generalize andS a b = T at *
  go_enter Tryz.func23, Tryz.ntmps23
  go_wp2_with fail
  refine hc.mono ?_; rintro e w2 ⟨A2, c2, rfl, hr, hs, hnw, b2⟩
  clear hc
  have hb2 := blk_below b2 HR0.out
  have hrc := blk_cell hb2 0
  have hrf := blk_free hb2 0
  have h1 := blk_lt HR0.out
  clear hb2
  go_wp2_with fail
  refine bodyPost_ret (v := .tuple #[.agg #[.slice A2 T.length c2], i64 0]) (by simp [results, Tryz.results23, go_sem, hrc]) rfl ?_
  exact gives_wrap HB0.out (show w.heap.size ≤ w.heap.size + 1 + 1 by omega) h1 hr hs hnw b2 _

set_option maxRecDepth 100000 in
theorem diff_any (A B : Option Addr) (c d : Nat) (a b : List Rg) (w : World) (ha : RdR w A a) (hb : RdR w B b) (hoa : Okset a) (hob : Okset b) (hn : a.length + b.length ≤ 2000) :
    Calls Tryz.prog 24 #[.agg #[.slice A a.length c], .agg #[.slice B b.length d]] w (GivesSet w (minusS a b) 0) := by
  have hb0 : Below w.heap.size w (((w.alloc (.cells #[.slice A a.length c] 26)).alloc (.cells #[.slice B b.length d] 26)).alloc (.cells #[.slice none 0 0] 26)) := ((below_new _ _).tr (below_new _ _)).tr (below_new _ _)
  have hsp := minusS_spec hoa hob
  have hc := combine_any 78 _ keepNot rfl A B c d a b _ (ha.below hb0) (hb.below hb0) hoa hob hn (minusS a b) fun s h1 h2 => has_uniq h1 hsp.1 fun n => by rw [h2, hsp.2]
  have hr0 := blk_new ((w.alloc (.cells #[.slice A a.length c] 26)).alloc (.cells #[.slice B b.length d] 26)) (.cells #[.slice none 0 0] 26)
  rw [World.size_alloc, World.size_alloc] at hr0
  have HR0 := Lib.hid hr0
  have HB0 := Lib.hid hb0
  clear ha hb hoa hob hsp hr0 hb0
  generalize minusS a b = T at *
  go_enter Tryz.func24, Tryz.ntmps24
  go_wp2_with fail
  refine hc.mono ?_; rintro e w2 ⟨A2, c2, rfl, hr, hs, hnw, b2⟩
  clear hc
  have hb2 := blk_below b2 HR0.out
  have hrc := blk_cell hb2 0
  have hrf := blk_free hb2 0
  have h1 := blk_lt HR0.out
  clear hb2
  go_wp2_with fail
  refine bodyPost_ret (v := .tuple #[.agg #[.slice A2 T.length c2], i64 0]) (by simp [results, Tryz.results24, go_sem, hrc]) rfl ?_
  exact gives_wrap HB0.out (show w.heap.size ≤ w.heap.size + 1 + 1 by omega) h1 hr hs hnw b2 _

/-- What Add returns. -/
def addS (a : List Rg) (r : Rg) : List Rg := if okB r then orS a [r] else []
set_option maxRecDepth 100000 in
theorem add_any (A : Option Addr) (c : Nat) (a : List Rg) (r : Rg) (w : World) (ha : RdR w A a) (hoa : Okset a) (hn : a.length ≤ 1999) :
    Calls Tryz.prog 29 #[.agg #[.slice A a.length c], .agg #[i64 r.1, i64 r.2]] w (GivesSet w (addS a r) (if okB r then 0 else 2)) := by
  obtain ⟨r1, r2⟩ := r
  have hb0 : Below w.heap.size w (((w.alloc (.cells #[.slice A a.length c] 26)).alloc (.cells #[i64 r1, i64 r2] 42)).alloc (.cells #[.slice none 0 0] 26)) := ((below_new _ _).tr (below_new _ _)).tr (below_new _ _)
  have hv := valid_any r1 r2 (((w.alloc (.cells #[.slice A a.length c] 26)).alloc (.cells #[i64 r1, i64 r2] 42)).alloc (.cells #[.slice none 0 0] 26))
  have hA0 : (((w.alloc (.cells #[.slice A a.length c] 26)).alloc (.cells #[i64 r1, i64 r2] 42)).alloc (.cells #[.slice none 0 0] 26)).heap[w.heap.size]? = some (.cells #[.slice A a.length c] 26 (0, 0)) := blk_old _ (blk_old _ (blk_new w _))
  have hr1 : (((w.alloc (.cells #[.slice A a.length c] 26)).alloc (.cells #[i64 r1, i64 r2] 42)).alloc (.cells #[.slice none 0 0] 26)).heap[w.heap.size + 1]? = some (.cells #[i64 r1, i64 r2] 42 (0, 0)) := by
    have := blk_new (w.alloc (.cells #[.slice A a.length c] 26)) (.cells #[i64 r1, i64 r2] 42)
    rw [World.size_alloc] at this
    exact blk_old _ this
  have hr0 := blk_new ((w.alloc (.cells #[.slice A a.length c] 26)).alloc (.cells #[i64 r1, i64 r2] 42)) (.cells #[.slice none 0 0] 26)
  rw [World.size_alloc, World.size_alloc] at hr0
  have HR0 := Lib.hid hr0
  have HR1 := Lib.hid hr1
  have HA0 := Lib.hid hA0
  have HB0 := Lib.hid hb0
  have HA := Lib.hid ha
  have HO := Lib.hid hoa
  clear ha hoa hr0 hr1 hA0 hb0
  cases hok : okB (r1, r2) with
  | true =>
    have V : Hid (addS a (r1, r2) = orS a [(r1, r2)]) := by (show addS a (r1, r2) = _); unfold addS; rw [if_pos hok]
    have HOK := Lib.hid ((okB_iff _).1 hok)
    rw [hok] at hv
    clear hok
    rw [V.out, if_pos rfl]
    go_enter Tryz.func29, Tryz.ntmps29
    go_wp2_with fail
    refine hv.mono ?_; rintro e w1 ⟨rfl, b1⟩
    clear hv
    have HW0 := Lib.hid (blk_below b1 HR0.out)
    have hc1 := blk_cell (blk_below b1 HR1.out) 0
    have hc2 := blk_cell (blk_below b1 HR1.out) 1
    have hc0 := blk_cell (blk_below b1 HA0.out) 0
    have HB1 := Lib.hid (HB0.out.tr b1)
    clear b1 HR0 HR1 HA0 HB0
    have hcall := union_any A (some ⟨w1.heap.size, 0, none⟩) c 1 a [(r1, r2)] (w1.alloc (.cells #[i64 r1, i64 r2] 42)) (HA.out.below (HB1.out.tr (below_new _ _))) (RdR.one w1 (r1, r2) _) HO.out (one_ok HOK.out.1 HOK.out.2.1 HOK.out.2.2) (by simp; omega)
    generalize orS a [(r1, r2)] = T at *
    go_wp2_with fail
    refine hcall.mono ?_; rintro e w2 ⟨A2, c2, rfl, hr, hs, hnw, b2⟩
    clear hcall hc0 hc1 hc2
    have hb2 := blk_below b2 (blk_old _ HW0.out)
    have hrc := blk_cell hb2 0
    have hrf := blk_free hb2 0
    have h1 := blk_lt HW0.out
    clear hb2
    go_wp2_with fail
    refine bodyPost_ret (v := .tuple #[.agg #[.slice A2 T.length c2], i64 0]) (by simp [results, Tryz.results29, go_sem, hrc]) rfl ?_
    exact gives_wrap (HB1.out.tr (below_new _ _)) (show w.heap.size ≤ w.heap.size + 1 + 1 by omega) (by simp; omega) hr hs hnw b2 _
  | false =>
    have V : Hid (addS a (r1, r2) = []) := by (show addS a (r1, r2) = _); unfold addS; rw [hok]; rfl
    rw [hok] at hv
    clear hok
    rw [V.out, if_neg Bool.false_ne_true]
    go_enter Tryz.func29, Tryz.ntmps29
    go_wp2_with fail
    refine hv.mono ?_; rintro e w1 ⟨rfl, b1⟩
    clear hv
    have hrc := blk_cell (blk_below b1 HR0.out) 0
    have hrf := blk_free (blk_below b1 HR0.out) 0
    go_wp2_with fail
    refine bodyPost_ret (v := .tuple #[.agg #[.slice none 0 0], i64 2]) (by simp [results, Tryz.results29, go_sem, hrc]) rfl ?_
    exact ⟨none, 0, rfl, RdR.nil, SlR.nil, (fun a h => by cases h), (HB0.out.tr b1).setCell (show w.heap.size ≤ w.heap.size + 1 + 1 by omega) _⟩

/-- What Remove returns. -/
def remS (a : List Rg) (r : Rg) : List Rg := if okB r then minusS a [r] else []
set_option maxRecDepth 100000 in
theorem rem_any (A : Option Addr) (c : Nat) (a : List Rg) (r : Rg) (w : World) (ha : RdR w A a) (hoa : Okset a) (hn : a.length ≤ 1999) :
    Calls Tryz.prog 30 #[.agg #[.slice A a.length c], .agg #[i64 r.1, i64 r.2]] w (GivesSet w (remS a r) (if okB r then 0 else 2)) := by
  obtain ⟨r1, r2⟩ := r
  have hb0 : Below w.heap.size w (((w.alloc (.cells #[.slice A a.length c] 26)).alloc (.cells #[i64 r1, i64 r2] 42)).alloc (.cells #[.slice none 0 0] 26)) := ((below_new _ _).tr (below_new _ _)).tr (below_new _ _)
  have hv := valid_any r1 r2 (((w.alloc (.cells #[.slice A a.length c] 26)).alloc (.cells #[i64 r1, i64 r2] 42)).alloc (.cells #[.slice none 0 0] 26))
  have hA0 : (((w.alloc (.cells #[.slice A a.length c] 26)).alloc (.cells #[i64 r1, i64 r2] 42)).alloc (.cells #[.slice none 0 0] 26)).heap[w.heap.size]? = some (.cells #[.slice A a.length c] 26 (0, 0)) := blk_old _ (blk_old _ (blk_new w _))
  have hr1 : (((w.alloc (.cells #[.slice A a.length c] 26)).alloc (.cells #[i64 r1, i64 r2] 42)).alloc (.cells #[.slice none 0 0] 26)).heap[w.heap.size + 1]? = some (.cells #[i64 r1, i64 r2] 42 (0, 0)) := by
    have := blk_new (w.alloc (.cells #[.slice A a.length c] 26)) (.cells #[i64 r1, i64 r2] 42)
    rw [World.size_alloc] at this
    exact blk_old _ this
  have hr0 := blk_new ((w.alloc (.cells #[.slice A a.length c] 26)).alloc (.cells #[i64 r1, i64 r2] 42)) (.cells #[.slice none 0 0] 26)
  rw [World.size_alloc, World.size_alloc] at hr0
  have HR0 := Lib.hid hr0
  have HR1 := Lib.hid hr1
  have HA0 := Lib.hid hA0
  have HB0 := Lib.hid hb0
  have HA := Lib.hid ha
  have HO := Lib.hid hoa
  clear ha hoa hr0 hr1 hA0 hb0
  cases hok : okB (r1, r2) with
  | true =>
    have V : Hid (remS a (r1, r2) = minusS a [(r1, r2)]) := by (show remS a (r1, r2) = _); unfold remS; rw [if_pos hok]
    have HOK := Lib.hid ((okB_iff _).1 hok)
    rw [hok] at hv
    clear hok
    rw [V.out, if_pos rfl]
    go_enter Tryz.func30, Tryz.ntmps30
    go_wp2_with fail
    refine hv.mono ?_; rintro e w1 ⟨rfl, b1⟩
    clear hv
    have HW0 := Lib.hid (blk_below b1 HR0.out)
    have hc1 := blk_cell (blk_below b1 HR1.out) 0
    have hc2 := blk_cell (blk_below b1 HR1.out) 1
    have hc0 := blk_cell (blk_below b1 HA0.out) 0
    have HB1 := Lib.hid (HB0.out.tr b1)
    clear b1 HR0 HR1 HA0 HB0
    have hcall := diff_any A (some ⟨w1.heap.size, 0, none⟩) c 1 a [(r1, r2)] (w1.alloc (.cells #[i64 r1, i64 r2] 42)) (HA.out.below (HB1.out.tr (below_new _ _))) (RdR.one w1 (r1, r2) _) HO.out (one_ok HOK.out.1 HOK.out.2.1 HOK.out.2.2) (by simp; omega)
    generalize minusS a [(r1, r2)] = T at *
    go_wp2_with fail
    refine hcall.mono ?_; rintro e w2 ⟨A2, c2, rfl, hr, hs, hnw, b2⟩
    clear hcall hc0 hc1 hc2
    have hb2 := blk_below b2 (blk_old _ HW0.out)
    have hrc := blk_cell hb2 0
    have hrf := blk_free hb2 0
    have h1 := blk_lt HW0.out
    clear hb2
    go_wp2_with fail
    refine bodyPost_ret (v := .tuple #[.agg #[.slice A2 T.length c2], i64 0]) (by simp [results, Tryz.results30, go_sem, hrc]) rfl ?_
    exact gives_wrap (HB1.out.tr (below_new _ _)) (show w.heap.size ≤ w.heap.size + 1 + 1 by omega) (by simp; omega) hr hs hnw b2 _
  | false =>
    have V : Hid (remS a (r1, r2) = []) := by (show remS a (r1, r2) = _); unfold remS; rw [hok]; rfl
    rw [hok] at hv
    clear hok
    rw [V.out, if_neg Bool.false_ne_true]
    go_enter Tryz.func30, Tryz.ntmps30
    go_wp2_with fail
    refine hv.mono ?_; rintro e w1 ⟨rfl, b1⟩
    clear hv
    have hrc := blk_cell (blk_below b1 HR0.out) 0
    have hrf := blk_free (blk_below b1 HR0.out) 0
    go_wp2_with fail
    refine bodyPost_ret (v := .tuple #[.agg #[.slice none 0 0], i64 2]) (by simp [results, Tryz.results30, go_sem, hrc]) rfl ?_
    exact ⟨none, 0, rfl, RdR.nil, SlR.nil, (fun a h => by cases h), (HB0.out.tr b1).setCell (show w.heap.size ≤ w.heap.size + 1 + 1 by omega) _⟩
end Go.Proofs.YtcpennlojjlpaaaGreatDoor

namespace Go.Nr
open Go.Gn
theorem text_grow (c : UInt8) (xs : List (List UInt8)) (k : Nat) (x : List UInt8) (h : xs[k]? = some x) : text c (xs.take (k + 1)) = (if 0 < k then text c (xs.take k) ++ [c] else text c (xs.take k)) ++ x := by
  obtain ⟨hl, hx⟩ := List.getElem?_eq_some_iff.1 h
  rw [List.take_succ_eq_append_getElem hl, hx]
  by_cases hk : 0 < k
  · rw [if_pos hk, text_snoc]
    · simp
    · intro e; have := congrArg List.length e; simp only [List.length_take, List.length_nil] at this; omega
  · rw [if_neg hk]
    obtain rfl : k = 0 := by omega
    rw [List.take_zero, List.nil_append, text_one]; rfl
theorem digits_le {n : Int} (h : n ≤ M) : (Lib.decDigits n.toNat).length ≤ 13 := digits_len _ 13 (by have := M_lt; unfold M at *; omega) (by omega)
theorem itemT_len {r : Rg} (h : ok r) : (itemT r).length ≤ 27 := by
  obtain ⟨h1, h2, h3⟩ := h
  have d1 := digits_le (show r.1 ≤ M by omega)
  have d2 := digits_le h3
  unfold itemT
  split
  · omega
  · simp; omega
theorem setT_len {l : List Rg} (h : ∀ r ∈ l, ok r) : (setT l).length ≤ l.length * 28 := by
  have : ∀ (xs : List (List UInt8)), (∀ x ∈ xs, x.length ≤ 27) → (text 44 xs).length ≤ xs.length * 28 := by
    intro xs
    induction xs with
    | nil => intro _; simp [text_nil]
    | cons x xs ih =>
      intro hx
      have h1 := hx x (by simp)
      have h2 := ih fun y hy => hx y (by simp [hy])
      by_cases h0 : xs = []
      · subst h0; rw [text_one]; simp; omega
      · rw [text_cons' _ _ _ h0]; simp; omega
  have := this (l.map itemT) fun x hx => by
    obtain ⟨r, hr, rfl⟩ := List.mem_map.1 hx
    exact itemT_len (h r hr)
  simpa [setT] using this
end Go.Nr
namespace Go.Proofs.YtcpennlojjlpaaaGreatDoor
open Go.RowKit Go.Nr Go.Gn

/-- The table of powers of ten of strconv lies as the program's text lays it. -/
def Tab (w : World) : Prop := Lib.TabIs Tryz.prog w "internal/strconv.uint64pow10" .u64 Lib.pow10Tab
theorem tab_global : ∃ g, Tryz.prog.globalNamed "internal/strconv.uint64pow10" = some g := Option.isSome_iff_exists.1 (by kernel_rfl)
theorem Tab.lt {w : World} (h : Tab w) {g : Nat} (hg : Tryz.prog.globalNamed "internal/strconv.uint64pow10" = some g) : g < w.heap.size := by
  unfold Tab Lib.TabIs World.var? at h
  simp only [hg, Option.bind_some] at h
  rcases Nat.lt_or_ge g w.heap.size with h' | h'
  · exact h'
  · rw [Array.getElem?_eq_none h'] at h; cases h
theorem Tab.below {w w' : World} (h : Tab w) (hb : Below w.heap.size w w') : Tab w' := by
  obtain ⟨g, hg⟩ := tab_global
  exact var?_below hb hg (h.lt hg) h
theorem below_grow (w : World) (k : Nat) (os : Array Obj) : Below w.heap.size w (Sort.grow (w.drewN k) os) :=
  ⟨rfl, rfl, rfl, by simp [Sort.grow, World.drewN], fun i hi => by simp only [Sort.grow, World.drewN]; rw [Array.getElem?_append_left hi]⟩
theorem itoa_any (n : Int) (w : World) (h0 : 0 ≤ n) (h1 : n ≤ M) (ht : Tab w) : Calls Tryz.prog 90 #[i64 n] w fun e w' => e = .returned (.string ⟨(Lib.decDigits n.toNat).toArray⟩) ∧ Below w.heap.size w w' := by
  rw [M_eq] at h1
  refine (Tryz.strconv_Itoa n (by omega) (by omega) w ht).mono fun e w' ⟨h2, k, os, h3⟩ => ⟨?_, by rw [h3]; exact below_grow w k os⟩
  rw [h2]; unfold Lib.itoa; rw [if_neg (by omega)]

/-- A builder of the call's own that holds a text. -/
def Bd (B b : Nat) (l : List UInt8) (w : World) : Prop := Lib.IsBuilder 128 5 B b (Lib.byteCells l) w
theorem Bd.below {B b : Nat} {l : List UInt8} {w w' : World} (h : Bd B b l w) (hb : Below w.heap.size w w') : Bd B b l w' := by
  have one : ∀ p, Lib.BuilderAt 128 5 B b p (Lib.byteCells l) w → Lib.BuilderAt 128 5 B b p (Lib.byteCells l) w' := fun p h => by
    have hlt := h.lt
    obtain ⟨hB, v, hv, hown, hne⟩ := h
    exact ⟨hB, v, (hb.block b hlt).trans hv, own_below hown hb, hne⟩
  exact h.elim (fun x => .inl (one _ x)) (fun x => .inr (one _ x))
theorem bd_new (w : World) : Bd w.heap.size w.heap.size [] (w.alloc (.cells #[.pointer none, .slice none 0 0] 128)) := Lib.fresh_isBuilder _ _ w
theorem bdByte (B b : Nat) (l : List UInt8) (c : UInt8) (w : World) (h : Bd B b l w) (hl : l.length + 1 ≤ 1000000000) (hB : B ≤ w.heap.size) :
    Calls Tryz.prog 88 #[.pointer (some ⟨b, 0, none⟩), .int .u8 c.toNat] w fun e w' => e = .returned .nilIface ∧ Bd B b (l ++ [c]) w' ∧ Below B w w' ∧ Lib.OthersKept 5 (some b) w w' :=
  (bldByte B b (Lib.byteCells l) c.toNat w h (by rw [Lib.byteCells_length]; omega) hB).mono fun e w' ⟨h1, h2, h3⟩ => ⟨h1, .inr (by simpa [Lib.byteCells] using h2), h3.1, h3.2⟩
theorem bdStr (B b : Nat) (l s : List UInt8) (w : World) (h : Bd B b l w) (hl : l.length + s.length ≤ 1000000000) (hB : B ≤ w.heap.size) :
    Calls Tryz.prog 89 #[.pointer (some ⟨b, 0, none⟩), .string ⟨s.toArray⟩] w fun e w' => e = .returned (.tuple #[i64 s.length, .nilIface]) ∧ Bd B b (l ++ s) w' ∧ Below B w w' ∧ Lib.OthersKept 5 (some b) w w' :=
  (bldStr B b (Lib.byteCells l) ⟨s.toArray⟩ w h (by rw [Lib.byteCells_length]; show l.length + s.toArray.size ≤ _; simp; omega) hB).mono fun e w' ⟨h1, h2, h3⟩ => ⟨h1, .inr (by rw [show Lib.strCells ⟨s.toArray⟩ = Lib.byteCells s from rfl] at h2; simpa [Lib.byteCells] using h2), h3.1, h3.2⟩

set_option maxRecDepth 100000 in
set_option maxHeartbeats 4000000 in
theorem text_any (A : Option Addr) (c : Nat) (l : List Rg) (w : World) (hr : RdR w A l) (ho : ∀ r ∈ l, ok r) (hn : l.length ≤ 100000) (ht : Tab w) :
    Calls Tryz.prog 45 #[.agg #[.slice A l.length c]] w fun e w' => e = .returned (.string ⟨(setT l).toArray⟩) ∧ Below w.heap.size w w' := by
  have HR := Lib.hid hr
  have HO := Lib.hid ho
  have HT := Lib.hid ht
  clear hr ho ht
  go_enter Tryz.func45, Tryz.ntmps45
  go_wp2_with fail
  have hbd := bd_new (w.alloc (.cells #[.slice A l.length c] 26))
  rw [World.size_alloc] at hbd
  have hb0 : Below w.heap.size w ((w.alloc (.cells #[.slice A l.length c] 26)).alloc (.cells #[.pointer none, .slice none 0 0] 128)) := (below_new _ _).tr (below_new _ _)
  have hs0 : ((w.alloc (.cells #[.slice A l.length c] 26)).alloc (.cells #[.pointer none, .slice none 0 0] 128)).heap.size = w.heap.size + 2 := by simp
  have HBD := Lib.hid hbd
  have HB0 := Lib.hid hb0
  have HS0 := Lib.hid hs0
  clear hbd hb0 hs0
  generalize (w.alloc (.cells #[.slice A l.length c] 26)).alloc (.cells #[.pointer none, .slice none 0 0] 128) = u0 at *
  go_loopg [9] l.length (fun gg iv wr => ∃ k : Nat, k ≤ l.length ∧ l.length - k ≤ gg ∧ iv = .int .i64 k ∧ Hid (Bd (w.heap.size + 1) (w.heap.size + 1) (text 44 ((l.map itemT).take k)) wr) ∧ Below (w.heap.size + 1) u0 wr)
  case atStart => exact ⟨0, by omega, by omega, rfl, HBD.out, Below.refl _ _⟩
  case round =>
    obtain ⟨k, hk, hgk, rfl, O, hB⟩ := hrel
    by_cases hlt : k < l.length
    · have HBW := Lib.hid (HB0.out.trans (hB.mono (by omega)))
      obtain ⟨b, o, x, rfl, _, hxk, hc1, hc2⟩ := (HR.out.below HBW.out).at_ hlt
      have hg := text_grow 44 (l.map itemT) k (itemT x) (by rw [List.getElem?_map, hxk]; rfl)
      obtain ⟨o1, o2, o3⟩ := HO.out x (List.mem_of_getElem? hxk)
      have hol := itemT_len ⟨o1, o2, o3⟩
      have hlen : (text 44 ((l.map itemT).take k)).length ≤ 2800000 := by
        have := text_length_take 44 (l.map itemT) k
        have h2 := setT_len HO.out
        unfold setT at h2
        omega
      obtain ⟨x1, x2⟩ := x
      simp only at hc1 hc2 o1 o2 o3
      have hsz := hB.size
      have hs1 := HS0.out
      have HTR := Lib.hid (HT.out.below HBW.out)
      obtain ⟨p, hp⟩ : ∃ q, text 44 ((l.map itemT).take k) = q := ⟨_, rfl⟩
      obtain ⟨p', hp'⟩ : ∃ q, text 44 ((l.map itemT).take (k + 1)) = q := ⟨_, rfl⟩
      rw [hp, hp'] at hg
      rw [hp] at O hlen
      have HG := Lib.hid hg
      have HP' := Lib.hid hp'
      clear hg hp hp' hxk
      by_cases hk0 : 0 < k
      · rw [if_pos hk0] at HG
        have hw1 := bdByte (w.heap.size + 1) (w.heap.size + 1) p 44 (wr.alloc (.cells #[i64 x1, i64 x2] 42)) (O.out.below (below_new _ _)) (by omega) (by simp; omega)
        have hki : (0 : Int) < (k : Int) := by omega
        go_wp2_with fail
        refine hw1.mono ?_; rintro e w1 ⟨rfl, hd1, b1, k1⟩
        have hx1 := k1 _ _ (blk_new wr (.cells #[i64 x1, i64 x2] 42)) (by simp; omega) (fun c fz e => by cases e)
        have HX := Lib.hid hx1
        have HBx := Lib.hid hd1
        have HBl : Hid (Below (w.heap.size + 1) u0 w1) := (hB.alloc (by omega) _).trans b1
        obtain ⟨q1, HQ, hql⟩ : ∃ q1, Hid (q1 = p ++ [44]) ∧ q1.length ≤ 2800001 := ⟨_, Lib.hid rfl, by simp; omega⟩
        rw [← HQ.out] at HG HBx
        clear hx1 hd1 b1 k1 hw1 hki O
        have hc1 := blk_cell HX.out 0
        have hc2 := blk_cell HX.out 1
        have hi1 := itoa_any x1 w1 (by omega) (by omega) (HT.out.below (HB0.out.trans (HBl.out.mono (by omega))))
        obtain ⟨d1, hd1e⟩ : ∃ q, Lib.decDigits x1.toNat = q := ⟨_, rfl⟩
        obtain ⟨d2, hd2e⟩ : ∃ q, Lib.decDigits x2.toNat = q := ⟨_, rfl⟩
        have hl1 := digits_le (n := x1) (by omega)
        have hl2 := digits_le (n := x2) o3
        rw [hd1e] at hi1 hl1
        rw [hd2e] at hl2
        have hIt : Hid (itemT (x1, x2) = if x1 = x2 then d1 else d1 ++ 45 :: d2) := by (show itemT (x1, x2) = _); rw [← hd1e, ← hd2e]; rfl
        have HD2 := Lib.hid hd2e
        clear hd1e hd2e
        go_wp2_with fail
        refine hi1.mono ?_; rintro e w3 ⟨rfl, b3⟩
        clear hi1
        have hsz3 := b3.size
        have hw3 := bdStr (w.heap.size + 1) (w.heap.size + 1) _ d1 w3 (HBx.out.below b3) (by omega) (by have := HBl.out.size; omega)
        skip
        have HX3 := Lib.hid (blk_below b3 HX.out)
        have HBl3 := Lib.hid (HBl.out.trans (b3.mono (by have := HBl.out.size; omega)))
        clear hc1 hc2 HX HBx b3 HBl
        go_wp2_with fail
        refine hw3.mono ?_; rintro e w4 ⟨rfl, hd4, b4, k4⟩
        clear hw3
        have hx4 := k4 _ _ HX3.out (by simp; omega) (fun c fz e => by cases e)
        have hc1 := blk_cell hx4 0
        have hc2 := blk_cell hx4 1
        have HX4 := Lib.hid hx4
        have HBx := Lib.hid hd4
        have HBl := Lib.hid (HBl3.out.trans b4)
        clear hd4 b4 k4 hx4 HX3 HBl3
        by_cases hxx : x1 = x2
        · subst hxx
          rw [if_pos rfl] at hIt
          go_wp2_with fail
          go_roundg (l.length - (k + 1))
          case measure => omega
          case rel =>
            refine ⟨k + 1, by omega, by omega, by go_num, ?_, HBl.out⟩
            rw [HP'.out, HG.out, hIt.out]
            exact HBx.out
        · rw [if_neg hxx] at hIt
          have hxx2 : x2 ≠ x1 := fun e => hxx e.symm
          have hsb := HBl.out.size
          have hw5 := bdByte (w.heap.size + 1) (w.heap.size + 1) _ 45 w4 HBx.out (by simp; omega) (by omega)
          go_wp2_with fail
          refine hw5.mono ?_; rintro e w5 ⟨rfl, hd5, b5, k5⟩
          clear hw5
          have hx5 := k5 _ _ HX4.out (by simp; omega) (fun c fz e => by cases e)
          have hc1 := blk_cell hx5 0
          have hc2 := blk_cell hx5 1
          have HBl5 := Lib.hid (HBl.out.trans b5)
          have hi6 := itoa_any x2 w5 (by omega) (by omega) (HT.out.below (HB0.out.trans (HBl5.out.mono (by omega))))
          rw [HD2.out] at hi6
          have HBx5 := Lib.hid hd5
          clear hd5 b5 k5 hx5 HX4 HBx HBl
          go_wp2_with fail
          refine hi6.mono ?_; rintro e w6 ⟨rfl, b6⟩
          clear hi6
          have hw7 := bdStr (w.heap.size + 1) (w.heap.size + 1) _ d2 w6 (HBx5.out.below b6) (by simp; omega) (by have := HBl5.out.size; have := b6.size; omega)
          have HBl6 := Lib.hid (HBl5.out.trans (b6.mono (by have := HBl5.out.size; omega)))
          clear b6 HBx5 HBl5 hc1 hc2
          go_wp2_with fail
          refine hw7.mono ?_; rintro e w7 ⟨rfl, hd7, b7, k7⟩
          clear hw7 k7
          have HBx7 := Lib.hid hd7
          have HBl7 := Lib.hid (HBl6.out.trans b7)
          clear hd7 b7 HBl6
          go_wp2_with fail
          go_roundg (l.length - (k + 1))
          case measure => omega
          case rel =>
            refine ⟨k + 1, by omega, by omega, by go_num, ?_, HBl7.out⟩
            rw [HP'.out, HG.out, hIt.out]
            have := HBx7.out
            exact Lib.hid (by simpa using this)
      · obtain rfl : k = 0 := by omega
        rw [if_neg hk0] at HG
        have HX := Lib.hid (blk_new wr (.cells #[i64 x1, i64 x2] 42))
        have HBx := Lib.hid (O.out.below (below_new wr (.cells #[i64 x1, i64 x2] 42)))
        have HBl : Hid (Below (w.heap.size + 1) u0 (wr.alloc (.cells #[i64 x1, i64 x2] 42))) := hB.alloc (by omega) _
        have hql : p.length ≤ 2800001 := by omega
        have hk1 : (wr.alloc (.cells #[i64 x1, i64 x2] 42)).heap.size = wr.heap.size + 1 := by simp
        clear O
        rw [show o + 0 * 2 = o by omega] at hc1
        rw [show o + 0 * 2 + 1 = o + 1 by omega] at hc2
        go_wp2_with fail
        clear hc1 hc2
        generalize wr.alloc (.cells #[i64 x1, i64 x2] 42) = w1 at *
        have hc1 := blk_cell HX.out 0
        have hc2 := blk_cell HX.out 1
        have hi1 := itoa_any x1 w1 (by omega) (by omega) (HT.out.below (HB0.out.trans (HBl.out.mono (by omega))))
        obtain ⟨d1, hd1e⟩ : ∃ q, Lib.decDigits x1.toNat = q := ⟨_, rfl⟩
        obtain ⟨d2, hd2e⟩ : ∃ q, Lib.decDigits x2.toNat = q := ⟨_, rfl⟩
        have hl1 := digits_le (n := x1) (by omega)
        have hl2 := digits_le (n := x2) o3
        rw [hd1e] at hi1 hl1
        rw [hd2e] at hl2
        have hIt : Hid (itemT (x1, x2) = if x1 = x2 then d1 else d1 ++ 45 :: d2) := by (show itemT (x1, x2) = _); rw [← hd1e, ← hd2e]; rfl
        have HD2 := Lib.hid hd2e
        clear hd1e hd2e
        go_wp2_with fail
        refine hi1.mono ?_; rintro e w3 ⟨rfl, b3⟩
        clear hi1
        have hsz3 := b3.size
        have hw3 := bdStr (w.heap.size + 1) (w.heap.size + 1) _ d1 w3 (HBx.out.below b3) (by omega) (by have := HBl.out.size; omega)
        skip
        have HX3 := Lib.hid (blk_below b3 HX.out)
        have HBl3 := Lib.hid (HBl.out.trans (b3.mono (by have := HBl.out.size; omega)))
        clear hc1 hc2 HX HBx b3 HBl
        go_wp2_with fail
        refine hw3.mono ?_; rintro e w4 ⟨rfl, hd4, b4, k4⟩
        clear hw3
        have hx4 := k4 _ _ HX3.out (by simp; omega) (fun c fz e => by cases e)
        have hc1 := blk_cell hx4 0
        have hc2 := blk_cell hx4 1
        have HX4 := Lib.hid hx4
        have HBx := Lib.hid hd4
        have HBl := Lib.hid (HBl3.out.trans b4)
        clear hd4 b4 k4 hx4 HX3 HBl3
        by_cases hxx : x1 = x2
        · subst hxx
          rw [if_pos rfl] at hIt
          go_wp2_with fail
          go_roundg (l.length - (0 + 1))
          case measure => omega
          case rel =>
            refine ⟨0 + 1, by omega, by omega, by go_num, ?_, HBl.out⟩
            rw [HP'.out, HG.out, hIt.out]
            exact HBx.out
        · rw [if_neg hxx] at hIt
          have hxx2 : x2 ≠ x1 := fun e => hxx e.symm
          have hsb := HBl.out.size
          have hw5 := bdByte (w.heap.size + 1) (w.heap.size + 1) _ 45 w4 HBx.out (by simp; omega) (by omega)
          go_wp2_with fail
          refine hw5.mono ?_; rintro e w5 ⟨rfl, hd5, b5, k5⟩
          clear hw5
          have hx5 := k5 _ _ HX4.out (by simp; omega) (fun c fz e => by cases e)
          have hc1 := blk_cell hx5 0
          have hc2 := blk_cell hx5 1
          have HBl5 := Lib.hid (HBl.out.trans b5)
          have hi6 := itoa_any x2 w5 (by omega) (by omega) (HT.out.below (HB0.out.trans (HBl5.out.mono (by omega))))
          rw [HD2.out] at hi6
          have HBx5 := Lib.hid hd5
          clear hd5 b5 k5 hx5 HX4 HBx HBl
          go_wp2_with fail
          refine hi6.mono ?_; rintro e w6 ⟨rfl, b6⟩
          clear hi6
          have hw7 := bdStr (w.heap.size + 1) (w.heap.size + 1) _ d2 w6 (HBx5.out.below b6) (by simp; omega) (by have := HBl5.out.size; have := b6.size; omega)
          have HBl6 := Lib.hid (HBl5.out.trans (b6.mono (by have := HBl5.out.size; omega)))
          clear b6 HBx5 HBl5 hc1 hc2
          go_wp2_with fail
          refine hw7.mono ?_; rintro e w7 ⟨rfl, hd7, b7, k7⟩
          clear hw7 k7
          have HBx7 := Lib.hid hd7
          have HBl7 := Lib.hid (HBl6.out.trans b7)
          clear hd7 b7 HBl6
          go_wp2_with fail
          go_roundg (l.length - (0 + 1))
          case measure => omega
          case rel =>
            refine ⟨0 + 1, by omega, by omega, by go_num, ?_, HBl7.out⟩
            rw [HP'.out, HG.out, hIt.out]
            have := HBx7.out
            exact Lib.hid (by simpa using this)
    · obtain rfl : k = l.length := by omega
      rw [List.take_of_length_le (by simp)] at O
      have hst := Tryz.Builder_String_any (w.heap.size + 1) (w.heap.size + 1) _ wr O.out (by have := hB.size; have := HS0.out; omega)
      have HBW := Lib.hid (HB0.out.trans (hB.mono (by omega)))
      clear O
      rw [show text 44 (l.map itemT) = setT l from rfl] at hst
      obtain ⟨T, hT⟩ : ∃ q, setT l = q := ⟨_, rfl⟩
      rw [hT] at hst
      have HTT := Lib.hid hT
      clear hT
      go_wp2_with fail
      refine hst.mono ?_; rintro e w2 ⟨rfl, b2⟩
      clear hst
      go_wp2_with fail
      go_ret
      exact ⟨by rw [HTT.out]; rfl, HBW.out.trans (b2.mono (by omega))⟩
end Go.Proofs.YtcpennlojjlpaaaGreatDoor
