/- The program's names by day: a map of rows of names, each row of the call's own.
   The program's text: what its loops keep while a line is written, a row of names is sorted, a call is made.
   Contracts: the keys of the days' map, gathered and sorted.
   The program's text, first part: the names by day.
   The program's text behind its days: the sizes. -/
import Derived.Test.YthgefcoaaommkaaGreatDoorZc
import Derived.Test.YthgefcoaaommkaaGreatDoorZa
import Derived.Test.YthgefcoaaommkaaGreatDoorIter
import Derived.Test.YthgefcoaaommkaaGreatDoorZe
import Derived.Shelf.SlIterI.Nil
import Derived.Shelf.SortM.Plain
import Derived.Shelf.SortM.SortNone
import Derived.Ground.GgzProg
import Derived.Ground.SlgmProg
import Derived.Deep.DeepCutAuto
import Derived.Test.YthgefcoaaommkaaGreatDoorZf
namespace Go.Proofs.YthgefcoaaommkaaGreatDoor
open Go.RowKit Go.Gn Go.Sr Go.Maps

noncomputable def rowK : KV Tryz.prog 3 Int Value := KV.of (int_keyed Tryz.underlying3) i64 (fun d => (Lit.int .i64 d).wf = true) (fun d h => by rw [keyOf_int_mk Tryz.underlying3 h]; rfl) (fun a b h => by injection h) id (fun _ _ h => h)
def kyL (k : Ky) : List Value := [i64 k.1, i64 k.2.1, enS k.2.2]
theorem kyL_length (k : Ky) : (kyL k).length = 3 := rfl
theorem one_kyL (k : Ky) : ∀ u ∈ kyL k, u.oneCell' = true := fun u hu => by
  simp only [kyL, List.mem_cons, List.not_mem_nil, or_false] at hu
  rcases hu with rfl | rfl | rfl <;> rfl
/-- The rows R of the days, in the map b. -/
structure Gath (base : Nat) (w : World) (b : Nat) (E : List (Int × Value)) (R : Int → List Ky) : Prop where
  m : MapA rowK w b E
  row : ∀ p ∈ E, w.ownsRow base 74 3 p.2 (R p.1).length ((R p.1).flatMap kyL)
  ne : ∀ p ∈ E, R p.1 ≠ []
  day : ∀ d, ∀ k ∈ R d, k.1 = d
  none : ∀ d, d ∉ E.map (·.1) → R d = []
abbrev nilV : Value := .slice none 0 0
section
variable {base b : Nat} {w w' : World} {E : List (Int × Value)} {R : Int → List Ky}
theorem Gath.made (base : Nat) (w : World) : Gath base (w.alloc (.map #[] 0)) w.heap.size [] fun _ => [] := ⟨MapA.made rowK w, by simp, by simp, by simp, fun _ _ => rfl⟩
theorem Gath.at_ (h : Gath base w b E R) (d : Int) : w.ownsRow base 74 3 ((getA E d).getD nilV) (R d).length ((R d).flatMap kyL) := by
  cases hg : getA E d with
  | none => rw [h.none d (getA_none hg)]; exact own2_nil _ _ _ _
  | some v => exact h.row (d, v) (getA_some hg)
/-- No row lies in the map's block. -/
theorem Gath.nb (h : Gath base w b E R) (p : Int × Value) (hp : p ∈ E) : p.2.ownBlock ≠ some b := fun e => by
  rcases (h.row p hp).2 with ⟨h1, _⟩ | ⟨g, cap, cur, h1, _, hb, _⟩
  · rw [h1] at e; cases e
  · rw [h1] at e
    cases e
    obtain ⟨es, c, hm⟩ := h.m.isMap
    rw [hm] at hb
    cases hb
theorem Gath.nb_at (h : Gath base w b E R) (d : Int) : ((getA E d).getD nilV).ownBlock ≠ some b := by
  cases hg : getA E d with
  | none => intro e; cases e
  | some v => exact h.nb (d, v) (getA_some hg)
/-- Rows of two days are two blocks: the first cell tells the day. -/
theorem Gath.apart (h : Gath base w b E R) (p q : Int × Value) (hp : p ∈ E) (hq : q ∈ E) (hne : p.1 ≠ q.1) : p.2.ownBlock = Option.none ∨ p.2.ownBlock ≠ q.2.ownBlock := by
  by_cases he : p.2.ownBlock = q.2.ownBlock
  · refine .inl ?_
    rcases (h.row p hp).2 with ⟨h1, h2⟩ | ⟨g, cap, cur, h1, _, hb, h3, h4, h5, h6⟩
    · rw [h1]; rfl
    · rcases (h.row q hq).2 with ⟨k1, k2⟩ | ⟨g', cap', cur', k1, _, kb, k3, k4, k5, k6⟩
      · exact absurd (List.length_eq_zero_iff.1 k2) (h.ne q hq)
      · exfalso
        rw [h1, k1] at he
        cases he
        rw [hb] at kb
        cases kb
        cases hx : R p.1 with
        | nil => exact h.ne p hp hx
        | cons x xs =>
          cases hy : R q.1 with
          | nil => exact h.ne q hq hy
          | cons y ys =>
            rw [hx] at h6; rw [hy] at k6
            have a1 : cur.toList[0]? = some (i64 x.1) := by
              have := congrArg (fun l => l[0]?) h6
              rw [List.getElem?_take_of_lt (by simp)] at this
              exact this
            have a2 : cur.toList[0]? = some (i64 y.1) := by
              have := congrArg (fun l => l[0]?) k6
              rw [List.getElem?_take_of_lt (by simp)] at this
              exact this
            rw [a1] at a2
            have e1 : x.1 = y.1 := by simpa using a2
            have e2 := h.day p.1 x (by rw [hx]; simp)
            have e3 := h.day q.1 y (by rw [hy]; simp)
            exact hne (e2.symm.trans (e1.trans e3))
  · exact .inr he
theorem Gath.apart_at (h : Gath base w b E R) (p : Int × Value) (hp : p ∈ E) (d : Int) (hne : p.1 ≠ d) : p.2.ownBlock = Option.none ∨ p.2.ownBlock ≠ ((getA E d).getD nilV).ownBlock := by
  cases hg : getA E d with
  | none =>
    cases ho : p.2.ownBlock with
    | none => exact .inl rfl
    | some g => exact .inr (by intro e; cases e)
  | some v => exact h.apart p (d, v) hp (getA_some hg) hne
/-- A row grown is stored. -/
theorem Gath.put {w1 w2 : World} {d : Int} {v : Value} {k : Ky} (h : Gath base w b E R) (hk : k.1 = d) (ho : w1.ownsRow base 74 3 v (R d ++ [k]).length ((R d ++ [k]).flatMap kyL)) (hg : w.grownBy w1 ((getA E d).getD nilV).ownBlock)
    (hm : MapA rowK w2 b (putA E d v)) (hg2 : w1.grownBy w2 (some b)) : Gath base w2 b (putA E d v) fun x => if x = d then R d ++ [k] else R x := by
  have hb1 : MapA rowK w1 b E := h.m.kept hg fun e => h.nb_at d e.symm
  refine ⟨hm, fun p hp => ?_, fun p hp => ?_, fun x y hy => ?_, fun x hx => ?_⟩
  · rcases (mem_putA p).1 hp with rfl | ⟨hp, hne⟩
    · simp only [if_true]
      refine ho.kept hg2 (.inr fun e => ?_)
      rcases ho.2 with ⟨h1, _⟩ | ⟨g, cap, cur, h1, _, hb, _⟩
      · rw [h1] at e; cases e
      · rw [h1] at e
        cases e
        obtain ⟨es, c, hm⟩ := hb1.isMap
        rw [hm] at hb
        cases hb
    · rw [if_neg hne]
      exact ((h.row p hp).kept hg (h.apart_at p hp d hne)).kept hg2 (.inr (h.nb p hp))
  · rcases (mem_putA p).1 hp with rfl | ⟨hp, hne⟩
    · simp
    · rw [if_neg hne]; exact h.ne p hp
  · split at hy
    · rename_i e
      subst e
      rcases List.mem_append.1 hy with hy | hy
      · exact h.day _ y hy
      · rw [List.mem_singleton.1 hy]; exact hk
    · exact h.day x y hy
  · rw [keys_putA] at hx
    split at hx
    · rename_i hd
      rw [if_neg (show ¬ x = d from fun e => hx (by rw [e]; exact hd))]
      exact h.none x hx
    · rw [if_neg (show ¬ x = d from fun e => hx (by rw [e]; simp))]
      exact h.none x fun e => hx (by simp [e])
/-- A row is sorted where it lies. -/
theorem Gath.sort {d : Int} {m : List Ky} (h : Gath base w b E R) (hp : m.Perm (R d)) (ho : w'.ownsRow base 74 3 ((getA E d).getD nilV) (R d).length (m.flatMap kyL)) (hg : w.grownBy w' ((getA E d).getD nilV).ownBlock) :
    Gath base w' b E fun x => if x = d then m else R x := by
  refine ⟨h.m.kept hg fun e => h.nb_at d e.symm, fun p hp' => ?_, fun p hp' => ?_, fun x y hy => ?_, fun x hx => ?_⟩
  · by_cases hne : p.1 = d
    · rw [if_pos hne, hp.length_eq]
      rw [← hne, (getA_iff h.m.two p.1 p.2).2 hp'] at ho
      rw [← hne]
      exact ho
    · rw [if_neg hne]
      exact (h.row p hp').kept hg (h.apart_at p hp' d hne)
  · split
    · rename_i e
      intro e2
      subst e2
      exact h.ne p hp' (by rw [e]; exact hp.symm.eq_nil)
    · exact h.ne p hp'
  · split at hy
    · rename_i e
      subst e
      exact h.day _ y (hp.mem_iff.1 hy)
    · exact h.day x y hy
  · split
    · rename_i e
      subst e
      have := h.none _ hx
      rw [this] at hp
      exact hp.eq_nil
    · exact h.none x hx
theorem Gath.keep {row : Option Nat} (h : Gath base w b E R) (hg : w.grownBy w' row) (hb : some b ≠ row) (hr : ∀ p ∈ E, p.2.ownBlock = Option.none ∨ p.2.ownBlock ≠ row) : Gath base w' b E R :=
  ⟨h.m.kept hg hb, fun p hp => (h.row p hp).kept hg (hr p hp), h.ne, h.day, h.none⟩
theorem Gath.below (h : Gath base w b E R) (hb : Below w.heap.size w w') : Gath base w' b E R :=
  h.keep (row := Option.none) ⟨hb.os, hb.tape, hb.output, hb.size, fun k hk _ => hb.block k hk⟩ (by intro e; cases e) fun p _ => by
    cases ho : p.2.ownBlock with
    | none => exact .inl rfl
    | some g => exact .inr (by intro e; cases e)
end
end Go.Proofs.YthgefcoaaommkaaGreatDoor

namespace Go.Proofs.YthgefcoaaommkaaGreatDoor
open Go.RowKit Go.Gn Go.Sr Go.Maps Go.Nr

/-- What a line's writing leaves: all below B, and what is no row of bytes. -/
def Wr (B bb : Nat) (u v : World) : Prop := Below B u v ∧ Lib.OthersKept 5 (some bb) u v
theorem Wr.refl (B bb : Nat) (u : World) : Wr B bb u u := ⟨Below.refl _ _, Lib.OthersKept.refl _ _ _⟩
theorem Wr.trans {B bb : Nat} {u v w : World} (h : Wr B bb u v) (k : Wr B bb v w) : Wr B bb u w := ⟨h.1.trans k.1, h.2.trans k.2⟩
theorem Wr.of_below {B bb : Nat} {u v : World} (h : Below u.heap.size u v) (hB : B ≤ u.heap.size) : Wr B bb u v := ⟨h.mono hB, OthersKept.of_below h (Nat.le_refl _) _⟩
theorem Wr.drew (B bb : Nat) (u : World) : Wr B bb u u.drew := ⟨(Below.refl _ _).drew, (Lib.OthersKept.refl _ _ _).drew⟩
theorem cls_wr {B bb : Nat} (w : World) : Nonempty (Flow.Cls (Wr B bb w)) := ⟨⟨w, Wr.refl _ _ _⟩⟩
theorem Wr.blk {B bb : Nat} {u v : World} (h : Wr B bb u v) {k : Nat} {cs : Array Value} {e : TypeId} {fr : Nat × Nat} (hk : u.heap[k]? = some (.cells cs e fr)) (he : e ≠ 5) (hb : k ≠ bb) : v.heap[k]? = some (.cells cs e fr) :=
  h.2 k _ hk (fun e => hb (by injection e)) fun c fz e => he (by injection e)
theorem Wr.cell {B bb : Nat} {u : World} {a : Addr} {x : Value} (h : ∀ v, Wr B bb u v → v.cell? a = some x) (t : Flow.Cls (Wr B bb u)) : t.val.cell? a = some x := h _ t.2
/-- A row of the call's own that is no row of bytes. -/
theorem own_wr {B bb base n size : Nat} {u v : World} {e : TypeId} {x : Value} {xs : List Value} (h : u.ownsRow base e size x n xs) (k : Wr B bb u v) (he : e ≠ 5) (hb : ∀ c fr, u.heap[bb]? ≠ some (.cells c e fr)) : v.ownsRow base e size x n xs := by
  refine ⟨h.1, ?_⟩
  rcases h.2 with hn | ⟨g, cap, cur, e1, hg, hgb, rest⟩
  · exact .inl hn
  · exact .inr ⟨g, cap, cur, e1, hg, k.blk hgb he (fun e2 => hb _ _ (e2 ▸ hgb)), rest⟩
theorem Bd.blk {B b : Nat} {l : List UInt8} {w : World} (h : Bd B b l w) : B ≤ b ∧ ∃ cs, w.heap[b]? = some (.cells cs 92 (0, 0)) := by
  rcases h with h | h
  · exact ⟨h.1, _, h.2.choose_spec.1⟩
  · exact ⟨h.1, _, h.2.choose_spec.1⟩
/-- A builder stays when a block below it turns. -/
theorem Bd.grown {B b g : Nat} {l : List UInt8} {w w' : World} (h : Bd B b l w) (hg : w.grownBy w' (some g)) (hlt : g < B) : Bd B b l w' := by
  have one : ∀ p, Lib.BuilderAt 92 5 B b p (Lib.byteCells l) w → Lib.BuilderAt 92 5 B b p (Lib.byteCells l) w' := fun p h => by
    have hl := h.lt
    obtain ⟨hB, v, hv, hown, hne⟩ := h
    refine ⟨hB, v, (hg.block b hl (fun e => by injection e with e; omega)).trans hv, hown.kept hg ?_, hne⟩
    cases ho : v.ownBlock with
    | none => exact .inl rfl
    | some k => exact .inr (fun e => by injection e with e; have := (hown.lt k ho).1; omega)
  exact h.elim (fun x => .inl (one _ x)) (fun x => .inr (one _ x))

/-- The world of the second loop of Text. -/
structure TxS (w0 : World) (B b0 bb : Nat) (E : List (Int × Value)) (A : Option Addr) (c : Nat) (days : List Int) (R : Int → List Ky) (l : List UInt8) (W : World) : Prop where
  ga : Gath w0.heap.size W b0 E R
  bu : Bd B bb l W
  dy : W.ownsRow B 3 1 (.slice A days.length c) days.length (days.map i64)
  be : Below w0.heap.size w0 W
  sz : B ≤ W.heap.size
  b0B : w0.heap.size ≤ b0 ∧ b0 < B
  low : ∀ q ∈ E, ∀ g, q.2.ownBlock = some g → g < B
section
variable {w0 : World} {B b0 bb c : Nat} {E : List (Int × Value)} {A : Option Addr} {days : List Int} {R : Int → List Ky} {l : List UInt8} {W W' : World}
theorem TxS.wr (h : TxS w0 B b0 bb E A c days R l W) (k : Wr B bb W W') {l' : List UInt8} (hb : Bd B bb l' W') : TxS w0 B b0 bb E A c days R l' W' := by
  have hB : w0.heap.size ≤ B := by have := h.b0B; omega
  have kb := fun i (hi : i < B) => k.1.block i hi
  refine ⟨⟨h.ga.m.keep (kb b0 h.b0B.2), fun q hq => ?_, h.ga.ne, h.ga.day, h.ga.none⟩, hb, ?_, h.be.trans (k.1.mono hB), Nat.le_trans h.sz k.1.size, h.b0B, h.low⟩
  · have := h.ga.row q hq
    refine ⟨this.1, ?_⟩
    rcases this.2 with hn | ⟨g, cap, cur, e1, hg, hgb, rest⟩
    · exact .inl hn
    · exact .inr ⟨g, cap, cur, e1, hg, (kb g (h.low q hq g (by rw [e1]; rfl))).trans hgb, rest⟩
  · obtain ⟨_, cs, hcs⟩ := h.bu.blk
    exact own_wr h.dy k (by decide) fun c' fr e => by
      rw [hcs] at e
      injection e with e
      injection e with _ e _
      exact absurd e (by decide)
theorem TxS.below (h : TxS w0 B b0 bb E A c days R l W) (k : Below W.heap.size W W') : TxS w0 B b0 bb E A c days R l W' := h.wr (Wr.of_below k h.sz) (h.bu.below k)
theorem TxS.sort (h : TxS w0 B b0 bb E A c days R l W) {d : Int} {m : List Ky} (hp : m.Perm (R d)) (ho : W'.ownsRow w0.heap.size 74 3 ((getA E d).getD nilV) (R d).length (m.flatMap kyL)) (hg : W.grownBy W' ((getA E d).getD nilV).ownBlock) :
    TxS w0 B b0 bb E A c days (fun x => if x = d then m else R x) l W' := by
  have hga := h.ga.sort hp ho hg
  cases hb : ((getA E d).getD nilV).ownBlock with
  | none =>
    rw [hb] at hg
    have k : Below W.heap.size W W' := ⟨hg.os, hg.tape, hg.output, hg.size, fun i hi => hg.block i hi (by intro e; cases e)⟩
    have h' := h.below k
    exact ⟨hga, h'.bu, h'.dy, h'.be, h'.sz, h'.b0B, h'.low⟩
  | some g =>
    rw [hb] at hg
    have hge : w0.heap.size ≤ g := ((h.ga.at_ d).lt g hb).1
    have hgB : g < B := by
      cases hq : getA E d with
      | none => rw [hq] at hb; cases hb
      | some v => rw [hq] at hb; exact h.low (d, v) (getA_some hq) g hb
    refine ⟨hga, h.bu.grown hg hgB, h.dy.kept hg ?_, h.be.grown hg (h.be.size) (fun k e => by cases e; exact hge), Nat.le_trans h.sz hg.size, h.b0B, h.low⟩
    cases ho : (Value.slice A days.length c).ownBlock with
    | none => exact .inl rfl
    | some k => exact .inr (fun e => by injection e with e; have := (h.dy.lt k ho).1; omega)
end

end Go.Proofs.YthgefcoaaommkaaGreatDoor

namespace Go.Proofs.YthgefcoaaommkaaGreatDoor
open Go.RowKit Go.Gn Go.Sr Go.Maps Go.Sort Go.Shelf

/-- The keys of the days' map, as the iterator's contract names them. -/
theorem kl_day {d : Int} (h : (Lit.int .i64 d).wf = true) : dayK.kl d = .int .i64 d := by
  have h1 := dayK.key d h
  have e : dayK.kv d = i64 d := by unfold dayK KV.of; rfl
  rw [e, keyOf_int_mk Tryz.underlying3 h] at h1
  exact (Option.some.inj h1).symm
theorem ent_intKeys {w : World} {b n : Nat} {D : DataW Value} {L : List (Int × C)} (hown : w.ownsMap Tryz.prog 3 heldR b n D) (h : Ent dayK D L) : (intKeys D).Perm (L.map (·.1)) := by
  refine (CollectedI.perm (left := fun _ => false) ⟨h.two, fun x => ?_⟩ hown dayK.K Tryz.underlying3 (fun _ => rfl)).symm
  constructor
  · intro hx
    obtain ⟨p, hp, rfl⟩ := List.mem_map.1 hx
    refine ⟨?_, rfl⟩
    rw [← kl_day (h.ok p hp)]
    exact has_true_of_atKey (h.at_ p hp)
  · rintro ⟨hx, _⟩
    obtain ⟨p, hp, e⟩ := h.has _ hx
    rw [kl_day (h.ok p hp)] at e
    injection e with _ e
    exact List.mem_map.2 ⟨p, hp, e.symm⟩
/-- slices.Sort's two contracts at this dump, at the fence that asks nothing. -/
theorem sortsD (m : Nat) : AnyZI.SortsIn Tryz.prog Tryz.sortedD_ren Fence.wide m :=
  ⟨fun blk off cap ss W hH hblk hsz => callsIn_wide.2 (AnyM.slices_Sort_int Tryz.sortD blk off cap ss W hH hblk hsz),
   fun p cap W => callsIn_wide.2 (AnyM.slices_Sort_int_none Tryz.sortD p cap W)⟩
theorem keysC (mb : Option Nat) (W : World) : Calls Tryz.prog 50 #[.map mb] W fun e w' => e = .returned (.func (.func 88) #[] #[.pointer (some ⟨W.heap.size, 0, none⟩)]) ∧ w' = W.alloc (.cells #[.map mb] 69) :=
  (callsIn_wide (n := 5)).1 (AnyZI.keys_in Tryz.keysD Fence.wide 5 trivial rfl mb W)
theorem sortedC (bd : Nat) (ds : List (Int × C)) (w : World) (h : MapA dayK w bd ds) (hn : ds.length ≤ 100000) :
    Calls Tryz.prog 49 #[.func (.func 88) #[] #[.pointer (some ⟨w.heap.size, 0, none⟩)]] (w.alloc (.cells #[.map (some bd)] 69)) fun e w' => ∃ (v : Value) (ss : List Int), e = .returned v ∧ ss.Perm (ds.map (·.1)) ∧
      w'.ownsRow w.heap.size 3 1 v ss.length ((ss.mergeSort (fun x y => decide (x ≤ y))).map i64) ∧ Below w.heap.size w w' := by
  have hbl := h.lt
  obtain ⟨D, hown, hent⟩ := h
  have hperm := ent_intKeys hown hent
  have hown := own_tight hown
  have hsz : Maps.size D = ds.length := hent.size
  have hmax : Maps.size D ≤ maxLen := by rw [hsz]; unfold maxLen; omega
  have hbytes : Maps.size D * 8 ≤ 140737488355328 := by rw [hsz]; omega
  have hseq : SeqGives Fence.wide 2 Tryz.prog 88 #[.pointer (some ⟨w.heap.size, 0, none⟩)] encZ (fun ss => ss.Perm (intKeys D)) (Maps.size D) (w.alloc (.cells #[.map (some bd)] 69)) :=
    AnyZI.keys_gives (ρ := Tryz.keysD_ren) { Tryz.keysD with } Fence.wide _ trivial rfl (by omega) w.heap.size bd (Maps.size D) D _ (by simp) (by simp) (by
      obtain ⟨es, clock, hb, Ft, hs, hD⟩ := hown
      exact ⟨es, clock, (Below.heap_alloc _ _ bd hbl).trans hb, Ft, hs, hD⟩)
  have cS := AnyZI.sorted_in Tryz.sortedD Fence.wide 5 trivial trivial trivial trivial rfl (by omega) (sortsD _) (enters_of Tryz.func87 (by kernel_rfl) rfl) 88 #[.pointer (some ⟨w.heap.size, 0, none⟩)] trivial (enters_of Tryz.func88 (by kernel_rfl) rfl) _ _ hmax hbytes _ hseq
  change CallsIn _ _ Tryz.prog 49 _ _ _ at cS
  refine ((callsIn_wide (n := 5)).1 cS).mono ?_
  rintro e w' ⟨v, ss, rfl, hS, hrow, hnil, hb⟩
  exact ⟨v, ss, rfl, hS.trans hperm, ownsRow_base_a hrow (by simp), ((Below.refl _ w).alloc (Nat.le_refl _) _).trans (hb.mono (by simp))⟩
/-- The sorted days. -/
theorem days_sorted {ds : List (Int × C)} (hn : NoTwo ds) {ss : List Int} (hp : ss.Perm (ds.map (·.1))) : ss.mergeSort (fun x y => decide (x ≤ y)) = insAll icmp (ds.map (·.1)) := by
  have pm := List.mergeSort_perm ss (fun x y => decide (x ≤ y))
  refine sorted_insAll icmp_lin ?_ ((pm.trans hp).nodup_iff.2 hn) (fun x => (pm.trans hp).mem_iff)
  have tr : ∀ a b c : Int, decide (a ≤ b) = true → decide (b ≤ c) = true → decide (a ≤ c) = true := fun a b c h1 h2 => by simp only [decide_eq_true_eq] at *; omega
  have tot : ∀ a b : Int, (decide (a ≤ b) || decide (b ≤ a)) = true := fun a b => by simp only [Bool.or_eq_true, decide_eq_true_eq]; omega
  refine (List.pairwise_mergeSort tr tot ss).imp fun {a b} hab => ?_
  have hab := of_decide_eq_true hab
  unfold icmp
  split <;> (try split) <;> omega
end Go.Proofs.YthgefcoaaommkaaGreatDoor

namespace Go.Proofs.YthgefcoaaommkaaGreatDoor
open Go.RowKit Go.Gn Go.Sr Go.Maps Go.Nr

/-- Some blocks stay, and all below. -/
def KeepT (B : Nat) (K : List Nat) (u v : World) : Prop := Below B u v ∧ ∀ k ∈ K, v.heap[k]? = u.heap[k]?
theorem KeepT.refl (B : Nat) (K : List Nat) (u : World) : KeepT B K u u := ⟨Below.refl _ _, fun _ _ => rfl⟩
theorem KeepT.trans {B : Nat} {K : List Nat} {u v w : World} (h : KeepT B K u v) (k : KeepT B K v w) : KeepT B K u w := ⟨h.1.trans k.1, fun i hi => (k.2 i hi).trans (h.2 i hi)⟩
theorem KeepT.of_below {B : Nat} {K : List Nat} {u v : World} (h : Below u.heap.size u v) (hB : B ≤ u.heap.size) (hK : ∀ k ∈ K, k < u.heap.size) : KeepT B K u v := ⟨h.mono hB, fun k hk => h.block k (hK k hk)⟩
theorem KeepT.grown {B : Nat} {K : List Nat} {u v : World} {row : Option Nat} (h : u.grownBy v row) (hB : B ≤ u.heap.size) (hr : ∀ g, row = some g → B ≤ g) (hK : ∀ k ∈ K, k < u.heap.size ∧ some k ≠ row) : KeepT B K u v := ⟨(Below.refl B u).grown h hB hr, fun k hk => h.block k (hK k hk).1 (hK k hk).2⟩
theorem cls_keep {B : Nat} {K : List Nat} (w : World) : Nonempty (Flow.Cls (KeepT B K w)) := ⟨⟨w, KeepT.refl _ _ _⟩⟩
theorem KeepT.cell {B : Nat} {K : List Nat} {u : World} {k o : Nat} {x : Value} (hk : k ∈ K) (h : u.cell? ⟨k, o, none⟩ = some x) (t : Flow.Cls (KeepT B K u)) : t.val.cell? ⟨k, o, none⟩ = some x := by
  rw [World.cell?_of_block (t.2.2 k hk)]; exact h
/-- An iterator's block is no row. -/
theorem RngA.noCells {P : Program} {k : TypeId} {κ β : Type} {S : KV P k κ β} {w : World} {b r : Nat} {L done : List (κ × β)} (h : RngA S w b r L done) : ∀ cs e fr, w.heap[r]? ≠ some (.cells cs e fr) := fun cs e fr hc => by
  obtain ⟨D, n, left, cnt, ⟨es, clock, since, seen, c0, hb, F, hs, hD, hr, rest⟩, h2⟩ := h
  rw [hc] at hr
  cases hr
theorem MapA.noCells {P : Program} {k : TypeId} {κ β : Type} {S : KV P k κ β} {w : World} {b : Nat} {L : List (κ × β)} (h : MapA S w b L) : ∀ cs e fr, w.heap[b]? ≠ some (.cells cs e fr) := fun cs e fr hc => by
  obtain ⟨es, c, hm⟩ := h.isMap
  rw [hc] at hm
  cases hm
theorem own_noCells {w : World} {base n size : Nat} {e : TypeId} {v : Value} {xs : List Value} (h : w.ownsRow base e size v n xs) {k : Nat} (hk : ∀ cs e fr, w.heap[k]? ≠ some (.cells cs e fr)) : some k ≠ v.ownBlock := fun e2 => by
  rcases h.2 with ⟨h1, _⟩ | ⟨g, cap, cur, h1, _, hb, _⟩
  · rw [h1] at e2; cases e2
  · rw [h1] at e2
    cases e2
    exact hk _ _ _ hb
/-- The names gathered so far. -/
structure GaS (w0 : World) (b0 : Nat) (E : List (Int × Value)) (R : Int → List Ky) (done : List (Ky × C)) (W : World) : Prop where
  ga : Gath w0.heap.size W b0 E R
  eq : ∀ d, R d = (done.map (·.1)).filter fun k => decide (k.1 = d)
  be : Below w0.heap.size w0 W
  len : E.length ≤ done.length
theorem GaS.below {w0 W W' : World} {b0 : Nat} {E : List (Int × Value)} {R : Int → List Ky} {done : List (Ky × C)} (h : GaS w0 b0 E R done W) (k : Below W.heap.size W W') : GaS w0 b0 E R done W' :=
  ⟨h.ga.below k, h.eq, h.be.tr k, h.len⟩
/-- One more name, its row stored. -/
theorem GaS.more {w0 W W1 W2 : World} {b0 : Nat} {E : List (Int × Value)} {R : Int → List Ky} {done : List (Ky × C)} {k : Ky} {c : C} {v : Value} (h : GaS w0 b0 E R done W) (ho : W1.ownsRow w0.heap.size 74 3 v (R k.1 ++ [k]).length ((R k.1 ++ [k]).flatMap kyL)) (hg : W.grownBy W1 ((getA E k.1).getD nilV).ownBlock)
    (hm : MapA rowK W2 b0 (putA E k.1 v)) (hg2 : W1.grownBy W2 (some b0)) (hb0 : w0.heap.size ≤ b0) : GaS w0 b0 (putA E k.1 v) (fun x => if x = k.1 then R k.1 ++ [k] else R x) (done ++ [(k, c)]) W2 := by
  have b1 : Below w0.heap.size W W1 := (Below.refl _ _).grown hg h.be.size fun g e => ((h.ga.at_ k.1).lt g e).1
  have b2 : Below w0.heap.size W1 W2 := (Below.refl _ _).grown hg2 (Nat.le_trans h.be.size b1.size) fun g e => by cases e; exact hb0
  refine ⟨h.ga.put rfl ho hg hm hg2, fun d => ?_, h.be.trans (b1.trans b2), ?_⟩
  · rw [List.map_append, List.filter_append, List.map_singleton]
    split
    · rename_i e
      rw [e, ← h.eq, List.filter_cons_of_pos (by simp)]
      rfl
    · rename_i e
      rw [h.eq d, List.filter_cons_of_neg (by simpa using fun e2 => e e2.symm)]
      simp
  · rw [putA_length, List.length_append, List.length_singleton]
    have := h.len
    split <;> omega
theorem zeroK (w : World) : (zeroValue 88).run Tryz.prog w = .ok nilV w := by kernel_rfl
theorem ky_info : ∃ i z, Tryz.prog.info? 74 = some i ∧ i.zero = some z ∧ i.size = 3 ∧ i.bytes = 32 ∧ z.cells.size = 3 := by
  have h : (Tryz.prog.info? 74).map (fun i => (i.zero.map (fun z => z.cells.size), i.size, i.bytes)) = some (some 3, 3, 32) := by kernel_rfl
  obtain ⟨i, hi, he⟩ := Option.map_eq_some_iff.1 h
  simp only [Prod.mk.injEq] at he
  obtain ⟨z, hz, hc⟩ := Option.map_eq_some_iff.1 he.1
  exact ⟨i, z, hi, hz, he.2.1, he.2.2, hc⟩
end Go.Proofs.YthgefcoaaommkaaGreatDoor

namespace Go.Proofs.YthgefcoaaommkaaGreatDoor
open Go.RowKit Go.Gn Go.Sr Go.Maps Go.Nr

theorem rd_new (w : World) (xs : List (List UInt8)) : Rd (w.alloc (.cells (xs.map enS).toArray 9)) (some ⟨w.heap.size, 0, none⟩) xs := fun _ => ⟨_, 0, rfl, by simp, fun j x hj => by
  rw [blk_cell (blk_new _ _), Nat.zero_add, List.getElem?_toArray, List.getElem?_map, hj]; rfl⟩
theorem text3 (a b c : List UInt8) : text 32 [a, b, c] = a ++ 32 :: b ++ 32 :: c := by simp [text_cons, text_one]
theorem text4 (a b c d : List UInt8) : text 32 [a, b, c, d] = a ++ 32 :: b ++ 32 :: c ++ 32 :: d := by simp [text_cons, text_one]
theorem word_len (k : Int) : (wordT k).length ≤ 6 := by unfold wordT; split <;> (try split) <;> (try split) <;> (try split) <;> simp
set_option maxRecDepth 100000 in
set_option maxHeartbeats 16000000 in
theorem textTail7 {v1 v2 v3 v4 v7 v8 v9 v10 v11 v12 v13 v14 v15 v16 v17 v18 v19 v20 v21 v22 v23 v24 v25 v26 v27 v28 v29 v30 v31 v32 v33 v34 v35 v36 v37 v38 v39 v40 v41 v42 v43 v44 v45 v46 v47 v48 v49 v50 v51 v52 v53 v54 v55 v56 v57 v58 v59 v60 v61 v62 v63 v64 v65 v66 v67 v68 v69 v70 v71 v72 v73 v74 v75 v76 v77 v78 v79 v80 v81 v82 v83 v84 v85 v86 v87 v88 v89 v90 v91 v92 v93 v94 v95 v96 v97 v98 v99 v100 v101 v102 v103 v104 v105 v106 v107 v108 v109 v110 v111 v112 v113 v114 v115 v116 v117 v118 v119 v120 : Value} (p bd bn : Nat) (ds : List (Int × C)) (ns : List (Ky × C)) (zs : List Int) (w W : World) (B bb : Nat) (l : List UInt8) (h : StM w p bd bn ds ns zs) (hT : Tab w) (hbe : Below w.heap.size w W) (hb : Bd B bb l W) (hB : B ≤ W.heap.size) (hwB : w.heap.size ≤ B) (hl : l.length ≤ 9000000000) (hz : ∀ k, 0 ≤ zs.getD k 0 ∧ zs.getD k 0 ≤ 1000000000000000) (T0 : List UInt8) (hT0 : T0 = l ++ sizesT zs) :
    Code.wp Tryz.prog (Flow.rest 7 Tryz.f17) (bodyPost Tryz.prog Tryz.f17 fun e w' => e = .returned (enS T0) ∧ Below w.heap.size w w') ⟨#[.pointer (some ⟨p, 0, none⟩), v1, v2, v3, v4, .pointer (some ⟨bb, 0, none⟩), .func (.func 45) #[] #[.pointer (some ⟨bb, 0, none⟩)], v7, v8, v9, v10, v11, v12, v13, v14, v15, v16, v17, v18, v19, v20, v21, v22, v23, v24, v25, v26, v27, v28, v29, v30, v31, v32, v33, v34, v35, v36, v37, v38, v39, v40, v41, v42, v43, v44, v45, v46, v47, v48, v49, v50, v51, v52, v53, v54, v55, v56, v57, v58, v59, v60, v61, v62, v63, v64, v65, v66, v67, v68, v69, v70, v71, v72, v73, v74, v75, v76, v77, v78, v79, v80, v81, v82, v83, v84, v85, v86, v87, v88, v89, v90, v91, v92, v93, v94, v95, v96, v97, v98, v99, v100, v101, v102, v103, v104, v105, v106, v107, v108, v109, v110, v111, v112, v113, v114, v115, v116, v117, v118, v119, v120], []⟩ W := by
  subst hT0
  refine Flow.wp_rest rfl ?_
  have hzl := h.zl
  have hpl := (h.below hbe).lp
  have HRZ := Lib.hid (h.below hbe).rz
  have HT := Lib.hid hT
  have HB0 := Lib.hid hb
  have BE0 := Lib.hid hbe
  have TZ : Hid (l ++ sizesT zs = l ++ sizesU zs 18) := Lib.hid (by (show _ = _); unfold sizesT sizesU; rw [hzl])
  rw [TZ.out]
  obtain ⟨Z, hZ⟩ : ∃ Z, (zs.map i64).toArray = Z := ⟨_, rfl⟩
  have HZ := Lib.hid hZ
  have hsz : (zs.map i64).length = 18 := by rw [List.length_map]; exact hzl
  have HS : Hid ((Tryz.prog.info? 63).map (·.size) = some 18) := Lib.hid (by kernel_rfl)
  clear h hT hbe hb TZ hZ
  dsimp only
  go_wp2_with (refine wpList_load_mid rfl 63 _ rfl p 2 rfl (zs.map i64) _ HRZ.out Tryz.underlying63 rfl (by rw [hsz]; exact HS.out) ?_)
  rw [show (zs.map i64).toArray = Z from HZ.out]
  have HZs : Hid (Z.size = 18) := Lib.hid (by (show _ = _); rw [← HZ.out]; simpa using hzl)
  go_loopg [105] 18 (fun gg kv wr => ∃ (k : Nat) (l' : List UInt8), k ≤ 18 ∧ 18 - k ≤ gg ∧ kv = i64 k ∧ l'.length ≤ l.length + 100 * k ∧ Hid (l' = l ++ sizesU zs k) ∧ Hid (Bd B bb l' wr) ∧ Hid (Below w.heap.size w wr) ∧ B ≤ wr.heap.size)
  case atStart => exact ⟨0, l, by omega, by omega, rfl, by omega, Lib.hid (by (show l = _); simp [sizesU]), HB0, BE0, hB⟩
  case round =>
    obtain ⟨k, l', hk, hgk, rfl, hll, HL, HB, BE, hBw⟩ := hrel
    by_cases hlt : k < 18
    · have hzk := hz k
      have FSz := Lib.hid (sizesU_succ zs k)
      have HZx : Hid (Z[k]? = some (i64 (zs.getD k 0))) := Lib.hid (by
        (show _ = _); rw [← HZ.out, List.getElem?_toArray, List.getElem?_map, List.getElem?_eq_getElem (by omega), List.getD_eq_getElem?_getD, List.getElem?_eq_getElem (by omega)]; rfl)
      have HLN : Hid (sizeLn k (zs.getD k 0) = if zs.getD k 0 = 0 then [] else text 32 [wordT 4, dg k, dg (zs.getD k 0)] ++ [10]) := Lib.hid (by (show _ = _); unfold sizeLn; rw [text3]; try simp)
      rw [show sizeLn k (zs.getD k 0) = _ from HLN.out] at FSz
      clear HLN
      generalize zs.getD k 0 = x at *
      by_cases hx : x = 0
      · subst hx
        have HL' : Hid (l' = l ++ sizesU zs (k + 1)) := Lib.hid (by (show _ = _); rw [FSz.out, if_pos rfl, List.append_nil]; exact HL.out)
        clear FSz HL
        go_wp2_with (refine wpList_index18 rfl _ _ rfl Z HZs.out k hlt (i64 0) HZx.out rfl rfl ?_)
        go_roundg (18 - (k + 1))
        case measure => omega
        case rel => exact ⟨k + 1, l', by omega, by omega, by go_num, by omega, HL', HB, BE, hBw⟩
      · have hxt : (x != 0) = true := by simpa using hx
        have HD1 := Lib.hid (fun W (h : Tab W) => digits_any (k : Int) W (by omega) (by omega) h)
        have HD2 := Lib.hid (fun W (h : Tab W) => digits_any x W hzk.1 hzk.2 h)
        have l1 := dg_len (n := (k : Int)) (by omega) (by omega)
        have l2 := dg_len (n := x) hzk.1 hzk.2
        have HW := Lib.hid (fun W => word_any 4 W (by omega) (by omega))
        have l3 := word_len 4
        have FS2 : Hid (l ++ sizesU zs (k + 1) = l' ++ text 32 [wordT 4, dg k, dg x] ++ [10]) := Lib.hid (by (show _ = _); rw [FSz.out, if_neg hx, HL.out]; simp only [List.append_assoc])
        clear FSz HL
        generalize wordT 4 = w4 at *
        generalize dg (k : Int) = dk at *
        generalize dg x = dx at *
        obtain ⟨T, hTx⟩ : ∃ T, text 32 [w4, dk, dx] = T := ⟨_, rfl⟩
        have hTl : T.length ≤ 60 := by rw [← hTx, text3]; simp; omega
        have HTx := Lib.hid hTx
        rw [hTx] at FS2
        clear hTx hx
        go_wp2_with (refine wpList_index18 rfl _ _ rfl Z HZs.out k hlt (i64 x) HZx.out rfl rfl ?_)
        refine (HW.out _).mono ?_; rintro e u1 ⟨rfl, b⟩
        have HB1 := Lib.hid (HB.out.below b); have BE1 := Lib.hid (BE.out.tr b); have hB1 := Nat.le_trans hBw b.size
        clear b HB BE hBw
        go_wp2_with fail
        refine (HD1.out _ (HT.out.below BE1.out)).mono ?_; rintro e u2 ⟨rfl, b⟩
        have HB2 := Lib.hid (HB1.out.below b); have BE2 := Lib.hid (BE1.out.tr b); have hB2 := Nat.le_trans hB1 b.size
        clear b HB1 BE1 hB1
        go_wp2_with fail
        refine (HD2.out _ (HT.out.below BE2.out)).mono ?_; rintro e u3 ⟨rfl, b⟩
        have HB3 := Lib.hid (HB2.out.below b); have BE3 := Lib.hid (BE2.out.tr b); have hB3 := Nat.le_trans hB2 b.size
        clear b HB2 BE2 hB2
        go_wp2_with fail
        have bA := below_new u3 (.cells #[enS w4, enS dk, enS dx] 9)
        have HR : Hid (Rd (u3.alloc (.cells #[enS w4, enS dk, enS dx] 9)) (some ⟨u3.heap.size, 0, none⟩) [w4, dk, dx]) := Lib.hid (rd_new u3 [w4, dk, dx])
        have HB4 := Lib.hid (HB3.out.below bA); have BE4 := Lib.hid (BE3.out.tr bA); have hB4 := Nat.le_trans hB3 bA.size
        clear bA HB3 BE3 hB3
        have HWr := Lib.hid (write_any B bb l' (some ⟨u3.heap.size, 0, none⟩) 3 [w4, dk, dx] (u3.alloc (.cells #[enS w4, enS dk, enS dx] 9)) HB4.out HR.out (by simp) (by simp) T HTx.out (by omega) (by omega) hB4)
        clear HR
        generalize u3.alloc _ = u4 at *
        refine HWr.out.mono ?_; rintro e u5 ⟨rfl, d, b, _⟩
        have HB5 := Lib.hid d; have BE5 := Lib.hid (BE4.out.trans (b.mono hwB)); have hB5 := Nat.le_trans hB4 b.size
        clear d b HB4 BE4 hB4 HWr HW HD1 HD2
        go_wp2_with fail
        go_roundg (18 - (k + 1))
        case measure => omega
        case rel => exact ⟨k + 1, l' ++ T ++ [10], by omega, by omega, by go_num, by simp; omega, Lib.hid FS2.out.symm, HB5, BE5, hB5⟩
    · obtain rfl : k = 18 := by omega
      have HSt := Lib.hid (Tryz.Builder_String_any B bb l' wr HB.out hBw)
      clear HB
      go_wp2_with fail
      refine HSt.out.mono ?_; rintro e u1 ⟨rfl, b⟩
      have BE1 := Lib.hid (BE.out.trans (b.mono hwB))
      clear b BE HSt
      go_wp2_with fail
      go_ret
      exact ⟨by rw [HL.out]; rfl, BE1.out⟩
end Go.Proofs.YthgefcoaaommkaaGreatDoor
