/- Rows that grow side by side; bytes among the arguments. -/
import Derived.Test.YtcpennlojjlpaaaGreatDoorNyS
import Derived.Test.YtcpennlojjlpaaaGreatDoorZi
import Derived.OwnWalk
namespace Go.Proofs.YtcpennlojjlpaaaGreatDoor
open Go.RowKit Go.Nr Go.Gn Go.WideShapes Go.ChangeShapes Go.ChangeAt

/-- The slice with the address A and al many bytes al xs has reads al xs. -/
def RdU (w : World) (A : Option Addr) (xs : List Int) : Prop := (∀ x ∈ xs, 0 ≤ x ∧ x ≤ 255) ∧ (0 < xs.length → ∃ b o, A = some ⟨b, o, none⟩ ∧ b < w.heap.size ∧ ∀ (j : Nat) (x : Int), xs[j]? = some x → w.cell? ⟨b, o + j, none⟩ = some (.int .u8 x))
theorem RdU.below {w w' : World} {A : Option Addr} {xs : List Int} (h : RdU w A xs) (hb : Below w.heap.size w w') : RdU w' A xs := ⟨h.1, fun hl => by
  obtain ⟨b, o, e, hlt, hc⟩ := h.2 hl
  exact ⟨b, o, e, Nat.lt_of_lt_of_le hlt hb.size, fun j x hj => Below.cellv hb (hc j x hj)⟩⟩
section
variable {H : Type} {enc : TypeId × Value → H} {P : Program} {W : World}
/-- A slice of bytes among the arguments. -/
theorem open_u8s {r : Reach} {b0 base : Nat} {sp : Nat → Bool} {held : Bool} {t e : TypeId} {v : Value} {d : DataW H} {p : List MemPlace} (ht : P.underlying t = some (.slice e)) (he : P.underlying e = some (.int .u8)) (hc : P.cellsOf e = 1)
    (hv : Value.okWide P W r b0 t v) (h : DataW.Trod enc P W base sp held t v d p) : ∃ (A : Option Addr) (c : Nat) (xs : List Int), v = .slice A xs.length c ∧ RdU W A xs ∧ xs.length ≤ c ∧ c ≤ maxLen := by
  obtain ⟨a0, len, cap, rfl⟩ := okWide_slice ht hv
  obtain ⟨fuel, hf⟩ := h
  rcases open_ints ht he hc hf with ⟨hcs, _⟩ | ⟨a, len', cap', zs, hcs, _, hl, hm, hz, _, hcell, hwf⟩
  · cases hcs
    exact ⟨none, 0, [], rfl, ⟨by simp, fun h => absurd h (by simp)⟩, by simp, by simp [maxLen]⟩
  · cases hcs
    have hle : len ≤ zs.length := by rw [hz]; split <;> omega
    have em : IntKind.u8.min = 0 := by decide
    have eM : IntKind.u8.max = 255 := by decide
    refine ⟨some a, cap, zs.take len, by rw [List.length_take, Nat.min_eq_left hle], ⟨fun x hx => ?_, ?_⟩, by rw [List.length_take]; omega, hm⟩
    · have := hwf x (List.mem_of_mem_take hx)
      simp [Lit.wf, em, eM] at this
      omega
    intro hpos
    have h0 : 0 < len := by rw [List.length_take] at hpos; omega
    obtain ⟨b, o, s⟩ := a
    have hs : s = none := by
      have := hcell 0 (by omega)
      rw [show (⟨b, o, s⟩ : Addr).add 0 = ⟨b, o, s⟩ by cases s <;> rfl] at this
      exact slot_none this
    subst hs
    refine ⟨b, o, rfl, World.block_lt_of_cell? W _ (hcell 0 (by omega)), fun j x hj => ?_⟩
    have hjl : j < len := by
      have := (List.getElem?_eq_some_iff.1 hj).1
      rw [List.length_take] at this; omega
    have := hcell j (by omega)
    rw [addr_addN] at this
    rw [this]
    rw [List.getElem?_take_of_lt hjl] at hj
    rw [List.getD_eq_getElem?_getD, hj]; rfl
end

/-- A row that grows, behind block N. -/
def Gr (N : Nat) (w : World) (e : TypeId) (size : Nat) (A : Option Addr) (c n : Nat) (xs : List Value) : Prop := w.ownsRow 0 e size (.slice A n c) n xs ∧ ∀ p, A = some p → N ≤ p.block
/-- Two rows lie apart. -/
def Df (A B : Option Addr) : Prop := ∀ p q, A = some p → B = some q → p.block ≠ q.block
theorem Df.none_l {B : Option Addr} : Df none B := fun p q h => by cases h
theorem Df.none_r {A : Option Addr} : Df A none := fun p q _ h => by cases h
theorem Df.symm {A B : Option Addr} (h : Df A B) : Df B A := fun p q hp hq e => h q p hq hp e.symm
theorem Gr.nil (N : Nat) (w : World) (e : TypeId) (size : Nat) : Gr N w e size none 0 0 [] := ⟨own2_nil _ _ _ _, fun p h => by cases h⟩
theorem Gr.below {N : Nat} {w w' : World} {e : TypeId} {size c n : Nat} {A : Option Addr} {xs : List Value} (h : Gr N w e size A c n xs) (hb : Below w.heap.size w w') : Gr N w' e size A c n xs := ⟨own_below h.1 hb, h.2⟩
theorem Gr.kept {N : Nat} {w w' : World} {e : TypeId} {size c n : Nat} {A : Option Addr} {xs : List Value} (h : Gr N w e size A c n xs) {row : Option Nat} (hg : w.grownBy w' row) (hne : ∀ p, A = some p → some p.block ≠ row) : Gr N w' e size A c n xs := by
  refine ⟨h.1.kept hg ?_, h.2⟩
  cases A with
  | none => exact .inl rfl
  | some p => exact .inr (hne p rfl)
theorem Gr.lt {N : Nat} {w : World} {e : TypeId} {size c n : Nat} {A : Option Addr} {xs : List Value} (h : Gr N w e size A c n xs) {p : Addr} (hp : A = some p) : p.block < w.heap.size := by
  subst hp; exact (h.1.lt p.block rfl).2
theorem own_blk {A : Option Addr} {n c k : Nat} (h : (Value.slice A n c).ownBlock = some k) : ∃ p, A = some p ∧ p.block = k := by
  cases A with
  | none => cases h
  | some p => exact ⟨p, rfl, by simpa [Value.ownBlock] using h⟩
/-- A row grows: it still lies behind N, apart from the others, which stay. -/
theorem Gr.grow {N : Nat} {w w1 w2 : World} {e : TypeId} {size c n c3 m : Nat} {A A3 : Option Addr} {xs ys : List Value} (h : Gr N w e size A c n xs) (hb : Below w.heap.size w w1) (hN : N ≤ w.heap.size)
    (ho : w2.ownsRow 0 e size (.slice A3 m c3) m ys) (hg : w1.grownBy w2 (Value.slice A n c).ownBlock) (hf : (Value.slice A3 m c3).ownBlock = (Value.slice A n c).ownBlock ∨ ∃ g, (Value.slice A3 m c3).ownBlock = some g ∧ w.heap.size ≤ g) :
    Gr N w2 e size A3 c3 m ys ∧ Below N w w2 ∧ ∀ {e' : TypeId} {s' d k : Nat} {B : Option Addr} {zs : List Value}, Gr N w e' s' B d k zs → Df A B → Gr N w2 e' s' B d k zs ∧ Df A3 B := by
  have hA : ∀ p, A3 = some p → (∃ q, A = some q ∧ q.block = p.block) ∨ w.heap.size ≤ p.block := fun p hp => by
    subst hp
    rcases hf with h1 | ⟨g, h1, h2⟩
    · obtain ⟨q, hq, e1⟩ := own_blk h1.symm
      exact .inl ⟨q, hq, e1⟩
    · simp [Value.ownBlock] at h1
      exact .inr (by omega)
  have hs := hb.size
  refine ⟨⟨ho, fun p hp => ?_⟩, ?_, fun {e' s' d k B zs} hB hD => ⟨(hB.below hb).kept hg fun p hp e1 => ?_, fun p q hp hq => ?_⟩⟩
  · rcases hA p hp with ⟨q, hq, e1⟩ | h1
    · rw [← e1]; exact h.2 q hq
    · omega
  · refine (hb.mono hN).grown hg (by omega) fun k hk => ?_
    obtain ⟨p, hp, e1⟩ := own_blk hk
    rw [← e1]; exact h.2 p hp
  · obtain ⟨q, hq, e2⟩ := own_blk e1.symm
    exact hD q p hq hp e2
  · rcases hA p hp with ⟨r, hr, e1⟩ | h1
    · rw [← e1]; exact hD r q hr hq
    · have := hB.lt hq; omega

/-- The four rows of the loop. -/
structure TB (wN w : World) (Ah : Option Addr) (ch : Nat) (hs : List N) (At : Option Addr) (ct : Nat) (ts : List N) (Aa : Option Addr) (ca : Nat) (al : List Int) (Au : Option Addr) (cu : Nat) (us : List Bool) : Prop where
  bel : Below wN.heap.size wN w
  gh : Gr wN.heap.size w 69 33 Ah ch hs.length (flatN hs)
  gt : Gr wN.heap.size w 69 33 At ct ts.length (flatN ts)
  ga : Gr wN.heap.size w 3 1 Aa ca al.length (al.map i64)
  gu : Gr wN.heap.size w 4 1 Au cu us.length (us.map Value.bool)
  ht : Df Ah At
  ha : Df Ah Aa
  hu : Df Ah Au
  ta : Df At Aa
  tu : Df At Au
  au : Df Aa Au
section
variable {wN w w1 w2 : World} {Ah : Option Addr} {ch : Nat} {hs : List N} {At : Option Addr} {ct : Nat} {ts : List N} {Aa : Option Addr} {ca : Nat} {al : List Int} {Au : Option Addr} {cu : Nat} {us : List Bool}
theorem TB.below (h : TB wN w Ah ch hs At ct ts Aa ca al Au cu us) (hb : Below w.heap.size w w1) : TB wN w1 Ah ch hs At ct ts Aa ca al Au cu us :=
  ⟨h.bel.tr hb, h.gh.below hb, h.gt.below hb, h.ga.below hb, h.gu.below hb, h.ht, h.ha, h.hu, h.ta, h.tu, h.au⟩
theorem TB.growH (h : TB wN w Ah ch hs At ct ts Aa ca al Au cu us) (hb : Below w.heap.size w w1) {A3 : Option Addr} {c3 : Nat} {x : N} (ho : w2.ownsRow 0 69 33 (.slice A3 (hs.length + 1) c3) (hs.length + 1) (flatN hs ++ cellsN x)) (hg : w1.grownBy w2 (Value.slice Ah hs.length ch).ownBlock)
    (hf : (Value.slice A3 (hs.length + 1) c3).ownBlock = (Value.slice Ah hs.length ch).ownBlock ∨ ∃ g, (Value.slice A3 (hs.length + 1) c3).ownBlock = some g ∧ w.heap.size ≤ g) : TB wN w2 A3 c3 (hs ++ [x]) At ct ts Aa ca al Au cu us := by
  obtain ⟨g1, g2, g3⟩ := h.gh.grow hb h.bel.size ho hg hf
  refine ⟨h.bel.trans g2, ?_, (g3 h.gt h.ht).1, (g3 h.ga h.ha).1, (g3 h.gu h.hu).1, (g3 h.gt h.ht).2, (g3 h.ga h.ha).2, (g3 h.gu h.hu).2, h.ta, h.tu, h.au⟩
  rw [List.length_append, flatN_append]
  simpa [flatN] using g1
theorem TB.growT (h : TB wN w Ah ch hs At ct ts Aa ca al Au cu us) (hb : Below w.heap.size w w1) {A3 : Option Addr} {c3 : Nat} {x : N} (ho : w2.ownsRow 0 69 33 (.slice A3 (ts.length + 1) c3) (ts.length + 1) (flatN ts ++ cellsN x)) (hg : w1.grownBy w2 (Value.slice At ts.length ct).ownBlock)
    (hf : (Value.slice A3 (ts.length + 1) c3).ownBlock = (Value.slice At ts.length ct).ownBlock ∨ ∃ g, (Value.slice A3 (ts.length + 1) c3).ownBlock = some g ∧ w.heap.size ≤ g) : TB wN w2 Ah ch hs A3 c3 (ts ++ [x]) Aa ca al Au cu us := by
  obtain ⟨g1, g2, g3⟩ := h.gt.grow hb h.bel.size ho hg hf
  refine ⟨h.bel.trans g2, (g3 h.gh h.ht.symm).1, ?_, (g3 h.ga h.ta).1, (g3 h.gu h.tu).1, (g3 h.gh h.ht.symm).2.symm, h.ha, h.hu, (g3 h.ga h.ta).2, (g3 h.gu h.tu).2, h.au⟩
  rw [List.length_append, flatN_append]
  simpa [flatN] using g1
theorem TB.growA (h : TB wN w Ah ch hs At ct ts Aa ca al Au cu us) (hb : Below w.heap.size w w1) {A3 : Option Addr} {c3 : Nat} {x : Int} (ho : w2.ownsRow 0 3 1 (.slice A3 (al.length + 1) c3) (al.length + 1) (al.map i64 ++ [i64 x])) (hg : w1.grownBy w2 (Value.slice Aa al.length ca).ownBlock)
    (hf : (Value.slice A3 (al.length + 1) c3).ownBlock = (Value.slice Aa al.length ca).ownBlock ∨ ∃ g, (Value.slice A3 (al.length + 1) c3).ownBlock = some g ∧ w.heap.size ≤ g) : TB wN w2 Ah ch hs At ct ts A3 c3 (al ++ [x]) Au cu us := by
  obtain ⟨g1, g2, g3⟩ := h.ga.grow hb h.bel.size ho hg hf
  refine ⟨h.bel.trans g2, (g3 h.gh h.ha.symm).1, (g3 h.gt h.ta.symm).1, ?_, (g3 h.gu h.au).1, h.ht, (g3 h.gh h.ha.symm).2.symm, h.hu, (g3 h.gt h.ta.symm).2.symm, h.tu, (g3 h.gu h.au).2⟩
  rw [List.length_append, List.map_append]
  simpa using g1
theorem TB.useAt (h : TB wN w Ah ch hs At ct ts Aa ca al Au cu us) {g : Nat} (hA : Au = some ⟨g, 0, none⟩) {k : Nat} {v : Bool} (hk : us[k]? = some v) : w.cell? ⟨g, k, none⟩ = some (.bool v) ∧ w.frozen? ⟨g, k, none⟩ = false := by
  subst hA
  have hl := (List.getElem?_eq_some_iff.1 hk).1
  refine ⟨?_, h.gu.1.frozenAt k⟩
  rw [h.gu.1.cellAt k (by omega), List.getElem?_map, hk]; rfl
theorem TB.store (h : TB wN w Ah ch hs At ct ts Aa ca al Au cu us) {g : Nat} (hA : Au = some ⟨g, 0, none⟩) (k : Nat) (v : Bool) : TB wN (w.setCell ⟨g, k, none⟩ (.bool v)) Ah ch hs At ct ts Aa ca al Au cu (us.set k v) := by
  subst hA
  obtain ⟨s1, s2⟩ := h.gu.1.stored k (.bool v)
  have hg := h.gu.2 _ rfl
  have hlt := h.gu.lt rfl
  refine ⟨h.bel.grown s2 h.bel.size fun j hj => by cases hj; exact hg, h.gh.kept s2 fun p hp e => h.hu p _ hp rfl (by injection e), h.gt.kept s2 fun p hp e => h.tu p _ hp rfl (by injection e), h.ga.kept s2 fun p hp e => h.au p _ hp rfl (by injection e), ⟨?_, h.gu.2⟩, h.ht, h.ha, h.hu, h.ta, h.tu, h.au⟩
  rw [List.length_set, List.map_set]; exact s1
end
end Go.Proofs.YtcpennlojjlpaaaGreatDoor
