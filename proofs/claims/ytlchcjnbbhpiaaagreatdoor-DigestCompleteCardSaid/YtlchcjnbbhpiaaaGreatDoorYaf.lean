/- Sequences of operations in memory; where the laws of builders stand; Take, whatever it answers.
   Arguments of the statements about builders laid open: a plan, a slice of operations. -/
import Derived.Test.YtlchcjnbbhpiaaaGreatDoorYae
import Derived.Test.YtlchcjnbbhpiaaaGreatDoorZt
import Derived.Test.YtlchcjnbbhpiaaaGreatDoorZx
namespace Go.Proofs.YtlchcjnbbhpiaaaGreatDoor
open Go.RowKit Go.Shelf Go.Dg Go.Maps
/-! ### operations -/
structure OpR where
 kd : Int
 x : It
 nw : Int
abbrev opC (q : OpR) : List Value := opL q.kd q.x q.nw
structure RdO (w : World) (A : Option Addr) (os : List OpR) : Prop where
 rd : 0 < os.length → ∃ b o, A = some ⟨b, o, none⟩ ∧ b < w.heap.size ∧ ∀ j q, os[j]? = some q → w.rangeAt b (o + j * 38) (opC q)
 ky : ∀ q ∈ os, q.x.ky.length = 32
theorem RdO.at_ {w : World} {A : Option Addr} {os : List OpR} {k : Nat} (h : RdO w A os) (hk : k < os.length) : ∃ b o q, A = some ⟨b, o, none⟩ ∧ b < w.heap.size ∧ os[k]? = some q ∧ w.rangeAt b (o + k * 38) (opC q) ∧ q.x.ky.length = 32 := by
 obtain ⟨b, o, e, hlt, hc⟩ := h.rd (by omega)
 exact ⟨b, o, os[k], e, hlt, List.getElem?_eq_getElem hk, hc k _ (List.getElem?_eq_getElem hk), h.ky _ (List.getElem_mem hk)⟩
theorem op_kd {w : World} {b p : Nat} {q : OpR} (h : w.rangeAt b p (opC q)) : w.cell? ⟨b, p, none⟩ = some (i64 q.kd) := h 0 _ rfl
theorem op_nw {w : World} {b p : Nat} {q : OpR} (h : w.rangeAt b p (opC q)) : w.cell? ⟨b, p + 37, none⟩ = some (i64 q.nw) := h 37 _ rfl
theorem op_it {w : World} {b p : Nat} {q : OpR} (h : w.rangeAt b p (opC q)) : w.rangeAt b (p + 1) (itL q.x) := fun j v hj => by
 have hl := (List.getElem?_eq_some_iff.1 hj).1
 have e : (opC q)[1 + j]? = some v := by
  have e2 : opC q = i64 q.kd :: (itL q.x ++ [i64 q.nw]) := rfl
  rw [e2, show 1 + j = j + 1 by omega, List.getElem?_cons_succ, List.getElem?_append_left hl]
  exact hj
 rw [Nat.add_assoc]
 exact h _ _ e
/-! ### bounds of a builder -/
structure BdB (B : Bs) (k : Nat) : Prop where
 ti : B.ti.length ≤ 1000
 cap : 1 ≤ B.cap
 mi : 0 ≤ B.mins ∧ B.mins ≤ 1000000
 fi : 0 ≤ B.first ∧ B.first ≤ 200000000
 tk : 0 ≤ B.taken ∧ B.taken ≤ k
 wt : B.wait.length ≤ k
 ad : B.added.length ≤ k
 it : ∀ x ∈ B.wait, x.fr.length ≤ 1000 ∧ x.su.length ≤ 1000 ∧ x.bo.length ≤ 1000
theorem BdB.mono {B : Bs} {k m : Nat} (h : BdB B k) (hk : k ≤ m) : BdB B m :=
 ⟨h.ti, h.cap, h.mi, h.fi, ⟨h.tk.1, by have := h.tk.2; omega⟩, by have := h.wt; omega, by have := h.ad; omega, h.it⟩
theorem minB_le {n : Int} (h : minB n = true) : 0 ≤ n ∧ n ≤ 200000000 := by
 unfold minB at h
 simp only [Bool.and_eq_true, decide_eq_true_eq] at h
 omega
theorem BdB.add {B : Bs} {k : Nat} (h : BdB B k) {x : It} {now : Int} (hx : addE B x now = 0 → x.fr.length ≤ 1000 ∧ x.su.length ≤ 1000 ∧ x.bo.length ≤ 1000) : BdB (addB B x now) (k + 1) := by
 by_cases h0 : addE B x now = 0
 ·rw [addB_yes h0]
  have hm : minB now = true := by
   cases hq : minB now with
   | true => rfl
   | false => unfold addE at h0; rw [hq, if_pos rfl] at h0; exact absurd h0 (by decide)
  have h1 := h.wt
  have h2 := h.ad
  refine ⟨h.ti, h.cap, h.mi, ?_, ⟨h.tk.1, by have := h.tk.2; (show B.taken ≤ _); omega⟩, ?_, ?_, ?_⟩
  ·show 0 ≤ (if B.wait = [] then now else B.first) ∧ (if B.wait = [] then now else B.first) ≤ _
   split
   ·exact minB_le hm
   ·exact h.fi
  ·show (B.wait ++ [x]).length ≤ _
   simp; omega
  ·show (B.added ++ [x.ky]).length ≤ _
   simp; omega
  ·show ∀ y ∈ B.wait ++ [x], _
   intro y hy
   rcases List.mem_append.1 hy with hy | hy
   ·exact h.it y hy
   ·rw [List.mem_singleton.1 hy]; exact hx h0
 ·rw [addB_no h0]; exact h.mono (by omega)
theorem BdB.take {B : Bs} {k : Nat} (h : BdB B k) (now : Int) : BdB (takeB B now) (k + 1) := by
 by_cases h0 : takeE B now = 0
 ·rw [takeB_yes h0]
  have h2 := h.ad
  have h3 := h.tk
  exact ⟨h.ti, h.cap, h.mi, h.fi, ⟨by (show 0 ≤ B.taken + 1); omega, by (show B.taken + 1 ≤ _); omega⟩, by simp, by (show B.added.length ≤ _); omega, by simp⟩
 ·rw [takeB_no h0]; exact h.mono (by omega)
theorem BdB.new {ti : List UInt8} {vo it mi : Int} (h : newE ti vo it mi = 0) (ht : ti.length ≤ 1000) : BdB ⟨ti, vo, it, mi, 0, [], 0, []⟩ 0 := by
 unfold newE at h
 split at h
 ·exact absurd h (by decide)
 ·split at h
  ·exact absurd h (by decide)
  ·next hn =>
   have h1 : ¬ it < 1 := fun q => hn (.inr (.inl (.inl q)))
   have h2 : ¬ mi < 1 := fun q => hn (.inr (.inr (.inl q)))
   have h3 : ¬ 100000 < mi := fun q => hn (.inr (.inr (.inr q)))
   exact ⟨ht, by (show 1 ≤ it); omega, by (show 0 ≤ mi ∧ mi ≤ _); omega, ⟨Int.le_refl 0, by (show (0 : Int) ≤ 200000000); decide⟩, ⟨Int.le_refl 0, Int.le_refl 0⟩, by simp, by simp, by simp⟩
/-! ### Take, whatever it answers -/
def tkD (B : Bs) (now : Int) : Dg := if takeE B now = 0 then takeD B now else zD
theorem take_u (base bb mb : Nat) (v : Value) (B : Bs) (k : Nat) (now : Int) (w : World) (h : BlM w base bb mb v B) (ht : Tab w) (hb : BdB B k) (hk : k ≤ 1000) :
  Calls Tryz.prog 26 #[.pointer (some ⟨bb, 0, none⟩), i64 now] w fun e w' => (∃ AA cc v', e = .returned (.tuple #[dgA (tkD B now) AA cc, i64 (takeE B now)]) ∧ RdI w' AA (tkD B now).its ∧ (tkD B now).its.length ≤ cc ∧ BlM w' base bb mb v' (takeB B now) ∧ ∀ p, AA = some p → p.block ∈ blR bb mb v) ∧ ButL (blR bb mb v) w w' := by
 have h1 := hb.wt
 have h2 := hb.tk
 have h3 := hb.ti
 refine (take_any base bb mb v B now w h ht ⟨h2.1, by omega⟩ (by omega) (by omega) (fun x hx => by have := hb.it x hx; omega)).mono ?_
 rintro e w' ⟨hr, hbut⟩
 refine ⟨?_, hbut⟩
 rcases hr with ⟨hne, rfl, hm⟩ | ⟨h0, A, c, rfl, rfl, hrd, hc, hm⟩
 ·refine ⟨none, 0, v, ?_, ?_, ?_, ?_, fun p hp => by cases hp⟩
  ·unfold tkD; rw [if_neg hne]; rfl
  ·unfold tkD; rw [if_neg hne]; exact RdI.nil
  ·unfold tkD; rw [if_neg hne]; exact Nat.le_refl _
  ·rw [takeB_no hne]; exact hm
 ·refine ⟨A, c, _, ?_, ?_, ?_, hm, fun p hp => by subst hp; simp [blR, Value.ownBlock]⟩
  ·unfold tkD; rw [if_pos h0, h0]
  ·unfold tkD; rw [if_pos h0]; exact hrd
  ·unfold tkD; rw [if_pos h0]; exact hc
/-! ### where the laws of builders stand -/
section
variable {w W W' : World} {base bb mb : Nat} {v v' : Value} {rb : Nat} {B B' Bn : Bs} {A A2 A3 A4 : Option Addr} {c c2 c3 c4 : Nat}
end
open Go.ChangeShapes Go.WideShapes Go.ChangeAt Go.RowKit Go.Dg Go.Maps Go.Deep
section
variable {H : Type} {enc : TypeId × Value → H} {P : Program} {W : World}
set_option maxRecDepth 100000 in
/-- A slice of operations among the arguments. -/
theorem opsarg_at {r : Reach} {b0 base : Nat} {sp : Nat → Bool} {held : Bool} {v : Value} {d : DataW H} {p : List MemPlace} (hv : Value.okWide Tryz.prog W r b0 46 v) (h : DataW.Trod enc Tryz.prog W base sp held 46 v d p) :
  ∃ (A : Option Addr) (c : Nat) (os : List OpR), v = .slice A os.length c ∧ RdO W A os ∧ os.length ≤ c ∧ c ≤ maxLen ∧ ∀ q ∈ os, LenI q.x := by
 obtain ⟨a0, len, cap, rfl⟩ := okWide_slice Tryz.underlying46 hv
 obtain ⟨fuel, hf⟩ := h
 have ce : Tryz.prog.cellsOf 55 = 38 := by kernel_rfl
 rcases open_slice Tryz.underlying46 hf with ⟨hcs, _⟩ | ⟨a, len', cap', m, n, D, Pl, hcs, _, hl, hm, hmm, _, hi⟩
 ·cases hcs
  exact ⟨none, 0, [], rfl, ⟨fun h => absurd h (by simp), by simp⟩, by simp, by simp [maxLen], by simp⟩
 ·cases hcs
  have hlm : len ≤ m := by rw [hmm]; split <;> omega
  have each : ∀ i, i < len → ∃ q : OpR, (∀ j u, (opC q)[j]? = some u → W.cell? (a.add (i * 38 + j)) = some u) ∧ q.x.ky.length = 32 ∧ LenI q.x := fun i hil => by
   obtain ⟨cs', h1, h2⟩ := hi i (by omega)
   rw [ce] at h1
   obtain ⟨_, hlen, hcell⟩ := World.cells?_some h1
   obtain ⟨kd, m, nw, ecs, hk, hL⟩ := open_op Tryz.underlying55 (by kernel_rfl) rfl rfl rfl (by kernel_rfl) (by kernel_rfl) (by kernel_rfl) Tryz.underlying3 Tryz.underlying3 (fun fuel cs x h => it_at fuel cs x h) h2
   refine ⟨⟨kd, m, nw⟩, fun j u hj => ?_, hk, hL⟩
   have e3 : opC ⟨kd, m, nw⟩ = cs' := ecs.symm
   rw [e3] at hj
   obtain ⟨hjl, hje⟩ := List.getElem?_eq_some_iff.1 hj
   have e0 := hcell j (by omega)
   rw [Go.Deep.add_add] at e0
   rw [e0, List.getElem?_eq_getElem hjl, hje]
  haveI : Inhabited OpR := ⟨⟨0, ⟨[], 0, [], [], []⟩, 0⟩⟩
  obtain ⟨q, hq⟩ := choose_lt each
  refine ⟨some a, cap, (List.range len).map q, by simp, ⟨?_, fun x hx => ?_⟩, by simpa using hl, hm, fun x hx => ?_⟩
  ·intro hpos
   have h0 : 0 < len := by simpa using hpos
   obtain ⟨b, o, s⟩ := a
   have hc0 := (hq 0 h0).1 0 (i64 (q 0).kd) rfl
   have hs : s = none := by
    rw [show (⟨b, o, s⟩ : Addr).add (0 * 38 + 0) = ⟨b, o, s⟩ by cases s <;> rfl] at hc0
    exact slot_none hc0
   subst hs
   refine ⟨b, o, rfl, ?_, fun j x hj t u hu => ?_⟩
   ·rw [addr_addN] at hc0
    exact World.block_lt_of_cell? W _ hc0
   ·obtain ⟨hjl, hje⟩ := List.getElem?_eq_some_iff.1 hj
    have hjl' : j < len := by simpa using hjl
    simp at hje
    rw [← hje] at hu
    have := (hq j hjl').1 t u hu
    rw [addr_addN] at this
    rw [Nat.add_assoc]; exact this
  ·obtain ⟨j, hj, rfl⟩ := List.mem_map.1 hx
   exact (hq j (by simpa using hj)).2.1
  ·obtain ⟨j, hj, rfl⟩ := List.mem_map.1 hx
   exact (hq j (by simpa using hj)).2.2
end
end Go.Proofs.YtlchcjnbbhpiaaaGreatDoor
