/- Sequences of operations in memory; where the laws of builders stand; Take, whatever it answers.
   Arguments of the statements about builders laid open: a plan, a slice of operations. -/
import Derived.Test.YtlchcjnbbhpiaaaGreatDoorYae
import Derived.Test.YtlchcjnbbhpiaaaGreatDoorZt
import Derived.Test.YtlchcjnbbhpiaaaGreatDoorZx
namespace Go.Proofs.YtlchcjnbbhpiaaaGreatDoor
open Go.RowKit Go.Shelf Go.Dg Go.Maps
/-! ### operations -/
structure OpR where
 kd : Int
 x : It
 nw : Int
abbrev opC (q : OpR) : List Value := opL q.kd q.x q.nw
structure RdO (w : World) (A : Option Addr) (os : List OpR) : Prop where
 rd : 0 < os.length → ∃ b o, A = some ⟨b, o, none⟩ ∧ b < w.heap.size ∧ ∀ j q, os[j]? = some q → w.rangeAt b (o + j * 38) (opC q)
 ky : ∀ q ∈ os, q.x.ky.length = 32
theorem RdO.at_ {w : World} {A : Option Addr} {os : List OpR} {k : Nat} (h : RdO w A os) (hk : k < os.length) : ∃ b o q, A = some ⟨b, o, none⟩ ∧ b < w.heap.size ∧ os[k]? = some q ∧ w.rangeAt b (o + k * 38) (opC q) ∧ q.x.ky.length = 32 := by
 obtain ⟨b, o, e, hlt, hc⟩ := h.rd (by omega)
 exact ⟨b, o, os[k], e, hlt, List.getElem?_eq_getElem hk, hc k _ (List.getElem?_eq_getElem hk), h.ky _ (List.getElem_mem hk)⟩
theorem op_kd {w : World} {b p : Nat} {q : OpR} (h : w.rangeAt b p (opC q)) : w.cell? ⟨b, p, none⟩ = some (i64 q.kd) := h 0 _ rfl
theorem op_nw {w : World} {b p : Nat} {q : OpR} (h : w.rangeAt b p (opC q)) : w.cell? ⟨b, p + 37, none⟩ = some (i64 q.nw) := h 37 _ rfl
theorem op_it {w : World} {b p : Nat} {q : OpR} (h : w.rangeAt b p (opC q)) : w.rangeAt b (p + 1) (itL q.x) := fun j v hj => by
 have hl := (List.getElem?_eq_some_iff.1 hj).1
 have e : (opC q)[1 + j]? = some v := by
  have e2 : opC q = i64 q.kd :: (itL q.x ++ [i64 q.nw]) := rfl
  rw [e2, show 1 + j = j + 1 by omega, List.getElem?_cons_succ, List.getElem?_append_left hl]
  exact hj
 rw [Nat.add_assoc]
 exact h _ _ e
/-! ### bounds of a builder -/
structure BdB (B : Bs) (k : Nat) : Prop where
 ti : B.ti.length ≤ 1000
 cap : 1 ≤ B.cap
 mi : 0 ≤ B.mins ∧ B.mins ≤ 1000000
 fi : 0 ≤ B.first ∧ B.first ≤ 200000000
 tk : 0 ≤ B.taken ∧ B.taken ≤ k
 wt : B.wait.length ≤ k
 ad : B.added.length ≤ k
 it : ∀ x ∈ B.wait, x.fr.length ≤ 1000 ∧ x.su.length ≤ 1000 ∧ x.bo.length ≤ 1000
theorem BdB.mono {B : Bs} {k m : Nat} (h : BdB B k) (hk : k ≤ m) : BdB B m :=
 ⟨h.ti, h.cap, h.mi, h.fi, ⟨h.tk.1, by have := h.tk.2; omega⟩, by have := h.wt; omega, by have := h.ad; omega, h.it⟩
theorem minB_le {n : Int} (h : minB n = true) : 0 ≤ n ∧ n ≤ 200000000 := by
 unfold minB at h
 simp only [Bool.and_eq_true, decide_eq_true_eq] at h
 omega
theorem BdB.add {B : Bs} {k : Nat} (h : BdB B k) {x : It} {now : Int} (hx : addE B x now = 0 → x.fr.length ≤ 1000 ∧ x.su.length ≤ 1000 ∧ x.bo.length ≤ 1000) : BdB (addB B x now) (k + 1) := by
 by_cases h0 : addE B x now = 0
 ·rw [addB_yes h0]
  have hm : minB now = true := by
   cases hq : minB now with
   | true => rfl
   | false => unfold addE at h0; rw [hq, if_pos rfl] at h0; exact absurd h0 (by decide)
  have h1 := h.wt
  have h2 := h.ad
  refine ⟨h.ti, h.cap, h.mi, ?_, ⟨h.tk.1, by have := h.tk.2; (show B.taken ≤ _); omega⟩, ?_, ?_, ?_⟩
  ·show 0 ≤ (if B.wait = [] then now else B.first) ∧ (if B.wait = [] then now else B.first) ≤ _
   split
   ·exact minB_le hm
   ·exact h.fi
  ·show (B.wait ++ [x]).length ≤ _
   simp; omega
  ·show (B.added ++ [x.ky]).length ≤ _
   simp; omega
  ·show ∀ y ∈ B.wait ++ [x], _
   intro y hy
   rcases List.mem_append.1 hy with hy | hy
   ·exact h.it y hy
   ·rw [List.mem_singleton.1 hy]; exact hx h0
 ·rw [addB_no h0]; exact h.mono (by omega)
theorem BdB.take {B : Bs} {k : Nat} (h : BdB B k) (now : Int) : BdB (takeB B now) (k + 1) := by
 by_cases h0 : takeE B now = 0
 ·rw [takeB_yes h0]
  have h2 := h.ad
  have h3 := h.tk
  exact ⟨h.ti, h.cap, h.mi, h.fi, ⟨by (show 0 ≤ B.taken + 1); omega, by (show B.taken + 1 ≤ _); omega⟩, by simp, by (show B.added.length ≤ _); omega, by simp⟩
 ·rw [takeB_no h0]; exact h.mono (by omega)
theorem BdB.new {ti : List UInt8} {vo it mi : Int} (h : newE ti vo it mi = 0) (ht : ti.length ≤ 1000) : BdB ⟨ti, vo, it, mi, 0, [], 0, []⟩ 0 := by
 unfold newE at h
 split at h
 ·exact absurd h (by decide)
 ·split at h
  ·exact absurd h (by decide)
  ·next hn =>
   have h1 : ¬ it < 1 := fun q => hn (.inr (.inl (.inl q)))
   have h2 : ¬ mi < 1 := fun q => hn (.inr (.inr (.inl q)))
   have h3 : ¬ 100000 < mi := fun q => hn (.inr (.inr (.inr q)))
   exact ⟨ht, by (show 1 ≤ it); omega, by (show 0 ≤ mi ∧ mi ≤ _); omega, ⟨Int.le_refl 0, by (show (0 : Int) ≤ 200000000); decide⟩, ⟨Int.le_refl 0, Int.le_refl 0⟩, by simp, by simp, by simp⟩
/-! ### Take, whatever it answers -/
def tkD (B : Bs) (now : Int) : Dg := if takeE B now = 0 then takeD B now else zD
theorem tkD_len (B : Bs) (now : Int) : (tkD B now).its.length ≤ B.wait.length := by
 unfold tkD
 split
 ·exact Nat.le_refl _
 ·exact Nat.zero_le _
theorem take_u (base bb mb : Nat) (v : Value) (B : Bs) (k : Nat) (now : Int) (w : World) (h : BlM w base bb mb v B) (ht : Tab w) (hb : BdB B k) (hk : k ≤ 1000) :
  Calls Tryz.prog 26 #[.pointer (some ⟨bb, 0, none⟩), i64 now] w fun e w' => (∃ AA cc v', e = .returned (.tuple #[dgA (tkD B now) AA cc, i64 (takeE B now)]) ∧ RdI w' AA (tkD B now).its ∧ (tkD B now).its.length ≤ cc ∧ BlM w' base bb mb v' (takeB B now) ∧ ∀ p, AA = some p → p.block ∈ blR bb mb v) ∧ ButL (blR bb mb v) w w' := by
 have h1 := hb.wt
 have h2 := hb.tk
 have h3 := hb.ti
 refine (take_any base bb mb v B now w h ht ⟨h2.1, by omega⟩ (by omega) (by omega) (fun x hx => by have := hb.it x hx; omega)).mono ?_
 rintro e w' ⟨hr, hbut⟩
 refine ⟨?_, hbut⟩
 rcases hr with ⟨hne, rfl, hm⟩ | ⟨h0, A, c, rfl, rfl, hrd, hc, hm⟩
 ·refine ⟨none, 0, v, ?_, ?_, ?_, ?_, fun p hp => by cases hp⟩
  ·unfold tkD; rw [if_neg hne]; rfl
  ·unfold tkD; rw [if_neg hne]; exact RdI.nil
  ·unfold tkD; rw [if_neg hne]; exact Nat.le_refl _
  ·rw [takeB_no hne]; exact hm
 ·refine ⟨A, c, _, ?_, ?_, ?_, hm, fun p hp => by subst hp; simp [blR, Value.ownBlock]⟩
  ·unfold tkD; rw [if_pos h0, h0]
  ·unfold tkD; rw [if_pos h0]; exact hrd
  ·unfold tkD; rw [if_pos h0]; exact hc
/-- .. of the reference: its rows were there before. -/
theorem takeR_rows (B : Bs) (A : Option Addr) (c : Nat) (A2 : Option Addr) (c2 : Nat) (k : Nat) (now : Int) (w : World) (h : BfM w B A c A2 c2) (hb : BdB B k) (hk : k ≤ 1000) :
  ∃ A3 c3 AA cc, BfM w (takeB B now) A3 c3 A2 c2 ∧ RdI w AA (tkD B now).its ∧ (tkD B now).its.length ≤ cc ∧ TyR w AA 53 ∧ ∀ u, Below w.heap.size w u → Calls Tryz.prog 32 #[bfA B A c A2 c2, i64 now] u fun e w' => e = .returned (.tuple #[bfA (takeB B now) A3 c3 A2 c2, dgA (tkD B now) AA cc, i64 (takeE B now)]) ∧ Below u.heap.size u w' := by
 have h1 := hb.wt
 have h2 := hb.tk
 have h3 := hb.ti
 have hc := fun (u : World) (hu : Below w.heap.size w u) => takeR_any B A c A2 c2 now u (h.below hu) ⟨h2.1, by omega⟩ (by omega) (by omega) (fun x hx => by have := hb.it x hx; omega)
 by_cases h0 : takeE B now = 0
 ·refine ⟨none, 0, A, c, ?_, ?_, ?_, h.tw, fun u hu => (hc u hu).mono ?_⟩
  ·rw [takeB_yes h0]; exact ⟨RdI.nil, Nat.le_refl _, h.rk, h.capk, TyR.none, h.tk⟩
  ·unfold tkD; rw [if_pos h0]; exact h.rd
  ·unfold tkD; rw [if_pos h0]; exact h.cap
  ·rintro e w' ⟨⟨hne, _⟩ | ⟨_, rfl⟩, hbl⟩
   ·exact absurd h0 hne
   ·exact ⟨by unfold tkD; rw [if_pos h0, h0], hbl⟩
 ·refine ⟨A, c, none, 0, ?_, ?_, ?_, TyR.none, fun u hu => (hc u hu).mono ?_⟩
  ·rw [takeB_no h0]; exact h
  ·unfold tkD; rw [if_neg h0]; exact RdI.nil
  ·unfold tkD; rw [if_neg h0]; exact Nat.le_refl _
  ·rintro e w' ⟨⟨_, rfl⟩ | ⟨h1, _⟩, hbl⟩
   ·exact ⟨by unfold tkD; rw [if_neg h0, takeB_no h0]; rfl, hbl⟩
   ·exact absurd h1 h0
/-! ### where the laws of builders stand -/
theorem RdI.butL {W W' : World} {A : Option Addr} {its : List It} {t : TypeId} {base bb mb : Nat} {v : Value} {B : Bs} (h : RdI W A its) (ty : TyR W A t) (h1 : t ≠ 109) (h2 : t ≠ 59) (bl : BlM W base bb mb v B) (k : ButL (blR bb mb v) W W') : RdI W' A its :=
 ⟨fun hp => by
  obtain ⟨b, o, e, hlt, hc⟩ := h.rd hp
  obtain ⟨cur, hcur⟩ := ty _ e
  have hb := k.block b hlt (bl.away hcur h1 h2)
  exact ⟨b, o, e, Nat.lt_of_lt_of_le hlt k.size, fun j x hj i u hu => by rw [World.cell?_of_block hb]; exact hc j x hj i u hu⟩, h.ky⟩
theorem RdK.butL {W W' : World} {A : Option Addr} {ks : List (List UInt8)} {t : TypeId} {base bb mb : Nat} {v : Value} {B : Bs} (h : RdK W A ks) (ty : TyR W A t) (h1 : t ≠ 109) (h2 : t ≠ 59) (bl : BlM W base bb mb v B) (k : ButL (blR bb mb v) W W') : RdK W' A ks :=
 ⟨fun hp => by
  obtain ⟨b, o, e, hlt, hc⟩ := h.rd hp
  obtain ⟨cur, hcur⟩ := ty _ e
  have hb := k.block b hlt (bl.away hcur h1 h2)
  exact ⟨b, o, e, Nat.lt_of_lt_of_le hlt k.size, fun j x hj i u hu => by rw [World.cell?_of_block hb]; exact hc j x hj i u hu⟩, h.ky⟩
theorem TyR.butL {W W' : World} {A : Option Addr} {t : TypeId} {base bb mb : Nat} {v : Value} {B : Bs} (ty : TyR W A t) (h1 : t ≠ 109) (h2 : t ≠ 59) (bl : BlM W base bb mb v B) (k : ButL (blR bb mb v) W W') : TyR W' A t := fun p hp => by
 obtain ⟨cur, hcur⟩ := ty p hp
 exact ⟨cur, (k.block _ (blk_lt hcur) (bl.away hcur h1 h2)).trans hcur⟩
theorem BfM.butL {W W' : World} {B' : Bs} {A A2 : Option Addr} {c c2 : Nat} {base bb mb : Nat} {v : Value} {B : Bs} (h : BfM W B' A c A2 c2) (bl : BlM W base bb mb v B) (k : ButL (blR bb mb v) W W') : BfM W' B' A c A2 c2 :=
 ⟨h.rd.butL h.tw (by decide) (by decide) bl k, h.cap, h.rk.butL h.tk (by decide) (by decide) bl k, h.capk, h.tw.butL (by decide) (by decide) bl k, h.tk.butL (by decide) (by decide) bl k⟩
/-- The rows of the reference's builder stay while another block of another type is written. -/
theorem BfM.but {W W' : World} {B' : Bs} {A A2 : Option Addr} {c c2 rb : Nat} {cur : Array Value} {t : TypeId} (h : BfM W B' A c A2 c2) (hrb : W.heap[rb]? = some (.cells cur t (0, 0))) (h1 : t ≠ 53) (h2 : t ≠ 51) (k : But rb W W') : BfM W' B' A c A2 c2 := by
 have key : ∀ {A : Option Addr} {u : TypeId}, TyR W A u → u ≠ t → ∀ p, A = some p → p.block ≠ rb := fun ty hu p hp e => by
  obtain ⟨cur2, h3⟩ := ty p hp
  rw [e, hrb] at h3
  cases h3
  exact hu rfl
 refine ⟨⟨fun hp => ?_, h.rd.ky⟩, h.cap, ⟨fun hp => ?_, h.rk.ky⟩, h.capk, fun p hp => ?_, fun p hp => ?_⟩
 ·obtain ⟨b, o, e, hlt, hc⟩ := h.rd.rd hp
  have hb := k.block b hlt (key h.tw (Ne.symm h1) _ e)
  exact ⟨b, o, e, Nat.lt_of_lt_of_le hlt k.size, fun j x hj i u hu => by rw [World.cell?_of_block hb]; exact hc j x hj i u hu⟩
 ·obtain ⟨b, o, e, hlt, hc⟩ := h.rk.rd hp
  have hb := k.block b hlt (key h.tk (Ne.symm h2) _ e)
  exact ⟨b, o, e, Nat.lt_of_lt_of_le hlt k.size, fun j x hj i u hu => by rw [World.cell?_of_block hb]; exact hc j x hj i u hu⟩
 ·obtain ⟨cur2, h3⟩ := h.tw p hp
  exact ⟨cur2, (k.block _ (blk_lt h3) (key h.tw (Ne.symm h1) p hp)).trans h3⟩
 ·obtain ⟨cur2, h3⟩ := h.tk p hp
  exact ⟨cur2, (k.block _ (blk_lt h3) (key h.tk (Ne.symm h2) p hp)).trans h3⟩
theorem RdI.butN {W W' : World} {A : Option Addr} {its : List It} {rb : Nat} (h : RdI W A its) (hn : ∀ p, A = some p → p.block ≠ rb) (k : But rb W W') : RdI W' A its :=
 ⟨fun hp => by
  obtain ⟨b, o, e, hlt, hc⟩ := h.rd hp
  have hb := k.block b hlt (hn _ e)
  exact ⟨b, o, e, Nat.lt_of_lt_of_le hlt k.size, fun j x hj i u hu => by rw [World.cell?_of_block hb]; exact hc j x hj i u hu⟩, h.ky⟩
theorem ty_ne {W : World} {b rb : Nat} {cur cur2 : Array Value} {t u : TypeId} (h : W.heap[b]? = some (.cells cur t (0, 0))) (h2 : W.heap[rb]? = some (.cells cur2 u (0, 0))) (hn : t ≠ u) : b ≠ rb := fun e => by
 rw [e, h2] at h
 cases h
 exact hn rfl
structure LsS (w W : World) (base bb mb : Nat) (v : Value) (rb : Nat) (B B' : Bs) (A : Option Addr) (c : Nat) (A2 : Option Addr) (c2 : Nat) : Prop where
 bel : Below w.heap.size w W
 bl : BlM W base bb mb v B
 rf : W.heap[rb]? = some (.cells (bfL B' A c A2 c2).toArray 73 (0, 0))
 md : BfM W B' A c A2 c2
 hb : w.heap.size ≤ base
 hr : w.heap.size ≤ rb
section
variable {w W W' : World} {base bb mb : Nat} {v v' : Value} {rb : Nat} {B B' Bn : Bs} {A A2 A3 A4 : Option Addr} {c c2 c3 c4 : Nat}
theorem LsS.below (h : LsS w W base bb mb v rb B B' A c A2 c2) (hb : Below W.heap.size W W') : LsS w W' base bb mb v rb B B' A c A2 c2 := ⟨h.bel.tr hb, h.bl.below hb, blk_below hb h.rf, h.md.below hb, h.hb, h.hr⟩
theorem LsS.butL (h : LsS w W base bb mb v rb B B' A c A2 c2) (k : ButL (blR bb mb v) W W') (hn : BlM W' base bb mb v' Bn) : LsS w W' base bb mb v' rb Bn B' A c A2 c2 :=
 ⟨h.bel.trans (k.toBelow h.bel.size fun r hr => Nat.le_trans h.hb (h.bl.low r hr)), hn, (k.block rb (blk_lt h.rf) (h.bl.away h.rf (by decide) (by decide))).trans h.rf, h.md.butL h.bl k, h.hb, h.hr⟩
/-- The reference's builder is written. -/
theorem LsS.put (h : LsS w W base bb mb v rb B B' A c A2 c2) (hm : BfM W Bn A3 c3 A4 c4) : LsS w (W.setCells rb 0 (bfL Bn A3 c3 A4 c4)) base bb mb v rb B Bn A3 c3 A4 c4 := by
 have hk := but_setCells (b := rb) (bfL Bn A3 c3 A4 c4) 0 W
 refine ⟨h.bel.trans (but_low hk h.hr h.bel.size), h.bl.keep fun k hm => hk.block k (h.bl.lts k hm) (fun e => ?_), bf_store h.rf _ _ _ _ _ _ _ _, hm.but h.rf (by decide) (by decide) hk, h.hb, h.hr⟩
 rw [e] at hm
 exact h.bl.away h.rf (by decide) (by decide) hm
end
open Go.ChangeShapes Go.WideShapes Go.ChangeAt Go.RowKit Go.Dg Go.Maps Go.Deep
section
variable {H : Type} {enc : TypeId × Value → H} {P : Program} {W : World}
theorem cut_plan {cs : List Value} (h : cs.length = 4) : cs = (cs.drop 0).take 1 ++ ((cs.drop 1).take 1 ++ ((cs.drop 2).take 1 ++ (cs.drop 3).take 1)) := by
 apply List.ext_getElem?
 intro i
 simp only [List.getElem?_append, List.getElem?_take, List.getElem?_drop, List.length_take, List.length_drop]
 grind
theorem open_plan {t : TypeId} {f0 f1 f2 f3 : Field} {base : Nat} {sp : Nat → Bool} {held : Bool} {fuel : Nat} {cs : List Value} {x : DataW H × List MemPlace} (ht : P.underlying t = some (.struct #[f0, f1, f2, f3])) (ct : P.cellsOf t = 4)
  (o0 : f0.offset = 0) (o1 : f1.offset = 1) (o2 : f2.offset = 2) (o3 : f3.offset = 3) (c0 : P.cellsOf f0.type = 1) (c1 : P.cellsOf f1.type = 1) (c2 : P.cellsOf f2.type = 1) (c3 : P.cellsOf f3.type = 1)
  (u0 : P.underlying f0.type = some .string) (u1 : P.underlying f1.type = some (.int .i64)) (u2 : P.underlying f2.type = some (.int .i64)) (u3 : P.underlying f3.type = some (.int .i64))
  (h : DataW.trod enc P W base sp held fuel t cs = some x) : ∃ (ti : List UInt8) (vo it mi : Int), cs = [enS ti, i64 vo, i64 it, i64 mi] ∧ ti.length ≤ maxLen := by
 obtain ⟨xs, k, _, rfl, hl, hxl, hf⟩ := DataW.trod_struct ht h
 match xs, hxl with
 | [y0, y1, y2, y3], _ =>
 have g0 : DataW.trod enc P W base sp held k f0.type ((cs.drop f0.offset).take (P.cellsOf f0.type)) = some y0 := by simpa using hf 0 f0 rfl
 have g1 : DataW.trod enc P W base sp held k f1.type ((cs.drop f1.offset).take (P.cellsOf f1.type)) = some y1 := by simpa using hf 1 f1 rfl
 have g2 : DataW.trod enc P W base sp held k f2.type ((cs.drop f2.offset).take (P.cellsOf f2.type)) = some y2 := by simpa using hf 2 f2 rfl
 have g3 : DataW.trod enc P W base sp held k f3.type ((cs.drop f3.offset).take (P.cellsOf f3.type)) = some y3 := by simpa using hf 3 f3 rfl
 rw [o0, c0] at g0
 rw [o1, c1] at g1
 rw [o2, c2] at g2
 rw [o3, c3] at g3
 rw [ct] at hl
 obtain ⟨s0, e0, l0⟩ := open_str u0 g0
 obtain ⟨z1, e1, _, _⟩ := DataW.trod_int u1 g1
 obtain ⟨z2, e2, _, _⟩ := DataW.trod_int u2 g2
 obtain ⟨z3, e3, _, _⟩ := DataW.trod_int u3 g3
 refine ⟨s0, z1, z2, z3, ?_, l0⟩
 rw [cut_plan hl, e0, e1, e2, e3]
 rfl
set_option maxRecDepth 100000 in
/-- A plan among the arguments. -/
theorem planarg_at {r : Reach} {b0 base : Nat} {sp : Nat → Bool} {held : Bool} {v : Value} {d : DataW H} {p : List MemPlace} (hv : Value.okWide Tryz.prog W r b0 70 v) (h : DataW.Trod enc Tryz.prog W base sp held 70 v d p) :
  ∃ (ti : List UInt8) (vo it mi : Int), v = .agg #[enS ti, i64 vo, i64 it, i64 mi] ∧ ti.length ≤ maxLen := by
 obtain ⟨cs, rfl, _⟩ := okWide_struct Tryz.underlying70 hv
 obtain ⟨fuel, hf⟩ := h
 obtain ⟨ti, vo, it, mi, e, hl⟩ := open_plan Tryz.underlying70 (by kernel_rfl) rfl rfl rfl rfl (by kernel_rfl) (by kernel_rfl) (by kernel_rfl) (by kernel_rfl) Tryz.underlying9 Tryz.underlying3 Tryz.underlying3 Tryz.underlying3 hf
 have e2 : cs.toList = _ := e
 have : cs = #[enS ti, i64 vo, i64 it, i64 mi] := Array.toList_inj.1 (by rw [e2])
 exact ⟨ti, vo, it, mi, by rw [this], hl⟩
set_option maxRecDepth 100000 in
/-- A slice of operations among the arguments. -/
theorem opsarg_at {r : Reach} {b0 base : Nat} {sp : Nat → Bool} {held : Bool} {v : Value} {d : DataW H} {p : List MemPlace} (hv : Value.okWide Tryz.prog W r b0 46 v) (h : DataW.Trod enc Tryz.prog W base sp held 46 v d p) :
  ∃ (A : Option Addr) (c : Nat) (os : List OpR), v = .slice A os.length c ∧ RdO W A os ∧ os.length ≤ c ∧ c ≤ maxLen ∧ ∀ q ∈ os, LenI q.x := by
 obtain ⟨a0, len, cap, rfl⟩ := okWide_slice Tryz.underlying46 hv
 obtain ⟨fuel, hf⟩ := h
 have ce : Tryz.prog.cellsOf 55 = 38 := by kernel_rfl
 rcases open_slice Tryz.underlying46 hf with ⟨hcs, _⟩ | ⟨a, len', cap', m, n, D, Pl, hcs, _, hl, hm, hmm, _, hi⟩
 ·cases hcs
  exact ⟨none, 0, [], rfl, ⟨fun h => absurd h (by simp), by simp⟩, by simp, by simp [maxLen], by simp⟩
 ·cases hcs
  have hlm : len ≤ m := by rw [hmm]; split <;> omega
  have each : ∀ i, i < len → ∃ q : OpR, (∀ j u, (opC q)[j]? = some u → W.cell? (a.add (i * 38 + j)) = some u) ∧ q.x.ky.length = 32 ∧ LenI q.x := fun i hil => by
   obtain ⟨cs', h1, h2⟩ := hi i (by omega)
   rw [ce] at h1
   obtain ⟨_, hlen, hcell⟩ := World.cells?_some h1
   obtain ⟨kd, m, nw, ecs, hk, hL⟩ := open_op Tryz.underlying55 (by kernel_rfl) rfl rfl rfl (by kernel_rfl) (by kernel_rfl) (by kernel_rfl) Tryz.underlying3 Tryz.underlying3 (fun fuel cs x h => it_at fuel cs x h) h2
   refine ⟨⟨kd, m, nw⟩, fun j u hj => ?_, hk, hL⟩
   have e3 : opC ⟨kd, m, nw⟩ = cs' := ecs.symm
   rw [e3] at hj
   obtain ⟨hjl, hje⟩ := List.getElem?_eq_some_iff.1 hj
   have e0 := hcell j (by omega)
   rw [Go.Deep.add_add] at e0
   rw [e0, List.getElem?_eq_getElem hjl, hje]
  haveI : Inhabited OpR := ⟨⟨0, ⟨[], 0, [], [], []⟩, 0⟩⟩
  obtain ⟨q, hq⟩ := choose_lt each
  refine ⟨some a, cap, (List.range len).map q, by simp, ⟨?_, fun x hx => ?_⟩, by simpa using hl, hm, fun x hx => ?_⟩
  ·intro hpos
   have h0 : 0 < len := by simpa using hpos
   obtain ⟨b, o, s⟩ := a
   have hc0 := (hq 0 h0).1 0 (i64 (q 0).kd) rfl
   have hs : s = none := by
    rw [show (⟨b, o, s⟩ : Addr).add (0 * 38 + 0) = ⟨b, o, s⟩ by cases s <;> rfl] at hc0
    exact slot_none hc0
   subst hs
   refine ⟨b, o, rfl, ?_, fun j x hj t u hu => ?_⟩
   ·rw [addr_addN] at hc0
    exact World.block_lt_of_cell? W _ hc0
   ·obtain ⟨hjl, hje⟩ := List.getElem?_eq_some_iff.1 hj
    have hjl' : j < len := by simpa using hjl
    simp at hje
    rw [← hje] at hu
    have := (hq j hjl').1 t u hu
    rw [addr_addN] at this
    rw [Nat.add_assoc]; exact this
  ·obtain ⟨j, hj, rfl⟩ := List.mem_map.1 hx
   exact (hq j (by simpa using hj)).2.1
  ·obtain ⟨j, hj, rfl⟩ := List.mem_map.1 hx
   exact (hq j (by simpa using hj)).2.2
end
end Go.Proofs.YtlchcjnbbhpiaaaGreatDoor
