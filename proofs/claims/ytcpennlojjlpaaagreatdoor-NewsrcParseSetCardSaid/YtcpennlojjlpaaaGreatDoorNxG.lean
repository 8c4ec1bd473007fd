/- Contract: the package's ParseSet. -/
import Derived.Test.YtcpennlojjlpaaaGreatDoorZh
import Derived.Test.YtcpennlojjlpaaaGreatDoorNxF
namespace Go.Nr
open Go.Gn
/-- The last number of ranges, 0: there is none. -/
def lastOf (q : List Rg) : Int := match q.getLast? with | some r => r.2 | none => 0
theorem lastOf_snoc (q : List Rg) (r : Rg) : lastOf (q ++ [r]) = r.2 := by unfold lastOf; rw [List.getLast?_concat]
/-- k items are read: the ranges q, the offset a. -/
structure PsAt (xs : List (List UInt8)) (k a : Nat) (q : List Rg) : Prop where
  eq : pitems xs 0 0 = match pitems (xs.drop k) a (lastOf q) with | .inl l => .inl (q ++ l) | .inr e => .inr e
  len : q.length = k
  ok : ∀ r ∈ q, ok r
theorem PsAt.start (xs : List (List UInt8)) : PsAt xs 0 0 [] := ⟨by
  rw [List.drop_zero, show lastOf [] = 0 from rfl]
  cases pitems xs 0 0 <;> rfl, rfl, by simp⟩
theorem pitem_ok {s : List UInt8} {r : Rg} (h : pitem s = .inl r) : ok r := (pitem_inv h).1
theorem pitems_cons (s : List UInt8) (t : List (List UInt8)) (at_ : Nat) (last : Int) : pitems (s :: t) at_ last = match pitem s with
    | .inr e => .inr (at_, e)
    | .inl r => if 0 < last ∧ r.1 < last + 2 then .inr (at_, 30) else
      match pitems t (at_ + s.length + 1) r.2 with
      | .inl l => .inl (r :: l)
      | .inr e => .inr e := rfl
theorem PsAt.step {xs : List (List UInt8)} {k a : Nat} {q : List Rg} {x : List UInt8} {r : Rg} (h : PsAt xs k a q) (hx : xs[k]? = some x) (hr : pitem x = .inl r) (hs : ¬ (0 < lastOf q ∧ r.1 < lastOf q + 2)) : PsAt xs (k + 1) (a + x.length + 1) (q ++ [r]) := by
  obtain ⟨hl, e⟩ := List.getElem?_eq_some_iff.1 hx
  refine ⟨?_, by simp [h.len], fun z hz => ?_⟩
  · rw [h.eq, List.drop_eq_getElem_cons hl, e, pitems_cons, hr, lastOf_snoc]
    simp only
    rw [if_neg hs]
    cases pitems (xs.drop (k + 1)) (a + x.length + 1) r.2 <;> simp
  · rcases List.mem_append.1 hz with hz | hz
    · exact h.ok z hz
    · simp at hz; rw [hz]; exact pitem_ok hr
theorem PsAt.bad {xs : List (List UInt8)} {k a e : Nat} {q : List Rg} {x : List UInt8} (h : PsAt xs k a q) (hx : xs[k]? = some x) (hr : pitem x = .inr e) : pitems xs 0 0 = .inr (a, e) := by
  obtain ⟨hl, e'⟩ := List.getElem?_eq_some_iff.1 hx
  rw [h.eq, List.drop_eq_getElem_cons hl, e', pitems_cons, hr]
theorem PsAt.seq {xs : List (List UInt8)} {k a : Nat} {q : List Rg} {x : List UInt8} {r : Rg} (h : PsAt xs k a q) (hx : xs[k]? = some x) (hr : pitem x = .inl r) (hs : 0 < lastOf q ∧ r.1 < lastOf q + 2) : pitems xs 0 0 = .inr (a, 30) := by
  obtain ⟨hl, e'⟩ := List.getElem?_eq_some_iff.1 hx
  rw [h.eq, List.drop_eq_getElem_cons hl, e', pitems_cons, hr]
  simp only
  rw [if_pos hs]
theorem PsAt.done {xs : List (List UInt8)} {a : Nat} {q : List Rg} (h : PsAt xs xs.length a q) : pitems xs 0 0 = .inl q := by
  rw [h.eq, List.drop_length]; simp [pitems]
/-- The set, the offset and the error of a text. -/
def psS (s : List UInt8) : List Rg := match pset s with | .inl l => l | .inr _ => []
def psA (s : List UInt8) : Nat := match pset s with | .inl _ => 0 | .inr e => e.1
def psE (s : List UInt8) : Nat := match pset s with | .inl _ => 0 | .inr e => e.2
theorem ps_inl {s : List UInt8} {l : List Rg} (h : pset s = .inl l) : psS s = l ∧ psA s = 0 ∧ psE s = 0 := by unfold psS psA psE; rw [h]; exact ⟨rfl, rfl, rfl⟩
theorem ps_inr {s : List UInt8} {a e : Nat} (h : pset s = .inr (a, e)) : psS s = [] ∧ psA s = a ∧ psE s = e := by unfold psS psA psE; rw [h]; exact ⟨rfl, rfl, rfl⟩
theorem pset_ne {s : List UInt8} (h : s ≠ []) : pset s = pitems (parts 44 s) 0 0 := by unfold pset; rw [if_neg h]
theorem item_parts (s : List UInt8) : (itemE s = 0 ∧ pitem s = .inl (itemR s)) ∨ (itemE s ≠ 0 ∧ pitem s = .inr (itemE s)) := by
  unfold itemE itemR
  cases h : pitem s with
  | inl r => exact .inl ⟨rfl, rfl⟩
  | inr e =>
    refine .inr ⟨?_, rfl⟩
    show e ≠ 0
    unfold pitem at h
    simp only at h
    split at h
    · split at h
      · cases h
      · injection h with h; omega
    · injection h with h; omega
end Go.Nr
namespace Go.Proofs.YtcpennlojjlpaaaGreatDoor
open Go.RowKit Go.Nr Go.Gn

/-- A set, an offset and an error. -/
def GivesPS (w : World) (S : List Rg) (at_ er : Nat) (e : Ending) (w' : World) : Prop :=
  ∃ A c, e = .returned (.tuple #[.agg #[.slice A S.length c], i64 at_, i64 er]) ∧ RdR w' A S ∧ SlR A c S.length ∧ (∀ a, A = some a → w.heap.size ≤ a.block ∧ Ty w' a.block 42) ∧ Below w.heap.size w w'

set_option maxRecDepth 100000 in
set_option maxHeartbeats 8000000 in
theorem parseSet_any (s : List UInt8) (w : World) (hE : Env w) (hl : s.length ≤ 100000000) (hn : (parts 44 s).length ≤ 4096) :
    Calls Tryz.prog 43 #[enS s] w (GivesPS w (psS s) (psA s) (psE s)) := by
  have hb0 := below_new w (.cells #[.slice none 0 0] 26)
  have hc0 := blk_new w (.cells #[.slice none 0 0] 26)
  by_cases h0 : s = []
  · subst h0
    have V : Hid (psS [] = [] ∧ psA [] = 0 ∧ psE [] = 0) := ps_inl (by unfold pset; rw [if_pos rfl])
    have hrc := blk_cell hc0 0
    have hrf := blk_free hc0 0
    have HB0 := Lib.hid hb0
    clear hb0 hc0
    go_enter Tryz.func43, Tryz.ntmps43
    go_wp2_with fail
    refine bodyPost_ret (v := .tuple #[.agg #[.slice none 0 0], i64 0, i64 0]) (by simp [results, Tryz.results43, go_sem, hrc]) rfl ?_
    rw [V.out.1, V.out.2.1, V.out.2.2]
    exact ⟨none, 0, rfl, RdR.nil, SlR.nil, (fun a h => by cases h), HB0.out⟩
  · have hne : (s == []) = false := by simpa using h0
    have hsp := split_any 44 s (w.alloc (.cells #[.slice none 0 0] 26)) (hE.below hb0) (by omega)
    have HPS := Lib.hid (pset_ne h0)
    have HPL : Hid (∀ x ∈ parts 44 s, x.length ≤ s.length) := fun x hx => parts_le 44 s x hx
    have HE := Lib.hid (fun W (h : Below w.heap.size w W) => hE.below h)
    have HB0 := Lib.hid hb0
    have HC0 := Lib.hid hc0
    obtain ⟨i0, hi, hz0, hz1, hz2⟩ := info_parts rng_info
    have hsz0 : (w.alloc (.cells #[.slice none 0 0] 26)).heap.size = w.heap.size + 1 := by simp
    rw [hsz0] at hsp
    clear h0 hE hb0 hc0 hsz0
    generalize parts 44 s = xs at *
    go_enter Tryz.func43, Tryz.ntmps43
    go_wp2_with fail
    refine hsp.mono ?_; rintro e w1 ⟨rfl, hw1⟩
    have B1 : Hid (Below w.heap.size w w1) := by
      show Below w.heap.size w w1
      rw [hw1]; exact HB0.out.tr (below_new _ _)
    have HX : Hid (w1.heap[w.heap.size + 1]? = some (.cells (xs.map enS).toArray 9 (0, 0))) := by
      show w1.heap[w.heap.size + 1]? = _
      rw [hw1]
      have h := blk_new (w.alloc (.cells #[.slice none 0 0] 26)) (.cells (xs.map enS).toArray 9)
      rwa [World.size_alloc] at h
    have HC1 : Hid (w1.heap[w.heap.size]? = some (.cells #[.slice none 0 0] 26 (0, 0))) := by
      show w1.heap[w.heap.size]? = _
      rw [hw1]; exact blk_old _ HC0.out
    have hs1 : w.heap.size + 1 < w1.heap.size := by rw [hw1]; simp
    clear hw1 hsp HB0 HC0
    go_wp2_with fail
    go_loopg [3, 5, 16] xs.length (fun gg av rv iv wr => ∃ (k at_ : Nat) (C : Option Addr) (f : Nat) (q : List Rg), k ≤ xs.length ∧ xs.length - k ≤ gg ∧ iv = .int .i64 k ∧ av = .int .i64 at_ ∧ at_ ≤ k * 100000001 ∧ rv = .slice C q.length f ∧ Hid (wr.ownsRow w1.heap.size 42 2 (.slice C q.length f) q.length (flat q)) ∧ Hid (PsAt xs k at_ q) ∧ q.length = k ∧ Below w1.heap.size w1 wr)
    case atStart => exact ⟨0, 0, none, 0, [], by omega, by omega, rfl, rfl, by omega, rfl, own2_nil _ _ _ _, PsAt.start xs, rfl, Below.refl _ _⟩
    case round =>
      obtain ⟨k, at_, C, f, q, hk, hgk, rfl, rfl, ha, rfl, O, Q, rfl, hB⟩ := hrel
      by_cases hlt : q.length < xs.length
      · obtain ⟨x, hx⟩ : ∃ x, xs[q.length]? = some x := ⟨_, List.getElem?_eq_getElem hlt⟩
        have hxl := HPL.out x (List.mem_of_getElem? hx)
        have hxc : wr.cell? ⟨w.heap.size + 1, q.length, none⟩ = some (enS x) := by
          rw [blk_cell ((hB.block _ hs1).trans HX.out)]
          simp [hx]
        have hsz := hB.size
        have hrk : Hid (wr.heap[w.heap.size]? = some (.cells #[.slice none 0 0] 26 (0, 0))) := (hB.block _ (by omega)).trans HC1.out
        have hBw := Lib.hid (B1.out.trans (hB.mono B1.out.size))
        have HPI := Lib.hid (parseItem_any x wr (HE.out wr hBw.out) (by omega))
        have hip := item_parts x
        have HIX := Lib.hid hx
        have hk4 : q.length < 4096 := by omega
        clear hx
        obtain ⟨x1, hx1⟩ : ∃ z, (itemR x).1 = z := ⟨_, rfl⟩
        obtain ⟨x2, hx2⟩ : ∃ z, (itemR x).2 = z := ⟨_, rfl⟩
        have hxe : itemR x = (x1, x2) := Prod.ext hx1 hx2
        unfold GivesItem at HPI
        rw [hx1, hx2] at HPI
        rw [hxe] at hip
        clear hx1 hx2 hxe
        obtain ⟨er, her⟩ : ∃ z, itemE x = z := ⟨_, rfl⟩
        rw [her] at HPI hip
        clear her
        rcases hip with ⟨rfl, hp⟩ | ⟨hne0, hp⟩
        · have hok := pitem_ok hp
          have HP := Lib.hid hp
          obtain ⟨ok1, ok2, ok3⟩ := hok
          rw [M_eq] at ok3
          simp only at ok1 ok2 ok3
          have z1 : (((0 : Nat) : Int) == 0) = true := rfl
          have z2 : (((0 : Nat) : Int) != 0) = false := rfl
          clear hp
          rcases List.eq_nil_or_concat q with rfl | ⟨p, z, rfl⟩
          · have V := Lib.hid (Q.out.step HIX.out HP.out (by show ¬ (0 < (0 : Int) ∧ _); omega))
            simp only [List.length_nil] at O hxc hgk ha hk4 hlt ⊢
            go_wp2_with fail
            refine HPI.out.mono ?_; rintro e w2 ⟨rfl, b2⟩
            have HR2 := Lib.hid (blk_below b2 hrk.out)
            have HBW := Lib.hid (hBw.out.tr b2)
            have HO2 := Lib.hid (own_below O.out b2)
            have HB2 := Lib.hid (hB.tr b2)
            have hsz2 := b2.size
            clear b2 hxc Q O hB
            go_wp2_with fail
            go_quiet (fail)
            go_wp2_with (at_builtin; refine wpList_append_own _ rfl _ _ 24 rfl w1.heap.size 42 i0 (.agg #[i64 0, i64 0]) 2 16 Tryz.underlying24 hi hz0 hz1 hz2 rfl (by decide) (.slice C 0 f) 0 (flat ([] : List Rg)) rfl (own_below (own_below (own_below HO2.out (below_new _ _)) ((Below.refl _ _).drewN _)) (below_new _ _)) ⟨w2.heap.size + 1, 0, none⟩ 1 1 [i64 x1, i64 x2] rfl rfl ?c1 ?c2 ?c3 ?c4 ?c5 ?_)
            case c1 =>
              intro j u hj
              rw [addr_addN, new_cell _ _ _ _ _ (by simp)]
              simpa using hj
            case c2 => intro u hu; simp at hu; rcases hu with rfl | rfl <;> rfl
            case c3 => unfold maxLen; omega
            case c4 => omega
            case c5 => simp; omega
            intro v' w3 hown3 hg3 _
            obtain ⟨A3, c3, rfl⟩ := own2_slice hown3
            have hoo : (((w2.alloc (.cells #[i64 x1, i64 x2] 42)).drewN nq).alloc (.cells #[i64 x1, i64 x2] 42)).ownsRow w1.heap.size _ 2 _ _ _ := own_below (own_below (own_below HO2.out (below_new _ _)) ((Below.refl _ _).drewN _)) (below_new _ _)
            have b3 := own_grown_below hoo (by simp; omega) hg3
            have hB3 := (((HB2.out.tr (below_new _ (.cells #[i64 x1, i64 x2] 42))).drewN nq).tr (below_new _ (.cells #[i64 x1, i64 x2] 42))).trans b3
            rw [show flat ([] : List Rg) ++ [i64 x1, i64 x2] = flat (([] : List Rg) ++ [(x1, x2)]) by rw [flat_append _ [(x1, x2)], flat_one]] at hown3
            have HO3 := Lib.hid hown3
            have HB3 := Lib.hid hB3
            have HL3 : Hid ((([] : List Rg) ++ [(x1, x2)]).length = 0 + 1) := (by simp : (([] : List Rg) ++ [(x1, x2)]).length = 0 + 1)
            clear hown3 hg3 b3 hoo hB3
            go_wp2_with fail
            go_roundg (xs.length - (0 + 1))
            case measure => omega
            case rel => exact ⟨0 + 1, at_ + x.length + 1, A3, c3, ([] : List Rg) ++ [(x1, x2)], by omega, by omega, by go_num, by go_num, by omega, by rw [HL3.out], by rw [HL3.out]; exact HO3, V, HL3.out, HB3.out⟩
          · rw [List.concat_eq_append] at *
            have hpl : (p ++ [z]).length = p.length + 1 := by simp
            have hzo := Q.out.ok z (by simp)
            have hlz : lastOf (p ++ [z]) = z.2 := lastOf_snoc p z
            have hsq := fun h => Q.out.seq HIX.out HP.out (hlz ▸ h)
            have hst := fun h => Q.out.step HIX.out HP.out (hlz ▸ h)
            rw [hpl] at O hst hxc hlt hgk ha hk4 hk ⊢
            obtain ⟨z1', z2'⟩ := z
            obtain ⟨zo1, zo2, zo3⟩ := hzo
            rw [M_eq] at zo3
            simp only at zo1 zo2 zo3 hsq hst
            have HSQ := Lib.hid hsq
            have HST := Lib.hid hst
            obtain ⟨g, zz, rfl, hgb, hzz, hq1, hq2, _, _⟩ := own_rdn O.out hpl (show p.length < p.length + 1 by omega)
            obtain rfl : (z1', z2') = zz := by simpa using hzz
            simp only at hq1 hq2
            have HPL2 := Lib.hid hpl
            clear hpl hlz hsq hst hzz hq1
            go_wp2_with fail
            refine HPI.out.mono ?_; rintro e w2 ⟨rfl, b2⟩
            have HR2 := Lib.hid (blk_below b2 hrk.out)
            have HBW := Lib.hid (hBw.out.tr b2)
            have HO2 := Lib.hid (own_below O.out b2)
            have HB2 := Lib.hid (hB.tr b2)
            have hsz2 := b2.size
            have hq3 := Below.cellv b2 hq2
            have hq4 := World.block_lt_of_cell? w2 _ hq3
            have hp0 : (0 : Int) ≤ (p.length : Int) := by omega
            clear b2 hq2 Q O hB hxc
            by_cases hs : x1 < z2' + 2
            · have V := Lib.hid (ps_inr (HPS.out.trans (HSQ.out ⟨by omega, hs⟩)))
              have HR3 : Hid (((w2.alloc (.cells #[i64 x1, i64 x2] 42)).drewN 0).heap[w.heap.size]? = some (.cells #[.slice none 0 0] 26 (0, 0))) := blk_old _ HR2.out
              go_wp2_with fail
              go_quiet (fail)
              have HR3 : Hid (((w2.alloc (.cells #[i64 x1, i64 x2] 42)).drewN nq).heap[w.heap.size]? = some (.cells #[.slice none 0 0] 26 (0, 0))) := blk_old _ HR2.out
              clear hq3
              have hrc := blk_cell HR2.out 0
              have hrf := blk_free HR2.out 0
              have hrl := blk_lt HR2.out
              go_wp2_with fail
              have hfin := World.cell?_setCell_same' ((w2.alloc (.cells #[i64 x1, i64 x2] 42)).drewN nq) ⟨w.heap.size, 0, none⟩ (.slice none 0 0) (by rw [blk_cell HR3.out]; rfl)
              refine bodyPost_ret (v := .tuple #[.agg #[.slice none 0 0], i64 at_, i64 30]) (by simp [results, Tryz.results43, go_sem, hfin]) rfl ?_
              rw [V.out.1, V.out.2.1, V.out.2.2]
              exact ⟨none, 0, rfl, RdR.nil, SlR.nil, (fun a h => by cases h), ((HBW.out.tr (below_new _ (.cells #[i64 x1, i64 x2] 42))).drewN nq).setCell (Nat.le_refl _) _⟩
            · have V := Lib.hid (HST.out (by omega))
              go_wp2_with fail
              go_quiet (fail)
              clear hq3
              go_wp2_with (at_builtin; refine wpList_append_own _ rfl _ _ 24 rfl w1.heap.size 42 i0 (.agg #[i64 0, i64 0]) 2 16 Tryz.underlying24 hi hz0 hz1 hz2 rfl (by decide) (.slice (some ⟨g, 0, none⟩) (p.length + 1) f) (p.length + 1) (flat (p ++ [(z1', z2')])) rfl (own_below (own_below (own_below HO2.out (below_new _ _)) ((Below.refl _ _).drewN _)) (below_new _ _)) ⟨w2.heap.size + 1, 0, none⟩ 1 1 [i64 x1, i64 x2] rfl rfl ?c1 ?c2 ?c3 ?c4 ?c5 ?_)
              case c1 =>
                intro j u hj
                rw [addr_addN, new_cell _ _ _ _ _ (by simp)]
                simpa using hj
              case c2 => intro u hu; simp at hu; rcases hu with rfl | rfl <;> rfl
              case c3 => unfold maxLen; omega
              case c4 => omega
              case c5 => simp; omega
              intro v' w3 hown3 hg3 _
              obtain ⟨A3, c3, rfl⟩ := own2_slice hown3
              have hoo : (((w2.alloc (.cells #[i64 x1, i64 x2] 42)).drewN nq).alloc (.cells #[i64 x1, i64 x2] 42)).ownsRow w1.heap.size _ 2 _ _ _ := own_below (own_below (own_below HO2.out (below_new _ _)) ((Below.refl _ _).drewN _)) (below_new _ _)
              have b3 := own_grown_below hoo (by simp; omega) hg3
              have hB3 := (((HB2.out.tr (below_new _ (.cells #[i64 x1, i64 x2] 42))).drewN nq).tr (below_new _ (.cells #[i64 x1, i64 x2] 42))).trans b3
              rw [show flat (p ++ [(z1', z2')]) ++ [i64 x1, i64 x2] = flat ((p ++ [(z1', z2')]) ++ [(x1, x2)]) by rw [flat_append _ [(x1, x2)], flat_one]] at hown3
              have HO3 := Lib.hid hown3
              have HB3 := Lib.hid hB3
              have HL3 : Hid (((p ++ [(z1', z2')]) ++ [(x1, x2)]).length = (p.length + 1) + 1) := (by simp : ((p ++ [(z1', z2')]) ++ [(x1, x2)]).length = (p.length + 1) + 1)
              clear hown3 hg3 b3 hoo hB3
              go_wp2_with fail
              go_roundg (xs.length - ((p.length + 1) + 1))
              case measure => omega
              case rel => exact ⟨(p.length + 1) + 1, at_ + x.length + 1, A3, c3, (p ++ [(z1', z2')]) ++ [(x1, x2)], by omega, by omega, by go_num, by go_num, by omega, by rw [HL3.out], by rw [HL3.out]; exact HO3, V, HL3.out, HB3.out⟩
        · have V := Lib.hid (ps_inr (HPS.out.trans (Q.out.bad HIX.out hp)))
          have z1 : ((er : Int) == 0) = false := by simp; omega
          have z2 : ((er : Int) != 0) = true := by simp; omega
          clear hp O Q hne0
          have hk5 : decide (4096 ≤ (q.length : Int)) = false := decide_eq_false (by omega)
          go_wp2_with fail
          refine HPI.out.mono ?_; rintro e w2 ⟨rfl, b2⟩
          have HR2 := Lib.hid (blk_below b2 hrk.out)
          have HBW := Lib.hid (hBw.out.tr b2)
          clear b2 hxc
          go_wp2_with fail
          go_quiet (fail)
          have HR3 : Hid (((w2.alloc (.cells #[i64 x1, i64 x2] 42)).drewN nq).heap[w.heap.size]? = some (.cells #[.slice none 0 0] 26 (0, 0))) := blk_old _ HR2.out
          have hrc := blk_cell HR2.out 0
          have hrf := blk_free HR2.out 0
          have hrl := blk_lt HR2.out
          go_wp2_with fail
          have hfin := World.cell?_setCell_same' ((w2.alloc (.cells #[i64 x1, i64 x2] 42)).drewN nq) ⟨w.heap.size, 0, none⟩ (.slice none 0 0) (by rw [blk_cell HR3.out]; rfl)
          refine bodyPost_ret (v := .tuple #[.agg #[.slice none 0 0], i64 at_, i64 er]) (by simp [results, Tryz.results43, go_sem, hfin]) rfl ?_
          rw [V.out.1, V.out.2.1, V.out.2.2]
          exact ⟨none, 0, rfl, RdR.nil, SlR.nil, (fun a h => by cases h), ((HBW.out.tr (below_new _ (.cells #[i64 x1, i64 x2] 42))).drewN nq).setCell (Nat.le_refl _) _⟩
      · have hkl : q.length = xs.length := by omega
        have V := Lib.hid (ps_inl (HPS.out.trans (PsAt.done (hkl ▸ Q.out))))
        have hrk : Hid (wr.heap[w.heap.size]? = some (.cells #[.slice none 0 0] 26 (0, 0))) := (hB.block _ (by omega)).trans HC1.out
        have HBw := Lib.hid (B1.out.trans (hB.mono B1.out.size))
        have HO := Lib.hid O.out
        clear Q O hB hkl
        have hrc := blk_cell hrk.out 0
        have hrf := blk_free hrk.out 0
        have hrl := blk_lt hrk.out
        go_wp2_with fail
        have hfin := World.cell?_setCell_same' wr ⟨w.heap.size, 0, none⟩ (.slice C q.length f) (by rw [blk_cell hrk.out]; rfl)
        refine bodyPost_ret (v := .tuple #[.agg #[.slice C q.length f], i64 0, i64 0]) (by simp [results, Tryz.results43, go_sem, hfin]) rfl ?_
        rw [V.out.1, V.out.2.1, V.out.2.2]
        have ho6 := own_keep (w' := wr.setCell ⟨w.heap.size, 0, none⟩ (.slice C q.length f)) HO.out (fun k _ e => blk_set_ne 0 _ (by have := (HO.out.lt k e).1; omega))
        exact ⟨C, f, rfl, (RdR.of_own ho6).1, SlR.of_own ho6, own_new ho6 (by omega), HBw.out.setCell (Nat.le_refl _) _⟩
end Go.Proofs.YtcpennlojjlpaaaGreatDoor
