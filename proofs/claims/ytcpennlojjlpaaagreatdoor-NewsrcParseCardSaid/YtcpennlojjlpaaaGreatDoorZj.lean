/- Contract: Check of the reference of names.
   Contracts: the package's parseItem, the reference's item.
   Contract: the package's ParseSet.
   Contract: the reference's item.
   Contract: the reference's ParseSet. -/
import Derived.Test.YtcpennlojjlpaaaGreatDoorZc
import Derived.Test.YtcpennlojjlpaaaGreatDoorZh
import Derived.Lib.IndexMore
namespace Go.Proofs.YtcpennlojjlpaaaGreatDoor
open Go.RowKit Go.Gn

set_option maxRecDepth 100000 in
set_option maxHeartbeats 2000000 in
theorem refCheck_any (s : List UInt8) (w : World) (hl : s.length ≤ 9223372036854775807) : Calls Tryz.prog 108 #[enS s] w fun e w' => e = .returned (.int .i64 (check s)) ∧ Below w.heap.size w w' := by
  by_cases h80 : 80 < s.length
  · have V : Hid (check s = 5) := by (show check s = 5); unfold check; rw [if_pos h80]
    go_enter Tryz.func108, Tryz.ntmps108
    go_wp2
    go_ret
    exact ⟨ret_int (by rw [V.out]; rfl), Below.refl _ _⟩
  · have hl : s.length ≤ 100000000 := by omega
    have hp := refParts_any s 46 w hl
    have hn := parts_length_le 46 s
    have hx : Hid (∀ x ∈ parts 46 s, x.length ≤ 1000000000) := fun x hx => by have := parts_le 46 s x hx; omega
    have V : Hid (check s = if (parts 46 s).any (fun p => !comp p) then 12 else if 10 < (parts 46 s).length then 9 else 0) := by (show check s = _); unfold check; rw [if_neg h80]
    have hn : (parts 46 s).length ≤ 1000000000 := by omega
    generalize parts 46 s = ps at *
    go_enter Tryz.func108, Tryz.ntmps108
    go_wp2_with fail
    refine hp.mono ?_; rintro e w1 ⟨A, c, rfl, hr, hc, hb⟩
    have HR := Lib.hid hr; clear hr
    go_wp2_with fail
    go_loopg [4] ps.length (fun gg iv wr => ∃ k : Nat, k ≤ ps.length ∧ ps.length - k ≤ gg ∧ iv = .int .i64 k ∧ w1 = wr ∧ Hid ((ps.take k).all comp = true))
    case atStart => exact ⟨0, by omega, by omega, rfl, rfl, rfl⟩
    case round =>
      obtain ⟨k, hk, hg, rfl, rfl, A0⟩ := hrel
      by_cases hlt : k < ps.length
      · obtain ⟨b, o, x, rfl, _, hxk, hcell⟩ := HR.out.at_ hlt
        have hsn := take_all_snoc comp ps k [] hlt
        have hgx : ps.getD k [] = x := by rw [List.getD_eq_getElem?_getD, hxk]; rfl
        rw [hgx] at hsn
        have HX := Lib.hid hxk; clear hxk
        have HS := Lib.hid hsn; clear hsn hgx
        have hcomp := refComponent_any x w1 (hx.out x (List.mem_of_getElem? HX.out))
        cases hq : comp x with
        | true =>
          rw [hq] at hcomp
          have HQ := Lib.hid hq; clear hq
          go_wp2_with (go_at_call 129; refine hcomp.mono ?_; rintro e w2 ⟨rfl, rfl⟩)
          go_roundg (ps.length - (k + 1))
          case measure => omega
          case rel => exact ⟨k + 1, by omega, by omega, by go_num, rfl, (show (ps.take (k + 1)).all comp = true by rw [HS.out, A0.out, HQ.out]; rfl)⟩
        | false =>
          rw [hq] at hcomp
          have HQ := Lib.hid hq; clear hq
          go_wp2_with (go_at_call 129; refine hcomp.mono ?_; rintro e w2 ⟨rfl, rfl⟩)
          go_ret
          refine ⟨ret_int ?_, hb⟩
          rw [V.out, if_pos]
          · rfl
          · exact List.any_eq_true.2 ⟨x, List.mem_of_getElem? HX.out, by rw [HQ.out]; rfl⟩
      · obtain rfl : k = ps.length := by omega
        rw [List.take_length] at A0
        have hany : ps.any (fun p => !comp p) = false := by
          rw [List.any_eq_false]
          intro x hx
          rw [List.all_eq_true.1 A0.out x hx]; simp
        have HA := Lib.hid hany; clear hany
        by_cases h10 : 10 < ps.length
        · go_wp2
          go_ret
          exact ⟨ret_int (by rw [V.out, HA.out, if_neg Bool.false_ne_true, if_pos h10]; rfl), hb⟩
        · go_wp2
          go_ret
          exact ⟨ret_int (by rw [V.out, HA.out, if_neg Bool.false_ne_true, if_neg h10]; rfl), hb⟩
end Go.Proofs.YtcpennlojjlpaaaGreatDoor

namespace Go.Nr
open Go.Lib
theorem index_byte (c : UInt8) : ∀ s : List UInt8, index s [c] = if (s.dropWhile (· != c)) = [] then -1 else ((s.takeWhile (· != c)).length : Int)
  | [] => by simp [index]
  | b :: l => by
    have ih := index_byte c l
    unfold index
    by_cases h : b = c
    · subst h
      have h1 : (b != b) = false := by simp
      rw [List.dropWhile_cons, h1, List.takeWhile_cons, h1]
      simp [List.isPrefixOf]
    · have h1 : (b != c) = true := by simpa using h
      have h2 : (c == b) = false := by simp; exact fun e => h e.symm
      have h3 : [c].isPrefixOf (b :: l) = false := by simp [List.isPrefixOf, h2]
      rw [h3, List.dropWhile_cons, if_pos h1, List.takeWhile_cons, if_pos h1, ih, if_neg Bool.false_ne_true]
      by_cases e : l.dropWhile (· != c) = []
      · rw [if_pos e, if_pos e, if_pos (by rfl)]
      · rw [if_neg e, if_neg e]
        have : ((((l.takeWhile (· != c)).length : Int)) == -1) = false := beq_eq_false_iff_ne.2 (by omega)
        rw [this, if_neg Bool.false_ne_true]
        simp
/-- A cut at one byte. -/
theorem cut_byte (c : UInt8) (s : List UInt8) : cut s [c] = match s.dropWhile (· != c) with | [] => (s, [], false) | _ :: t => (s.takeWhile (· != c), t, true) := by
  unfold cut
  rw [index_byte]
  cases h : s.dropWhile (· != c) with
  | nil => simp
  | cons x t =>
    have e := List.takeWhile_append_dropWhile (p := (· != c)) (l := s)
    rw [h] at e
    simp only [reduceCtorEq, if_false]
    rw [if_pos (by omega)]
    have hl : (((s.takeWhile (· != c)).length : Int)).toNat = (s.takeWhile (· != c)).length := by omega
    rw [hl]
    obtain ⟨p, hp⟩ : ∃ p, s.takeWhile (· != c) = p := ⟨_, rfl⟩
    rw [hp] at e ⊢
    have h1 : s.take p.length = p := by rw [← e]; simp
    have h2 : s.drop (p.length + [c].length) = t := by rw [← e]; simp
    rw [h1, h2]
theorem cut_hyphen (s : List UInt8) : cut s [45] = (cutA s, (cutB s).getD [], (cutB s).isSome) := by
  rw [cut_byte]
  unfold cutB
  cases h : s.dropWhile (· != 45) with
  | nil =>
    have e := List.takeWhile_append_dropWhile (p := (· != (45 : UInt8))) (l := s)
    rw [h, List.append_nil] at e
    simp [cutA, e]
  | cons x t => simp [cutA]
theorem cut_lens (s : List UInt8) : (cutA s).length ≤ s.length ∧ ((cutB s).getD (cutA s)).length ≤ s.length := by
  have e := List.takeWhile_append_dropWhile (p := (· != (45 : UInt8))) (l := s)
  have h1 : (cutA s).length ≤ s.length := by
    have := congrArg List.length e
    rw [List.length_append] at this
    unfold cutA; omega
  refine ⟨h1, ?_⟩
  unfold cutB
  cases h : s.dropWhile (· != 45) with
  | nil => simpa using h1
  | cons x t =>
    rw [h] at e
    have := congrArg List.length e
    simp at this ⊢; omega
/-- What an item stands for, as the package and the reference compute it. -/
def itemR (s : List UInt8) : Rg := match pitem s with | .inl r => r | .inr _ => (0, 0)
def itemE (s : List UInt8) : Nat := match pitem s with | .inl _ => 0 | .inr e => e
end Go.Nr
namespace Go.Proofs.YtcpennlojjlpaaaGreatDoor
open Go.RowKit Go.Nr Go.Gn

theorem cut_any (s : List UInt8) (w : World) (hE : Env w) (hl : s.length ≤ 1000000000) :
    Calls Tryz.prog 106 #[enS s, .string ⟨#[45]⟩] w fun e w' => e = .returned (.tuple #[enS (cutA s), enS ((cutB s).getD []), .bool (cutB s).isSome]) ∧ Below w.heap.size w w' := by
  obtain ⟨m, hm⟩ := hE
  have h := Tryz.strings_Cut ⟨s.toArray⟩ ⟨#[45]⟩ m w (by show s.toArray.size < _; simp; omega) hm
  have e : Lib.cut (⟨s.toArray⟩ : ByteArray).data.toList (⟨#[45]⟩ : ByteArray).data.toList = (cutA s, (cutB s).getD [], (cutB s).isSome) := by
    have : (⟨s.toArray⟩ : ByteArray).data.toList = s := by simp
    rw [this]; exact cut_hyphen s
  rw [e] at h
  exact h.mono fun _ _ ⟨h1, n, h2⟩ => ⟨h1, by rw [h2]; exact (Below.refl _ _).drewN n⟩
/-- A range and an error. -/
def GivesItem (w : World) (r : Rg) (er : Nat) (e : Ending) (w' : World) : Prop := e = .returned (.tuple #[.agg #[i64 r.1, i64 r.2], i64 er]) ∧ Below w.heap.size w w'

set_option maxRecDepth 100000 in
set_option maxHeartbeats 4000000 in
theorem parseItem_any (s : List UInt8) (w : World) (hE : Env w) (hl : s.length ≤ 1000000000) :
    Calls Tryz.prog 86 #[enS s] w (GivesItem w (itemR s) (itemE s)) := by
  have hcut := cut_any s (w.alloc (.cells #[i64 0, i64 0] 42)) (hE.below (below_new _ _)) hl
  have hle := cut_lens s
  have hla : (cutA s).length ≤ 1000000000 := by omega
  have hlb : ((cutB s).getD (cutA s)).length ≤ 1000000000 := by omega
  have hpi : pitem s = (if okNum (cutA s) = true ∧ okNum ((cutB s).getD (cutA s)) = true then
    if (val (cutA s) : Int) ≤ M ∧ (val ((cutB s).getD (cutA s)) : Int) ≤ M ∧ ((cutB s).isSome = true → (val (cutA s) : Int) < val ((cutB s).getD (cutA s))) then .inl ((val (cutA s) : Int), (val ((cutB s).getD (cutA s)) : Int)) else .inr 2
  else .inr 3) := rfl
  have hB : (cutB s).isSome = true → (cutB s).getD [] = (cutB s).getD (cutA s) := by cases cutB s <;> simp
  have hN : (cutB s).isSome = false → (cutB s).getD (cutA s) = cutA s := by cases cutB s <;> simp
  have hb0 := blk_new w (.cells #[i64 0, i64 0] 42)
  have HB0 := Lib.hid (below_new w (.cells #[i64 0, i64 0] 42))
  have H0 := Lib.hid hb0
  have hP := Lib.hid (fun t (h : t.length ≤ 1000000000) W => parseNumber_any t W h)
  have hI := Lib.hid isNumber_any
  have HP := Lib.hid hpi
  have HBn := Lib.hid hB
  have HNn := Lib.hid hN
  clear hE hb0 hpi hB hN
  obtain ⟨tw, htw⟩ : ∃ q, (cutB s).isSome = q := ⟨_, rfl⟩
  rw [htw] at HBn HNn hcut HP
  clear htw
  generalize cutA s = a at *
  generalize (cutB s).getD a = b at *
  generalize (cutB s).getD [] = b' at *
  have HX : Hid (itemR s = (match pitem s with | .inl r => r | .inr _ => (0, 0)) ∧ itemE s = (match pitem s with | .inl _ => 0 | .inr e => e)) := ⟨rfl, rfl⟩
  have n0 : ∀ t, okNum t = true → num0 t = (val t : Int) := fun t h => by unfold num0; rw [if_pos h]
  have N0 := Lib.hid n0
  have nn : ∀ t, okNum t = true → num (num0 t) = decide (num0 t ≤ M) ∧ 1 ≤ num0 t := fun t h => by
    have h3 := (okNum_val h).2.2
    rw [n0 t h]
    have : (1 : Int) ≤ (val t : Int) := by omega
    exact ⟨by unfold num; simp [this], this⟩
  have NN := Lib.hid nn
  clear nn n0
  unfold GivesItem
  cases tw with
  | false =>
    have e1 := HNn.out rfl
    subst e1
    clear HBn HNn hle
    have hp1 := hP.out b hlb
    have NB := NN.out b
    have M0 := N0.out b
    clear hP NN N0
    cases ob : okNum b with
    | false =>
      have V : Hid (itemR s = (0, 0) ∧ itemE s = 3) := by
        show itemR s = (0, 0) ∧ itemE s = 3
        rw [HX.out.1, HX.out.2, HP.out, if_neg (by rw [ob]; simp)]; exact ⟨rfl, rfl⟩
      rw [V.out.1, V.out.2]
      rw [ob] at hp1
      clear NB M0 ob
      generalize num0 b = v1 at *
      have hp1 := Lib.hid hp1
      go_enter Tryz.func86, Tryz.ntmps86
      go_wp2_with fail
      refine hcut.mono ?_; rintro e w1 ⟨rfl, b1⟩
      have H1 := Lib.hid (blk_below b1 H0.out)
      have B1 := Lib.hid (HB0.out.tr b1)
      clear hcut b1 H0 HB0
      go_wp2_with fail
      refine (hp1.out _).mono ?_; rintro e w2 ⟨rfl, rfl⟩
      go_wp2_with fail
      refine (hp1.out _).mono ?_; rintro e w3 ⟨rfl, rfl⟩
      have hrc := blk_cell H1.out 0
      have hrc1 := blk_cell H1.out 1
      have hrf := blk_free H1.out 0
      have hrf1 := blk_free H1.out 1
      go_wp2_with fail
      refine bodyPost_ret (v := .tuple #[.agg #[i64 0, i64 0], i64 3]) (by simp [results, Tryz.results86, go_sem, hrc, hrc1]) rfl ?_
      exact ⟨rfl, (B1.out.setCell (Nat.le_refl _) _).setCell (Nat.le_refl _) _⟩
    | true =>
      obtain ⟨nb, n1⟩ := NB ob
      have M1 := Lib.hid (M0 ob)
      rw [ob] at hp1
      have OB := Lib.hid ob
      clear NB M0 ob
      by_cases hM : num0 b ≤ M
      · rw [decide_eq_true hM] at nb
        have V : Hid (itemR s = (num0 b, num0 b) ∧ itemE s = 0) := by
          show itemR s = (num0 b, num0 b) ∧ itemE s = 0
          rw [HX.out.1, HX.out.2, HP.out, if_pos ⟨OB.out, OB.out⟩, ← M1.out, if_pos ⟨hM, hM, fun h => by cases h⟩]; exact ⟨rfl, rfl⟩
        rw [V.out.1, V.out.2]
        have hI1 := Lib.hid (fun W => isNumber_any (num0 b) W)
        rw [nb] at hI1
        rw [M_eq] at hM
        clear nb M1 OB
        have hp1 := Lib.hid hp1
        generalize num0 b = v1 at *
        go_enter Tryz.func86, Tryz.ntmps86
        go_wp2_with fail
        refine hcut.mono ?_; rintro e w1 ⟨rfl, b1⟩
        have H1 := Lib.hid (blk_below b1 H0.out)
        have B1 := Lib.hid (HB0.out.tr b1)
        clear hcut b1 H0 HB0
        go_wp2_with fail
        refine (hp1.out _).mono ?_; rintro e w2 ⟨rfl, rfl⟩
        go_wp2_with fail
        refine (hp1.out _).mono ?_; rintro e w3 ⟨rfl, rfl⟩
        go_wp2_with fail
        refine (hI1.out _).mono ?_; rintro e w4 ⟨rfl, rfl⟩
        go_wp2_with fail
        refine (hI1.out _).mono ?_; rintro e w4 ⟨rfl, rfl⟩
        have hrc := blk_cell H1.out 0
        have hrc1 := blk_cell H1.out 1
        have hrf := blk_free H1.out 0
        have hrf1 := blk_free H1.out 1
        go_wp2_with fail
        refine bodyPost_ret (v := .tuple #[.agg #[i64 v1, i64 v1], i64 0]) (by simp [results, Tryz.results86, go_sem, hrc, hrc1]) rfl ?_
        exact ⟨rfl, (B1.out.setCell (Nat.le_refl _) _).setCell (Nat.le_refl _) _⟩
      · rw [decide_eq_false hM] at nb
        have V : Hid (itemR s = (0, 0) ∧ itemE s = 2) := by
          show itemR s = (0, 0) ∧ itemE s = 2
          rw [HX.out.1, HX.out.2, HP.out, if_pos ⟨OB.out, OB.out⟩, ← M1.out, if_neg (fun h => hM h.1)]; exact ⟨rfl, rfl⟩
        rw [V.out.1, V.out.2]
        have hI1 := Lib.hid (fun W => isNumber_any (num0 b) W)
        rw [nb] at hI1
        rw [M_eq] at hM
        clear nb M1 OB
        have hp1 := Lib.hid hp1
        generalize num0 b = v1 at *
        go_enter Tryz.func86, Tryz.ntmps86
        go_wp2_with fail
        refine hcut.mono ?_; rintro e w1 ⟨rfl, b1⟩
        have H1 := Lib.hid (blk_below b1 H0.out)
        have B1 := Lib.hid (HB0.out.tr b1)
        clear hcut b1 H0 HB0
        go_wp2_with fail
        refine (hp1.out _).mono ?_; rintro e w2 ⟨rfl, rfl⟩
        go_wp2_with fail
        refine (hp1.out _).mono ?_; rintro e w3 ⟨rfl, rfl⟩
        go_wp2_with fail
        refine (hI1.out _).mono ?_; rintro e w4 ⟨rfl, rfl⟩
        have hrc := blk_cell H1.out 0
        have hrc1 := blk_cell H1.out 1
        have hrf := blk_free H1.out 0
        have hrf1 := blk_free H1.out 1
        go_wp2_with fail
        refine bodyPost_ret (v := .tuple #[.agg #[i64 0, i64 0], i64 2]) (by simp [results, Tryz.results86, go_sem, hrc, hrc1]) rfl ?_
        exact ⟨rfl, (B1.out.setCell (Nat.le_refl _) _).setCell (Nat.le_refl _) _⟩
  | true =>
    have e1 := HBn.out rfl
    subst e1
    clear HBn HNn hle
    have hp1 := hP.out a hla
    have hp2 := hP.out b' hlb
    have NA := NN.out a
    have NB := NN.out b'
    have Ma := N0.out a
    have Mb := N0.out b'
    clear hP NN N0
    cases oa : okNum a with
    | false =>
      have V : Hid (itemR s = (0, 0) ∧ itemE s = 3) := by
        show itemR s = (0, 0) ∧ itemE s = 3
        rw [HX.out.1, HX.out.2, HP.out, if_neg (by rw [oa]; simp)]; exact ⟨rfl, rfl⟩
      rw [V.out.1, V.out.2]
      rw [oa] at hp1
      clear NA NB Ma Mb oa
      have hp1 := Lib.hid hp1
      have hp2 := Lib.hid hp2
      generalize num0 a = v1 at *
      generalize num0 b' = v2 at *
      generalize okNum b' = o2 at *
      go_enter Tryz.func86, Tryz.ntmps86
      go_wp2_with fail
      refine hcut.mono ?_; rintro e w1 ⟨rfl, b1⟩
      have H1 := Lib.hid (blk_below b1 H0.out)
      have B1 := Lib.hid (HB0.out.tr b1)
      clear hcut b1 H0 HB0
      go_wp2_with fail
      refine (hp1.out _).mono ?_; rintro e w2 ⟨rfl, rfl⟩
      go_wp2_with fail
      refine (hp2.out _).mono ?_; rintro e w3 ⟨rfl, rfl⟩
      have hrc := blk_cell H1.out 0
      have hrc1 := blk_cell H1.out 1
      have hrf := blk_free H1.out 0
      have hrf1 := blk_free H1.out 1
      go_wp2_with fail
      refine bodyPost_ret (v := .tuple #[.agg #[i64 0, i64 0], i64 3]) (by simp [results, Tryz.results86, go_sem, hrc, hrc1]) rfl ?_
      exact ⟨rfl, (B1.out.setCell (Nat.le_refl _) _).setCell (Nat.le_refl _) _⟩
    | true =>
      cases ob : okNum b' with
      | false =>
        have V : Hid (itemR s = (0, 0) ∧ itemE s = 3) := by
          show itemR s = (0, 0) ∧ itemE s = 3
          rw [HX.out.1, HX.out.2, HP.out, if_neg (by rw [ob]; simp)]; exact ⟨rfl, rfl⟩
        rw [V.out.1, V.out.2]
        rw [oa] at hp1
        rw [ob] at hp2
        clear NA NB Ma Mb oa ob
        have hp1 := Lib.hid hp1
        have hp2 := Lib.hid hp2
        generalize num0 a = v1 at *
        generalize num0 b' = v2 at *
        go_enter Tryz.func86, Tryz.ntmps86
        go_wp2_with fail
        refine hcut.mono ?_; rintro e w1 ⟨rfl, b1⟩
        have H1 := Lib.hid (blk_below b1 H0.out)
        have B1 := Lib.hid (HB0.out.tr b1)
        clear hcut b1 H0 HB0
        go_wp2_with fail
        refine (hp1.out _).mono ?_; rintro e w2 ⟨rfl, rfl⟩
        go_wp2_with fail
        refine (hp2.out _).mono ?_; rintro e w3 ⟨rfl, rfl⟩
        have hrc := blk_cell H1.out 0
        have hrc1 := blk_cell H1.out 1
        have hrf := blk_free H1.out 0
        have hrf1 := blk_free H1.out 1
        go_wp2_with fail
        refine bodyPost_ret (v := .tuple #[.agg #[i64 0, i64 0], i64 3]) (by simp [results, Tryz.results86, go_sem, hrc, hrc1]) rfl ?_
        exact ⟨rfl, (B1.out.setCell (Nat.le_refl _) _).setCell (Nat.le_refl _) _⟩
      | true =>
        obtain ⟨na, n1⟩ := NA oa
        obtain ⟨nb, n2⟩ := NB ob
        have M1 := Lib.hid (Ma oa)
        have M2 := Lib.hid (Mb ob)
        have OO := Lib.hid (And.intro oa ob)
        rw [oa] at hp1
        rw [ob] at hp2
        clear NA NB Ma Mb oa ob
        have hI1 := Lib.hid (fun W => isNumber_any (num0 a) W)
        have hI2 := Lib.hid (fun W => isNumber_any (num0 b') W)
        have hp1 := Lib.hid hp1
        have hp2 := Lib.hid hp2
        by_cases hMa : num0 a ≤ M
        · rw [decide_eq_true hMa] at na
          rw [na] at hI1
          by_cases hMb : num0 b' ≤ M
          · rw [decide_eq_true hMb] at nb
            rw [nb] at hI2
            by_cases hab : num0 a < num0 b'
            · have V : Hid (itemR s = (num0 a, num0 b') ∧ itemE s = 0) := by
                show itemR s = (num0 a, num0 b') ∧ itemE s = 0
                rw [HX.out.1, HX.out.2, HP.out, if_pos OO.out, ← M1.out, ← M2.out, if_pos ⟨hMa, hMb, fun _ => hab⟩]; exact ⟨rfl, rfl⟩
              rw [V.out.1, V.out.2]
              rw [M_eq] at hMa hMb
              clear na nb M1 M2 OO
              generalize num0 a = v1 at *
              generalize num0 b' = v2 at *
              go_enter Tryz.func86, Tryz.ntmps86
              go_wp2_with fail
              refine hcut.mono ?_; rintro e w1 ⟨rfl, b1⟩
              have H1 := Lib.hid (blk_below b1 H0.out)
              have B1 := Lib.hid (HB0.out.tr b1)
              clear hcut b1 H0 HB0
              go_wp2_with fail
              refine (hp1.out _).mono ?_; rintro e w2 ⟨rfl, rfl⟩
              go_wp2_with fail
              refine (hp2.out _).mono ?_; rintro e w3 ⟨rfl, rfl⟩
              go_wp2_with fail
              refine (hI1.out _).mono ?_; rintro e w4 ⟨rfl, rfl⟩
              go_wp2_with fail
              refine (hI2.out _).mono ?_; rintro e w4 ⟨rfl, rfl⟩
              have hrc := blk_cell H1.out 0
              have hrc1 := blk_cell H1.out 1
              have hrf := blk_free H1.out 0
              have hrf1 := blk_free H1.out 1
              go_wp2_with fail
              refine bodyPost_ret (v := .tuple #[.agg #[i64 v1, i64 v2], i64 0]) (by simp [results, Tryz.results86, go_sem, hrc, hrc1]) rfl ?_
              exact ⟨rfl, (B1.out.setCell (Nat.le_refl _) _).setCell (Nat.le_refl _) _⟩
            · have V : Hid (itemR s = (0, 0) ∧ itemE s = 2) := by
                show itemR s = (0, 0) ∧ itemE s = 2
                rw [HX.out.1, HX.out.2, HP.out, if_pos OO.out, ← M1.out, ← M2.out, if_neg (fun h => hab (h.2.2 rfl))]; exact ⟨rfl, rfl⟩
              rw [V.out.1, V.out.2]
              rw [M_eq] at hMa hMb
              clear na nb M1 M2 OO
              generalize num0 a = v1 at *
              generalize num0 b' = v2 at *
              go_enter Tryz.func86, Tryz.ntmps86
              go_wp2_with fail
              refine hcut.mono ?_; rintro e w1 ⟨rfl, b1⟩
              have H1 := Lib.hid (blk_below b1 H0.out)
              have B1 := Lib.hid (HB0.out.tr b1)
              clear hcut b1 H0 HB0
              go_wp2_with fail
              refine (hp1.out _).mono ?_; rintro e w2 ⟨rfl, rfl⟩
              go_wp2_with fail
              refine (hp2.out _).mono ?_; rintro e w3 ⟨rfl, rfl⟩
              go_wp2_with fail
              refine (hI1.out _).mono ?_; rintro e w4 ⟨rfl, rfl⟩
              go_wp2_with fail
              refine (hI2.out _).mono ?_; rintro e w4 ⟨rfl, rfl⟩
              have hrc := blk_cell H1.out 0
              have hrc1 := blk_cell H1.out 1
              have hrf := blk_free H1.out 0
              have hrf1 := blk_free H1.out 1
              go_wp2_with fail
              refine bodyPost_ret (v := .tuple #[.agg #[i64 0, i64 0], i64 2]) (by simp [results, Tryz.results86, go_sem, hrc, hrc1]) rfl ?_
              exact ⟨rfl, (B1.out.setCell (Nat.le_refl _) _).setCell (Nat.le_refl _) _⟩
          · rw [decide_eq_false hMb] at nb
            rw [nb] at hI2
            have V : Hid (itemR s = (0, 0) ∧ itemE s = 2) := by
              show itemR s = (0, 0) ∧ itemE s = 2
              rw [HX.out.1, HX.out.2, HP.out, if_pos OO.out, ← M1.out, ← M2.out, if_neg (fun h => hMb h.2.1)]; exact ⟨rfl, rfl⟩
            rw [V.out.1, V.out.2]
            rw [M_eq] at hMa hMb
            clear na nb M1 M2 OO
            generalize num0 a = v1 at *
            generalize num0 b' = v2 at *
            go_enter Tryz.func86, Tryz.ntmps86
            go_wp2_with fail
            refine hcut.mono ?_; rintro e w1 ⟨rfl, b1⟩
            have H1 := Lib.hid (blk_below b1 H0.out)
            have B1 := Lib.hid (HB0.out.tr b1)
            clear hcut b1 H0 HB0
            go_wp2_with fail
            refine (hp1.out _).mono ?_; rintro e w2 ⟨rfl, rfl⟩
            go_wp2_with fail
            refine (hp2.out _).mono ?_; rintro e w3 ⟨rfl, rfl⟩
            go_wp2_with fail
            refine (hI1.out _).mono ?_; rintro e w4 ⟨rfl, rfl⟩
            go_wp2_with fail
            refine (hI2.out _).mono ?_; rintro e w4 ⟨rfl, rfl⟩
            have hrc := blk_cell H1.out 0
            have hrc1 := blk_cell H1.out 1
            have hrf := blk_free H1.out 0
            have hrf1 := blk_free H1.out 1
            go_wp2_with fail
            refine bodyPost_ret (v := .tuple #[.agg #[i64 0, i64 0], i64 2]) (by simp [results, Tryz.results86, go_sem, hrc, hrc1]) rfl ?_
            exact ⟨rfl, (B1.out.setCell (Nat.le_refl _) _).setCell (Nat.le_refl _) _⟩
        · rw [decide_eq_false hMa] at na
          rw [na] at hI1
          have V : Hid (itemR s = (0, 0) ∧ itemE s = 2) := by
            show itemR s = (0, 0) ∧ itemE s = 2
            rw [HX.out.1, HX.out.2, HP.out, if_pos OO.out, ← M1.out, ← M2.out, if_neg (fun h => hMa h.1)]; exact ⟨rfl, rfl⟩
          rw [V.out.1, V.out.2]
          rw [M_eq] at hMa
          clear na nb M1 M2 OO
          generalize num0 a = v1 at *
          generalize num0 b' = v2 at *
          go_enter Tryz.func86, Tryz.ntmps86
          go_wp2_with fail
          refine hcut.mono ?_; rintro e w1 ⟨rfl, b1⟩
          have H1 := Lib.hid (blk_below b1 H0.out)
          have B1 := Lib.hid (HB0.out.tr b1)
          clear hcut b1 H0 HB0
          go_wp2_with fail
          refine (hp1.out _).mono ?_; rintro e w2 ⟨rfl, rfl⟩
          go_wp2_with fail
          refine (hp2.out _).mono ?_; rintro e w3 ⟨rfl, rfl⟩
          go_wp2_with fail
          refine (hI1.out _).mono ?_; rintro e w4 ⟨rfl, rfl⟩
          have hrc := blk_cell H1.out 0
          have hrc1 := blk_cell H1.out 1
          have hrf := blk_free H1.out 0
          have hrf1 := blk_free H1.out 1
          go_wp2_with fail
          refine bodyPost_ret (v := .tuple #[.agg #[i64 0, i64 0], i64 2]) (by simp [results, Tryz.results86, go_sem, hrc, hrc1]) rfl ?_
          exact ⟨rfl, (B1.out.setCell (Nat.le_refl _) _).setCell (Nat.le_refl _) _⟩
end Go.Proofs.YtcpennlojjlpaaaGreatDoor

namespace Go.Nr
open Go.Gn
/-- The last number of ranges, 0: there is none. -/
def lastOf (q : List Rg) : Int := match q.getLast? with | some r => r.2 | none => 0
theorem lastOf_snoc (q : List Rg) (r : Rg) : lastOf (q ++ [r]) = r.2 := by unfold lastOf; rw [List.getLast?_concat]
/-- k items are read: the ranges q, the offset a. -/
structure PsAt (xs : List (List UInt8)) (k a : Nat) (q : List Rg) : Prop where
  eq : pitems xs 0 0 = match pitems (xs.drop k) a (lastOf q) with | .inl l => .inl (q ++ l) | .inr e => .inr e
  len : q.length = k
  ok : ∀ r ∈ q, ok r
theorem PsAt.start (xs : List (List UInt8)) : PsAt xs 0 0 [] := ⟨by
  rw [List.drop_zero, show lastOf [] = 0 from rfl]
  cases pitems xs 0 0 <;> rfl, rfl, by simp⟩
theorem pitem_ok {s : List UInt8} {r : Rg} (h : pitem s = .inl r) : ok r := (pitem_inv h).1
theorem pitems_cons (s : List UInt8) (t : List (List UInt8)) (at_ : Nat) (last : Int) : pitems (s :: t) at_ last = match pitem s with
    | .inr e => .inr (at_, e)
    | .inl r => if 0 < last ∧ r.1 < last + 2 then .inr (at_, 30) else
      match pitems t (at_ + s.length + 1) r.2 with
      | .inl l => .inl (r :: l)
      | .inr e => .inr e := rfl
theorem PsAt.step {xs : List (List UInt8)} {k a : Nat} {q : List Rg} {x : List UInt8} {r : Rg} (h : PsAt xs k a q) (hx : xs[k]? = some x) (hr : pitem x = .inl r) (hs : ¬ (0 < lastOf q ∧ r.1 < lastOf q + 2)) : PsAt xs (k + 1) (a + x.length + 1) (q ++ [r]) := by
  obtain ⟨hl, e⟩ := List.getElem?_eq_some_iff.1 hx
  refine ⟨?_, by simp [h.len], fun z hz => ?_⟩
  · rw [h.eq, List.drop_eq_getElem_cons hl, e, pitems_cons, hr, lastOf_snoc]
    simp only
    rw [if_neg hs]
    cases pitems (xs.drop (k + 1)) (a + x.length + 1) r.2 <;> simp
  · rcases List.mem_append.1 hz with hz | hz
    · exact h.ok z hz
    · simp at hz; rw [hz]; exact pitem_ok hr
theorem PsAt.bad {xs : List (List UInt8)} {k a e : Nat} {q : List Rg} {x : List UInt8} (h : PsAt xs k a q) (hx : xs[k]? = some x) (hr : pitem x = .inr e) : pitems xs 0 0 = .inr (a, e) := by
  obtain ⟨hl, e'⟩ := List.getElem?_eq_some_iff.1 hx
  rw [h.eq, List.drop_eq_getElem_cons hl, e', pitems_cons, hr]
theorem PsAt.seq {xs : List (List UInt8)} {k a : Nat} {q : List Rg} {x : List UInt8} {r : Rg} (h : PsAt xs k a q) (hx : xs[k]? = some x) (hr : pitem x = .inl r) (hs : 0 < lastOf q ∧ r.1 < lastOf q + 2) : pitems xs 0 0 = .inr (a, 30) := by
  obtain ⟨hl, e'⟩ := List.getElem?_eq_some_iff.1 hx
  rw [h.eq, List.drop_eq_getElem_cons hl, e', pitems_cons, hr]
  simp only
  rw [if_pos hs]
theorem PsAt.done {xs : List (List UInt8)} {a : Nat} {q : List Rg} (h : PsAt xs xs.length a q) : pitems xs 0 0 = .inl q := by
  rw [h.eq, List.drop_length]; simp [pitems]
/-- The set, the offset and the error of a text. -/
def psS (s : List UInt8) : List Rg := match pset s with | .inl l => l | .inr _ => []
def psA (s : List UInt8) : Nat := match pset s with | .inl _ => 0 | .inr e => e.1
def psE (s : List UInt8) : Nat := match pset s with | .inl _ => 0 | .inr e => e.2
theorem ps_inl {s : List UInt8} {l : List Rg} (h : pset s = .inl l) : psS s = l ∧ psA s = 0 ∧ psE s = 0 := by unfold psS psA psE; rw [h]; exact ⟨rfl, rfl, rfl⟩
theorem ps_inr {s : List UInt8} {a e : Nat} (h : pset s = .inr (a, e)) : psS s = [] ∧ psA s = a ∧ psE s = e := by unfold psS psA psE; rw [h]; exact ⟨rfl, rfl, rfl⟩
theorem pset_ne {s : List UInt8} (h : s ≠ []) : pset s = pitems (parts 44 s) 0 0 := by unfold pset; rw [if_neg h]
theorem item_parts (s : List UInt8) : (itemE s = 0 ∧ pitem s = .inl (itemR s)) ∨ (itemE s ≠ 0 ∧ pitem s = .inr (itemE s)) := by
  unfold itemE itemR
  cases h : pitem s with
  | inl r => exact .inl ⟨rfl, rfl⟩
  | inr e =>
    refine .inr ⟨?_, rfl⟩
    show e ≠ 0
    unfold pitem at h
    simp only at h
    split at h
    · split at h
      · cases h
      · injection h with h; omega
    · injection h with h; omega
end Go.Nr
namespace Go.Proofs.YtcpennlojjlpaaaGreatDoor
open Go.RowKit Go.Nr Go.Gn

/-- A set, an offset and an error. -/
def GivesPS (w : World) (S : List Rg) (at_ er : Nat) (e : Ending) (w' : World) : Prop :=
  ∃ A c, e = .returned (.tuple #[.agg #[.slice A S.length c], i64 at_, i64 er]) ∧ RdR w' A S ∧ SlR A c S.length ∧ (∀ a, A = some a → w.heap.size ≤ a.block ∧ Ty w' a.block 42) ∧ Below w.heap.size w w'

set_option maxRecDepth 100000 in
set_option maxHeartbeats 8000000 in
theorem parseSet_any (s : List UInt8) (w : World) (hE : Env w) (hl : s.length ≤ 100000000) (hn : (parts 44 s).length ≤ 4096) :
    Calls Tryz.prog 43 #[enS s] w (GivesPS w (psS s) (psA s) (psE s)) := by
  have hb0 := below_new w (.cells #[.slice none 0 0] 26)
  have hc0 := blk_new w (.cells #[.slice none 0 0] 26)
  by_cases h0 : s = []
  · subst h0
    have V : Hid (psS [] = [] ∧ psA [] = 0 ∧ psE [] = 0) := ps_inl (by unfold pset; rw [if_pos rfl])
    have hrc := blk_cell hc0 0
    have hrf := blk_free hc0 0
    have HB0 := Lib.hid hb0
    clear hb0 hc0
    go_enter Tryz.func43, Tryz.ntmps43
    go_wp2_with fail
    refine bodyPost_ret (v := .tuple #[.agg #[.slice none 0 0], i64 0, i64 0]) (by simp [results, Tryz.results43, go_sem, hrc]) rfl ?_
    rw [V.out.1, V.out.2.1, V.out.2.2]
    exact ⟨none, 0, rfl, RdR.nil, SlR.nil, (fun a h => by cases h), HB0.out⟩
  · have hne : (s == []) = false := by simpa using h0
    have hsp := split_any 44 s (w.alloc (.cells #[.slice none 0 0] 26)) (hE.below hb0) (by omega)
    have HPS := Lib.hid (pset_ne h0)
    have HPL : Hid (∀ x ∈ parts 44 s, x.length ≤ s.length) := fun x hx => parts_le 44 s x hx
    have HE := Lib.hid (fun W (h : Below w.heap.size w W) => hE.below h)
    have HB0 := Lib.hid hb0
    have HC0 := Lib.hid hc0
    obtain ⟨i0, hi, hz0, hz1, hz2⟩ := info_parts rng_info
    have hsz0 : (w.alloc (.cells #[.slice none 0 0] 26)).heap.size = w.heap.size + 1 := by simp
    rw [hsz0] at hsp
    clear h0 hE hb0 hc0 hsz0
    generalize parts 44 s = xs at *
    go_enter Tryz.func43, Tryz.ntmps43
    go_wp2_with fail
    refine hsp.mono ?_; rintro e w1 ⟨rfl, hw1⟩
    have B1 : Hid (Below w.heap.size w w1) := by
      show Below w.heap.size w w1
      rw [hw1]; exact HB0.out.tr (below_new _ _)
    have HX : Hid (w1.heap[w.heap.size + 1]? = some (.cells (xs.map enS).toArray 9 (0, 0))) := by
      show w1.heap[w.heap.size + 1]? = _
      rw [hw1]
      have h := blk_new (w.alloc (.cells #[.slice none 0 0] 26)) (.cells (xs.map enS).toArray 9)
      rwa [World.size_alloc] at h
    have HC1 : Hid (w1.heap[w.heap.size]? = some (.cells #[.slice none 0 0] 26 (0, 0))) := by
      show w1.heap[w.heap.size]? = _
      rw [hw1]; exact blk_old _ HC0.out
    have hs1 : w.heap.size + 1 < w1.heap.size := by rw [hw1]; simp
    clear hw1 hsp HB0 HC0
    go_wp2_with fail
    go_loopg [3, 5, 16] xs.length (fun gg av rv iv wr => ∃ (k at_ : Nat) (C : Option Addr) (f : Nat) (q : List Rg), k ≤ xs.length ∧ xs.length - k ≤ gg ∧ iv = .int .i64 k ∧ av = .int .i64 at_ ∧ at_ ≤ k * 100000001 ∧ rv = .slice C q.length f ∧ Hid (wr.ownsRow w1.heap.size 42 2 (.slice C q.length f) q.length (flat q)) ∧ Hid (PsAt xs k at_ q) ∧ q.length = k ∧ Below w1.heap.size w1 wr)
    case atStart => exact ⟨0, 0, none, 0, [], by omega, by omega, rfl, rfl, by omega, rfl, own2_nil _ _ _ _, PsAt.start xs, rfl, Below.refl _ _⟩
    case round =>
      obtain ⟨k, at_, C, f, q, hk, hgk, rfl, rfl, ha, rfl, O, Q, rfl, hB⟩ := hrel
      by_cases hlt : q.length < xs.length
      · obtain ⟨x, hx⟩ : ∃ x, xs[q.length]? = some x := ⟨_, List.getElem?_eq_getElem hlt⟩
        have hxl := HPL.out x (List.mem_of_getElem? hx)
        have hxc : wr.cell? ⟨w.heap.size + 1, q.length, none⟩ = some (enS x) := by
          rw [blk_cell ((hB.block _ hs1).trans HX.out)]
          simp [hx]
        have hsz := hB.size
        have hrk : Hid (wr.heap[w.heap.size]? = some (.cells #[.slice none 0 0] 26 (0, 0))) := (hB.block _ (by omega)).trans HC1.out
        have hBw := Lib.hid (B1.out.trans (hB.mono B1.out.size))
        have HPI := Lib.hid (parseItem_any x wr (HE.out wr hBw.out) (by omega))
        have hip := item_parts x
        have HIX := Lib.hid hx
        have hk4 : q.length < 4096 := by omega
        clear hx
        obtain ⟨x1, hx1⟩ : ∃ z, (itemR x).1 = z := ⟨_, rfl⟩
        obtain ⟨x2, hx2⟩ : ∃ z, (itemR x).2 = z := ⟨_, rfl⟩
        have hxe : itemR x = (x1, x2) := Prod.ext hx1 hx2
        unfold GivesItem at HPI
        rw [hx1, hx2] at HPI
        rw [hxe] at hip
        clear hx1 hx2 hxe
        obtain ⟨er, her⟩ : ∃ z, itemE x = z := ⟨_, rfl⟩
        rw [her] at HPI hip
        clear her
        rcases hip with ⟨rfl, hp⟩ | ⟨hne0, hp⟩
        · have hok := pitem_ok hp
          have HP := Lib.hid hp
          obtain ⟨ok1, ok2, ok3⟩ := hok
          rw [M_eq] at ok3
          simp only at ok1 ok2 ok3
          have z1 : (((0 : Nat) : Int) == 0) = true := rfl
          have z2 : (((0 : Nat) : Int) != 0) = false := rfl
          clear hp
          rcases List.eq_nil_or_concat q with rfl | ⟨p, z, rfl⟩
          · have V := Lib.hid (Q.out.step HIX.out HP.out (by show ¬ (0 < (0 : Int) ∧ _); omega))
            simp only [List.length_nil] at O hxc hgk ha hk4 hlt ⊢
            go_wp2_with fail
            refine HPI.out.mono ?_; rintro e w2 ⟨rfl, b2⟩
            have HR2 := Lib.hid (blk_below b2 hrk.out)
            have HBW := Lib.hid (hBw.out.tr b2)
            have HO2 := Lib.hid (own_below O.out b2)
            have HB2 := Lib.hid (hB.tr b2)
            have hsz2 := b2.size
            clear b2 hxc Q O hB
            go_wp2_with fail
            go_quiet (fail)
            go_wp2_with (at_builtin; refine wpList_append_own _ rfl _ _ 24 rfl w1.heap.size 42 i0 (.agg #[i64 0, i64 0]) 2 16 Tryz.underlying24 hi hz0 hz1 hz2 rfl (by decide) (.slice C 0 f) 0 (flat ([] : List Rg)) rfl (own_below (own_below (own_below HO2.out (below_new _ _)) ((Below.refl _ _).drewN _)) (below_new _ _)) ⟨w2.heap.size + 1, 0, none⟩ 1 1 [i64 x1, i64 x2] rfl rfl ?c1 ?c2 ?c3 ?c4 ?c5 ?_)
            case c1 =>
              intro j u hj
              rw [addr_addN, new_cell _ _ _ _ _ (by simp)]
              simpa using hj
            case c2 => intro u hu; simp at hu; rcases hu with rfl | rfl <;> rfl
            case c3 => unfold maxLen; omega
            case c4 => omega
            case c5 => simp; omega
            intro v' w3 hown3 hg3 _
            obtain ⟨A3, c3, rfl⟩ := own2_slice hown3
            have hoo : (((w2.alloc (.cells #[i64 x1, i64 x2] 42)).drewN nq).alloc (.cells #[i64 x1, i64 x2] 42)).ownsRow w1.heap.size _ 2 _ _ _ := own_below (own_below (own_below HO2.out (below_new _ _)) ((Below.refl _ _).drewN _)) (below_new _ _)
            have b3 := own_grown_below hoo (by simp; omega) hg3
            have hB3 := (((HB2.out.tr (below_new _ (.cells #[i64 x1, i64 x2] 42))).drewN nq).tr (below_new _ (.cells #[i64 x1, i64 x2] 42))).trans b3
            rw [show flat ([] : List Rg) ++ [i64 x1, i64 x2] = flat (([] : List Rg) ++ [(x1, x2)]) by rw [flat_append _ [(x1, x2)], flat_one]] at hown3
            have HO3 := Lib.hid hown3
            have HB3 := Lib.hid hB3
            have HL3 : Hid ((([] : List Rg) ++ [(x1, x2)]).length = 0 + 1) := (by simp : (([] : List Rg) ++ [(x1, x2)]).length = 0 + 1)
            clear hown3 hg3 b3 hoo hB3
            go_wp2_with fail
            go_roundg (xs.length - (0 + 1))
            case measure => omega
            case rel => exact ⟨0 + 1, at_ + x.length + 1, A3, c3, ([] : List Rg) ++ [(x1, x2)], by omega, by omega, by go_num, by go_num, by omega, by rw [HL3.out], by rw [HL3.out]; exact HO3, V, HL3.out, HB3.out⟩
          · rw [List.concat_eq_append] at *
            have hpl : (p ++ [z]).length = p.length + 1 := by simp
            have hzo := Q.out.ok z (by simp)
            have hlz : lastOf (p ++ [z]) = z.2 := lastOf_snoc p z
            have hsq := fun h => Q.out.seq HIX.out HP.out (hlz ▸ h)
            have hst := fun h => Q.out.step HIX.out HP.out (hlz ▸ h)
            rw [hpl] at O hst hxc hlt hgk ha hk4 hk ⊢
            obtain ⟨z1', z2'⟩ := z
            obtain ⟨zo1, zo2, zo3⟩ := hzo
            rw [M_eq] at zo3
            simp only at zo1 zo2 zo3 hsq hst
            have HSQ := Lib.hid hsq
            have HST := Lib.hid hst
            obtain ⟨g, zz, rfl, hgb, hzz, hq1, hq2, _, _⟩ := own_rdn O.out hpl (show p.length < p.length + 1 by omega)
            obtain rfl : (z1', z2') = zz := by simpa using hzz
            simp only at hq1 hq2
            have HPL2 := Lib.hid hpl
            clear hpl hlz hsq hst hzz hq1
            go_wp2_with fail
            refine HPI.out.mono ?_; rintro e w2 ⟨rfl, b2⟩
            have HR2 := Lib.hid (blk_below b2 hrk.out)
            have HBW := Lib.hid (hBw.out.tr b2)
            have HO2 := Lib.hid (own_below O.out b2)
            have HB2 := Lib.hid (hB.tr b2)
            have hsz2 := b2.size
            have hq3 := Below.cellv b2 hq2
            have hq4 := World.block_lt_of_cell? w2 _ hq3
            have hp0 : (0 : Int) ≤ (p.length : Int) := by omega
            clear b2 hq2 Q O hB hxc
            by_cases hs : x1 < z2' + 2
            · have V := Lib.hid (ps_inr (HPS.out.trans (HSQ.out ⟨by omega, hs⟩)))
              have HR3 : Hid (((w2.alloc (.cells #[i64 x1, i64 x2] 42)).drewN 0).heap[w.heap.size]? = some (.cells #[.slice none 0 0] 26 (0, 0))) := blk_old _ HR2.out
              go_wp2_with fail
              go_quiet (fail)
              have HR3 : Hid (((w2.alloc (.cells #[i64 x1, i64 x2] 42)).drewN nq).heap[w.heap.size]? = some (.cells #[.slice none 0 0] 26 (0, 0))) := blk_old _ HR2.out
              clear hq3
              have hrc := blk_cell HR2.out 0
              have hrf := blk_free HR2.out 0
              have hrl := blk_lt HR2.out
              go_wp2_with fail
              have hfin := World.cell?_setCell_same' ((w2.alloc (.cells #[i64 x1, i64 x2] 42)).drewN nq) ⟨w.heap.size, 0, none⟩ (.slice none 0 0) (by rw [blk_cell HR3.out]; rfl)
              refine bodyPost_ret (v := .tuple #[.agg #[.slice none 0 0], i64 at_, i64 30]) (by simp [results, Tryz.results43, go_sem, hfin]) rfl ?_
              rw [V.out.1, V.out.2.1, V.out.2.2]
              exact ⟨none, 0, rfl, RdR.nil, SlR.nil, (fun a h => by cases h), ((HBW.out.tr (below_new _ (.cells #[i64 x1, i64 x2] 42))).drewN nq).setCell (Nat.le_refl _) _⟩
            · have V := Lib.hid (HST.out (by omega))
              go_wp2_with fail
              go_quiet (fail)
              clear hq3
              go_wp2_with (at_builtin; refine wpList_append_own _ rfl _ _ 24 rfl w1.heap.size 42 i0 (.agg #[i64 0, i64 0]) 2 16 Tryz.underlying24 hi hz0 hz1 hz2 rfl (by decide) (.slice (some ⟨g, 0, none⟩) (p.length + 1) f) (p.length + 1) (flat (p ++ [(z1', z2')])) rfl (own_below (own_below (own_below HO2.out (below_new _ _)) ((Below.refl _ _).drewN _)) (below_new _ _)) ⟨w2.heap.size + 1, 0, none⟩ 1 1 [i64 x1, i64 x2] rfl rfl ?c1 ?c2 ?c3 ?c4 ?c5 ?_)
              case c1 =>
                intro j u hj
                rw [addr_addN, new_cell _ _ _ _ _ (by simp)]
                simpa using hj
              case c2 => intro u hu; simp at hu; rcases hu with rfl | rfl <;> rfl
              case c3 => unfold maxLen; omega
              case c4 => omega
              case c5 => simp; omega
              intro v' w3 hown3 hg3 _
              obtain ⟨A3, c3, rfl⟩ := own2_slice hown3
              have hoo : (((w2.alloc (.cells #[i64 x1, i64 x2] 42)).drewN nq).alloc (.cells #[i64 x1, i64 x2] 42)).ownsRow w1.heap.size _ 2 _ _ _ := own_below (own_below (own_below HO2.out (below_new _ _)) ((Below.refl _ _).drewN _)) (below_new _ _)
              have b3 := own_grown_below hoo (by simp; omega) hg3
              have hB3 := (((HB2.out.tr (below_new _ (.cells #[i64 x1, i64 x2] 42))).drewN nq).tr (below_new _ (.cells #[i64 x1, i64 x2] 42))).trans b3
              rw [show flat (p ++ [(z1', z2')]) ++ [i64 x1, i64 x2] = flat ((p ++ [(z1', z2')]) ++ [(x1, x2)]) by rw [flat_append _ [(x1, x2)], flat_one]] at hown3
              have HO3 := Lib.hid hown3
              have HB3 := Lib.hid hB3
              have HL3 : Hid (((p ++ [(z1', z2')]) ++ [(x1, x2)]).length = (p.length + 1) + 1) := (by simp : ((p ++ [(z1', z2')]) ++ [(x1, x2)]).length = (p.length + 1) + 1)
              clear hown3 hg3 b3 hoo hB3
              go_wp2_with fail
              go_roundg (xs.length - ((p.length + 1) + 1))
              case measure => omega
              case rel => exact ⟨(p.length + 1) + 1, at_ + x.length + 1, A3, c3, (p ++ [(z1', z2')]) ++ [(x1, x2)], by omega, by omega, by go_num, by go_num, by omega, by rw [HL3.out], by rw [HL3.out]; exact HO3, V, HL3.out, HB3.out⟩
        · have V := Lib.hid (ps_inr (HPS.out.trans (Q.out.bad HIX.out hp)))
          have z1 : ((er : Int) == 0) = false := by simp; omega
          have z2 : ((er : Int) != 0) = true := by simp; omega
          clear hp O Q hne0
          have hk5 : decide (4096 ≤ (q.length : Int)) = false := decide_eq_false (by omega)
          go_wp2_with fail
          refine HPI.out.mono ?_; rintro e w2 ⟨rfl, b2⟩
          have HR2 := Lib.hid (blk_below b2 hrk.out)
          have HBW := Lib.hid (hBw.out.tr b2)
          clear b2 hxc
          go_wp2_with fail
          go_quiet (fail)
          have HR3 : Hid (((w2.alloc (.cells #[i64 x1, i64 x2] 42)).drewN nq).heap[w.heap.size]? = some (.cells #[.slice none 0 0] 26 (0, 0))) := blk_old _ HR2.out
          have hrc := blk_cell HR2.out 0
          have hrf := blk_free HR2.out 0
          have hrl := blk_lt HR2.out
          go_wp2_with fail
          have hfin := World.cell?_setCell_same' ((w2.alloc (.cells #[i64 x1, i64 x2] 42)).drewN nq) ⟨w.heap.size, 0, none⟩ (.slice none 0 0) (by rw [blk_cell HR3.out]; rfl)
          refine bodyPost_ret (v := .tuple #[.agg #[.slice none 0 0], i64 at_, i64 er]) (by simp [results, Tryz.results43, go_sem, hfin]) rfl ?_
          rw [V.out.1, V.out.2.1, V.out.2.2]
          exact ⟨none, 0, rfl, RdR.nil, SlR.nil, (fun a h => by cases h), ((HBW.out.tr (below_new _ (.cells #[i64 x1, i64 x2] 42))).drewN nq).setCell (Nat.le_refl _) _⟩
      · have hkl : q.length = xs.length := by omega
        have V := Lib.hid (ps_inl (HPS.out.trans (PsAt.done (hkl ▸ Q.out))))
        have hrk : Hid (wr.heap[w.heap.size]? = some (.cells #[.slice none 0 0] 26 (0, 0))) := (hB.block _ (by omega)).trans HC1.out
        have HBw := Lib.hid (B1.out.trans (hB.mono B1.out.size))
        have HO := Lib.hid O.out
        clear Q O hB hkl
        have hrc := blk_cell hrk.out 0
        have hrf := blk_free hrk.out 0
        have hrl := blk_lt hrk.out
        go_wp2_with fail
        have hfin := World.cell?_setCell_same' wr ⟨w.heap.size, 0, none⟩ (.slice C q.length f) (by rw [blk_cell hrk.out]; rfl)
        refine bodyPost_ret (v := .tuple #[.agg #[.slice C q.length f], i64 0, i64 0]) (by simp [results, Tryz.results43, go_sem, hfin]) rfl ?_
        rw [V.out.1, V.out.2.1, V.out.2.2]
        have ho6 := own_keep (w' := wr.setCell ⟨w.heap.size, 0, none⟩ (.slice C q.length f)) HO.out (fun k _ e => blk_set_ne 0 _ (by have := (HO.out.lt k e).1; omega))
        exact ⟨C, f, rfl, (RdR.of_own ho6).1, SlR.of_own ho6, own_new ho6 (by omega), HBw.out.setCell (Nat.le_refl _) _⟩
end Go.Proofs.YtcpennlojjlpaaaGreatDoor

namespace Go.Nr
def itemE2 (s : List UInt8) (last : Int) : Nat := match pitem s with | .inr e => e | .inl r => if 0 < last ∧ r.1 < last + 2 then 30 else 0
def itemR2 (s : List UInt8) (last : Int) : Rg := match pitem s with | .inr _ => (0, 0) | .inl r => if 0 < last ∧ r.1 < last + 2 then (0, 0) else r
theorem cutA_cons (c : UInt8) (t : List UInt8) : cutA (c :: t) = if c = 45 then [] else c :: cutA t := by
  unfold cutA
  rw [List.takeWhile_cons]
  by_cases h : c = 45
  · subst h; rfl
  · have : (c != 45) = true := by simpa using h
    rw [if_pos this, if_neg h]
theorem cut_step {s : List UInt8} {m : Nat} (hm : m < s.length) : m + (cutA (s.drop m)).length = if s.getD m 0 = 45 then m else m + 1 + (cutA (s.drop (m + 1))).length := by
  rw [List.drop_eq_getElem_cons hm, cutA_cons]
  have : s.getD m 0 = s[m] := by simp [hm]
  rw [this]
  split <;> simp
  omega
theorem cutA_take (s : List UInt8) : s.take (cutA s).length = cutA s := by
  have e := List.takeWhile_append_dropWhile (p := (· != (45 : UInt8))) (l := s)
  obtain ⟨p, hp⟩ : ∃ p, cutA s = p := ⟨_, rfl⟩
  have hp' : s.takeWhile (· != (45 : UInt8)) = p := hp
  rw [hp'] at e
  rw [hp, ← e]; simp
theorem cutB_drop (s : List UInt8) : ((cutB s).isSome = true → (cutA s).length < s.length ∧ s.drop ((cutA s).length + 1) = (cutB s).getD []) ∧ ((cutB s).isSome = false → (cutA s).length = s.length) := by
  rcases cut_inv s with ⟨b, h1, h2⟩ | ⟨h1, h2⟩
  · refine ⟨fun _ => ?_, (fun h => by rw [h1] at h; cases h)⟩
    have hl := congrArg List.length h2
    simp at hl
    refine ⟨by omega, ?_⟩
    rw [h1]
    obtain ⟨p, hp⟩ : ∃ p, cutA s = p := ⟨_, rfl⟩
    rw [hp] at h2 ⊢
    rw [h2]; simp
  · exact ⟨(fun h => by rw [h1] at h; cases h), (fun _ => by rw [h2])⟩
end Go.Nr
namespace Go.Proofs.YtcpennlojjlpaaaGreatDoor
open Go.RowKit Go.Nr Go.Gn

theorem ext_take (s : List UInt8) (n : Nat) : (⟨s.toArray⟩ : ByteArray).extract 0 n = ⟨(s.take n).toArray⟩ := by
  apply ByteArray.ext
  rw [ByteArray.data_extract]
  apply Array.toList_inj.1
  simp
theorem ext_drop (s : List UInt8) (n : Nat) : (⟨s.toArray⟩ : ByteArray).extract n s.length = ⟨(s.drop n).toArray⟩ := by
  apply ByteArray.ext
  rw [ByteArray.data_extract]
  apply Array.toList_inj.1
  simp
  rw [List.take_of_length_le (by simp)]
set_option maxRecDepth 100000 in
set_option maxHeartbeats 8000000 in
theorem refItem_any (s : List UInt8) (last : Int) (w : World) (hl : s.length ≤ 1000000000) (h0 : 0 ≤ last) (hM : last ≤ M) :
    Calls Tryz.prog 87 #[enS s, i64 last] w (GivesItem w (itemR2 s last) (itemE2 s last)) := by
  have hle := cut_lens s
  have hla : (cutA s).length ≤ 1000000000 := by omega
  have hlb : ((cutB s).getD (cutA s)).length ≤ 1000000000 := by omega
  have hpi : pitem s = (if okNum (cutA s) = true ∧ okNum ((cutB s).getD (cutA s)) = true then
    if (val (cutA s) : Int) ≤ M ∧ (val ((cutB s).getD (cutA s)) : Int) ≤ M ∧ ((cutB s).isSome = true → (val (cutA s) : Int) < val ((cutB s).getD (cutA s))) then .inl ((val (cutA s) : Int), (val ((cutB s).getD (cutA s)) : Int)) else .inr 2
  else .inr 3) := rfl
  have hB : (cutB s).isSome = true → (cutB s).getD [] = (cutB s).getD (cutA s) := by cases cutB s <;> simp
  have hN : (cutB s).isSome = false → (cutB s).getD (cutA s) = cutA s := by cases cutB s <;> simp
  have hb0 := blk_new w (.cells #[i64 0, i64 0] 37)
  have HB0 := Lib.hid (below_new w (.cells #[i64 0, i64 0] 37))
  have H0 := Lib.hid hb0
  have hP := Lib.hid (fun t (h : t.length ≤ 1000000000) W => refNumber_any t W h)
  have HP := Lib.hid hpi
  have HBn := Lib.hid hB
  have HNn := Lib.hid hN
  have HCS := Lib.hid (fun m (h : m < s.length) => cut_step h)
  have HCT := Lib.hid (cutA_take s)
  have HCD := Lib.hid (cutB_drop s)
  rw [M_eq] at hM
  clear hb0 hpi hB hN
  go_enter Tryz.func87, Tryz.ntmps87
  go_wp2_with fail
  generalize w.alloc (.cells #[i64 0, i64 0] 37) = u0 at *
  go_loopg [6, 7] s.length (fun gg cv iv wr => ∃ (j cu : Nat) (z : Int), j ≤ s.length ∧ j ≤ gg ∧ z ≤ (j : Int) - 1 ∧ (j : Int) - 1 ≤ z ∧ iv = .int .i64 z ∧ cv = .int .i64 cu ∧ Hid (cu = j + (cutA (s.drop j)).length) ∧ u0 = wr)
  case atStart => exact ⟨s.length, s.length, _, by omega, by omega, by omega, by omega, rfl, rfl, (show s.length = s.length + (cutA (s.drop s.length)).length by rw [List.drop_length]; rfl), rfl⟩
  case round =>
    obtain ⟨j, cu, z, hj, hgj, hz1, hz2, rfl, rfl, C, rfl⟩ := hrel
    by_cases hpos : 0 ≤ z
    · obtain ⟨m, rfl⟩ : ∃ m : Nat, z = m := ⟨z.toNat, by omega⟩
      obtain rfl : j = m + 1 := by omega
      have hm : m < s.length := by omega
      have hcs := HCS.out m hm
      rw [← C.out] at hcs
      have bg := bget (t := s) (p := m) (show m < s.toArray.size by simpa using hm) hm
      obtain ⟨c, hc⟩ : ∃ c, s.getD m 0 = c := ⟨_, rfl⟩
      rw [hc] at bg hcs
      have HC := Lib.hid hcs
      clear hc hcs C
      by_cases h45 : c = 45
      · have V : Hid (m = m + (cutA (s.drop m)).length) := by
          show m = _
          rw [HC.out, if_pos h45]
        subst h45
        go_wp2_with fail
        go_roundg m
        case measure => omega
        case rel => exact ⟨m, m, _, by omega, by omega, by omega, by omega, rfl, rfl, V, rfl⟩
      · have V : Hid (cu = m + (cutA (s.drop m)).length) := by
          show cu = _
          rw [HC.out, if_neg h45]
        have e1 : ((c.toNat : Int) == 45) = false := by
          simp; intro e; exact h45 (UInt8.toNat_inj.1 (by simpa using (by omega : c.toNat = 45)))
        have e2 : (c.toNat == 45) = false := by
          simp; intro e; exact h45 (UInt8.toNat_inj.1 (by simpa using e))
        clear h45
        go_wp2_with fail
        go_roundg m
        case measure => omega
        case rel => exact ⟨m, cu, _, by omega, by omega, by omega, by omega, rfl, rfl, V, rfl⟩
    · obtain rfl : j = 0 := by omega
      have hcu : Hid (cu = (cutA s).length) := by
        show cu = _
        have := C.out
        rw [List.drop_zero, Nat.zero_add] at this; exact this
      have hcl : cu ≤ s.length := by rw [hcu.out]; omega
      have hx1 : (⟨s.toArray⟩ : ByteArray).extract 0 cu = ⟨(cutA s).toArray⟩ := by rw [ext_take, hcu.out, HCT.out]
      have hx2 : Hid ((cutB s).isSome = true → (⟨s.toArray⟩ : ByteArray).extract (cu + 1) s.length = ⟨((cutB s).getD []).toArray⟩) := fun h => by rw [ext_drop, hcu.out, (HCD.out.1 h).2]
      have hlt : Hid ((cutB s).isSome = true → cu < s.length) := fun h => by rw [hcu.out]; exact (HCD.out.1 h).1
      have hge : Hid ((cutB s).isSome = false → s.length ≤ cu) := fun h => by rw [hcu.out, HCD.out.2 h]; exact Nat.le_refl _
      have hzn : z < 0 := by omega
      clear C hcu HCT HCD HCS hgj hj hz1 hz2 hpos
      obtain ⟨tw, htw⟩ : ∃ q, (cutB s).isSome = q := ⟨_, rfl⟩
      rw [htw] at HBn HNn HP hx2 hlt hge
      clear htw
      generalize cutA s = a at *
      generalize (cutB s).getD a = b at *
      generalize (cutB s).getD [] = b' at *
      have HX : Hid (itemR2 s last = (match pitem s with | .inr _ => (0, 0) | .inl r => if 0 < last ∧ r.1 < last + 2 then (0, 0) else r) ∧ itemE2 s last = (match pitem s with | .inr e => e | .inl r => if 0 < last ∧ r.1 < last + 2 then 30 else 0)) := ⟨rfl, rfl⟩
      have N0 : Hid (∀ t, okNum t = true → numV t = (val t : Int) ∧ 1 ≤ numV t ∧ numV t ≤ 10000000000000) := fun t h => by
        have h3 := okNum_val h
        have e : 10 ^ 13 = 10000000000000 := by decide
        unfold numV; rw [if_pos h]; exact ⟨rfl, by omega, by omega⟩
      have N1 : Hid (∀ t, okNum t = false → numV t = -1) := fun t h => by unfold numV; rw [h]; rfl
      unfold GivesItem
      cases tw with
      | false =>
        have e1 := HNn.out rfl
        subst e1
        have hge1 := hge.out rfl
        clear HBn HNn hle hlt hge hx2
        have hp1 := hP.out b hlb
        clear hP
        cases ob : okNum b with
        | false =>
          have V : Hid (itemR2 s last = (0, 0) ∧ itemE2 s last = 3) := by
            show itemR2 s last = (0, 0) ∧ itemE2 s last = 3
            rw [HX.out.1, HX.out.2, HP.out, if_neg (by rw [ob]; simp)]; exact ⟨rfl, rfl⟩
          rw [N1.out b ob] at hp1
          have hp1 := Lib.hid hp1
          clear ob N0 N1
          go_wp2_with fail
          refine (hp1.out _).mono ?_; rintro e w2 ⟨rfl, rfl⟩
          have hrc := blk_cell H0.out 0
          have hrc1 := blk_cell H0.out 1
          have hrf := blk_free H0.out 0
          have hrf1 := blk_free H0.out 1
          go_wp2_with fail
          refine bodyPost_ret (v := .tuple #[.agg #[i64 0, i64 0], i64 3]) (by simp [results, Tryz.results87, go_sem, hrc, hrc1]) rfl ?_
          rw [V.out.1, V.out.2]
          exact ⟨rfl, (HB0.out.setCell (Nat.le_refl _) _).setCell (Nat.le_refl _) _⟩
        | true =>
          obtain ⟨m1, n1, n2⟩ := N0.out b ob
          have M1 := Lib.hid m1
          have OB := Lib.hid ob
          clear N0 N1 ob m1
          have hp1 := Lib.hid hp1
          by_cases hMb : numV b ≤ M
          · by_cases hs1 : 0 < last
            · by_cases hs2 : numV b < last + 2 
              · have V : Hid (itemR2 s last = (0, 0) ∧ itemE2 s last = 30) := by
                  show itemR2 s last = (0, 0) ∧ itemE2 s last = 30
                  rw [HX.out.1, HX.out.2, HP.out, if_pos ⟨OB.out, OB.out⟩, ← M1.out, if_pos ⟨hMb, hMb, fun h => by cases h⟩]
                  simp only
                  rw [if_pos ⟨hs1, hs2⟩, if_pos ⟨hs1, hs2⟩]; exact ⟨rfl, rfl⟩
                rw [M_eq] at *
                clear M1 OB
                generalize numV b = v1 at *
                go_wp2_with fail
                refine (hp1.out _).mono ?_; rintro e w2 ⟨rfl, rfl⟩
                have hrc := blk_cell H0.out 0
                have hrc1 := blk_cell H0.out 1
                have hrf := blk_free H0.out 0
                have hrf1 := blk_free H0.out 1
                go_wp2_with fail
                refine bodyPost_ret (v := .tuple #[.agg #[i64 0, i64 0], i64 30]) (by simp [results, Tryz.results87, go_sem, hrc, hrc1]) rfl ?_
                rw [V.out.1, V.out.2]
                exact ⟨rfl, (HB0.out.setCell (Nat.le_refl _) _).setCell (Nat.le_refl _) _⟩ 
              · have V : Hid (itemR2 s last = (numV b, numV b) ∧ itemE2 s last = 0) := by
                  show itemR2 s last = (numV b, numV b) ∧ itemE2 s last = 0
                  rw [HX.out.1, HX.out.2, HP.out, if_pos ⟨OB.out, OB.out⟩, ← M1.out, if_pos ⟨hMb, hMb, fun h => by cases h⟩]
                  simp only
                  rw [if_neg (fun h => hs2 h.2), if_neg (fun h => hs2 h.2)]; exact ⟨rfl, rfl⟩
                rw [M_eq] at *
                clear M1 OB
                generalize numV b = v1 at *
                go_wp2_with fail
                refine (hp1.out _).mono ?_; rintro e w2 ⟨rfl, rfl⟩
                have hrc := blk_cell H0.out 0
                have hrc1 := blk_cell H0.out 1
                have hrf := blk_free H0.out 0
                have hrf1 := blk_free H0.out 1
                go_wp2_with fail
                refine bodyPost_ret (v := .tuple #[.agg #[i64 v1, i64 v1], i64 0]) (by simp [results, Tryz.results87, go_sem, hrc, hrc1]) rfl ?_
                rw [V.out.1, V.out.2]
                exact ⟨rfl, (HB0.out.setCell (Nat.le_refl _) _).setCell (Nat.le_refl _) _⟩ 
            · have V : Hid (itemR2 s last = (numV b, numV b) ∧ itemE2 s last = 0) := by
                show itemR2 s last = (numV b, numV b) ∧ itemE2 s last = 0
                rw [HX.out.1, HX.out.2, HP.out, if_pos ⟨OB.out, OB.out⟩, ← M1.out, if_pos ⟨hMb, hMb, fun h => by cases h⟩]
                simp only
                rw [if_neg (fun h => hs1 h.1), if_neg (fun h => hs1 h.1)]; exact ⟨rfl, rfl⟩
              rw [M_eq] at *
              clear M1 OB
              generalize numV b = v1 at *
              go_wp2_with fail
              refine (hp1.out _).mono ?_; rintro e w2 ⟨rfl, rfl⟩
              have hrc := blk_cell H0.out 0
              have hrc1 := blk_cell H0.out 1
              have hrf := blk_free H0.out 0
              have hrf1 := blk_free H0.out 1
              go_wp2_with fail
              refine bodyPost_ret (v := .tuple #[.agg #[i64 v1, i64 v1], i64 0]) (by simp [results, Tryz.results87, go_sem, hrc, hrc1]) rfl ?_
              rw [V.out.1, V.out.2]
              exact ⟨rfl, (HB0.out.setCell (Nat.le_refl _) _).setCell (Nat.le_refl _) _⟩ 
          · have V : Hid (itemR2 s last = (0, 0) ∧ itemE2 s last = 2) := by
              show itemR2 s last = (0, 0) ∧ itemE2 s last = 2
              rw [HX.out.1, HX.out.2, HP.out, if_pos ⟨OB.out, OB.out⟩, ← M1.out, if_neg (fun h => hMb h.1)]; exact ⟨rfl, rfl⟩
            rw [M_eq] at *
            clear M1 OB
            generalize numV b = v1 at *
            go_wp2_with fail
            refine (hp1.out _).mono ?_; rintro e w2 ⟨rfl, rfl⟩
            have hrc := blk_cell H0.out 0
            have hrc1 := blk_cell H0.out 1
            have hrf := blk_free H0.out 0
            have hrf1 := blk_free H0.out 1
            go_wp2_with fail
            refine bodyPost_ret (v := .tuple #[.agg #[i64 0, i64 0], i64 2]) (by simp [results, Tryz.results87, go_sem, hrc, hrc1]) rfl ?_
            rw [V.out.1, V.out.2]
            exact ⟨rfl, (HB0.out.setCell (Nat.le_refl _) _).setCell (Nat.le_refl _) _⟩
      | true =>
        have e1 := HBn.out rfl
        subst e1
        have hlt1 := hlt.out rfl
        have hx3 := hx2.out rfl
        clear HBn HNn hle hlt hge hx2
        have hp1 := hP.out a hla
        have hp2 := hP.out b' hlb
        clear hP
        cases oa : okNum a with
        | false =>
          have V : Hid (itemR2 s last = (0, 0) ∧ itemE2 s last = 3) := by
            show itemR2 s last = (0, 0) ∧ itemE2 s last = 3
            rw [HX.out.1, HX.out.2, HP.out, if_neg (by rw [oa]; simp)]; exact ⟨rfl, rfl⟩
          rw [N1.out a oa] at hp1
          have hp1 := Lib.hid hp1
          have hp2 := Lib.hid hp2
          clear oa N0 N1
          generalize numV b' = v2 at *
          go_wp2_with fail
          refine (hp1.out _).mono ?_; rintro e w2 ⟨rfl, rfl⟩
          go_wp2_with fail
          refine (hp2.out _).mono ?_; rintro e w3 ⟨rfl, rfl⟩
          have hrc := blk_cell H0.out 0
          have hrc1 := blk_cell H0.out 1
          have hrf := blk_free H0.out 0
          have hrf1 := blk_free H0.out 1
          go_wp2_with fail
          refine bodyPost_ret (v := .tuple #[.agg #[i64 0, i64 0], i64 3]) (by simp [results, Tryz.results87, go_sem, hrc, hrc1]) rfl ?_
          rw [V.out.1, V.out.2]
          exact ⟨rfl, (HB0.out.setCell (Nat.le_refl _) _).setCell (Nat.le_refl _) _⟩
        | true =>
          obtain ⟨m1, n1, n2⟩ := N0.out a oa
          have M1 := Lib.hid m1
          clear m1
          cases ob : okNum b' with
          | false =>
            have V : Hid (itemR2 s last = (0, 0) ∧ itemE2 s last = 3) := by
              show itemR2 s last = (0, 0) ∧ itemE2 s last = 3
              rw [HX.out.1, HX.out.2, HP.out, if_neg (by rw [ob]; simp)]; exact ⟨rfl, rfl⟩
            rw [N1.out b' ob] at hp2
            have hp1 := Lib.hid hp1
            have hp2 := Lib.hid hp2
            clear oa ob N0 N1 M1
            generalize numV a = v1 at *
            go_wp2_with fail
            refine (hp1.out _).mono ?_; rintro e w2 ⟨rfl, rfl⟩
            go_wp2_with fail
            refine (hp2.out _).mono ?_; rintro e w3 ⟨rfl, rfl⟩
            have hrc := blk_cell H0.out 0
            have hrc1 := blk_cell H0.out 1
            have hrf := blk_free H0.out 0
            have hrf1 := blk_free H0.out 1
            go_wp2_with fail
            refine bodyPost_ret (v := .tuple #[.agg #[i64 0, i64 0], i64 3]) (by simp [results, Tryz.results87, go_sem, hrc, hrc1]) rfl ?_
            rw [V.out.1, V.out.2]
            exact ⟨rfl, (HB0.out.setCell (Nat.le_refl _) _).setCell (Nat.le_refl _) _⟩
          | true =>
            obtain ⟨m2, n3, n4⟩ := N0.out b' ob
            have M2 := Lib.hid m2
            have OO := Lib.hid (And.intro oa ob)
            clear N0 N1 m2 oa ob
            have hp1 := Lib.hid hp1
            have hp2 := Lib.hid hp2
            by_cases hMa : numV a ≤ M
            · by_cases hMb : numV b' ≤ M
              · by_cases hab : numV a < numV b'
                · by_cases hs1 : 0 < last
                  · by_cases hs2 : numV a < last + 2 
                    · have V : Hid (itemR2 s last = (0, 0) ∧ itemE2 s last = 30) := by
                        show itemR2 s last = (0, 0) ∧ itemE2 s last = 30
                        rw [HX.out.1, HX.out.2, HP.out, if_pos OO.out, ← M1.out, ← M2.out, if_pos ⟨hMa, hMb, fun _ => hab⟩]
                        simp only
                        rw [if_pos ⟨hs1, hs2⟩, if_pos ⟨hs1, hs2⟩]; exact ⟨rfl, rfl⟩
                      rw [M_eq] at *
                      clear M1 M2 OO
                      generalize numV a = v1 at *
                      generalize numV b' = v2 at *
                      go_wp2_with fail
                      refine (hp1.out _).mono ?_; rintro e w2 ⟨rfl, rfl⟩
                      go_wp2_with fail
                      refine (hp2.out _).mono ?_; rintro e w3 ⟨rfl, rfl⟩
                      have hrc := blk_cell H0.out 0
                      have hrc1 := blk_cell H0.out 1
                      have hrf := blk_free H0.out 0
                      have hrf1 := blk_free H0.out 1
                      go_wp2_with fail
                      refine bodyPost_ret (v := .tuple #[.agg #[i64 0, i64 0], i64 30]) (by simp [results, Tryz.results87, go_sem, hrc, hrc1]) rfl ?_
                      rw [V.out.1, V.out.2]
                      exact ⟨rfl, (HB0.out.setCell (Nat.le_refl _) _).setCell (Nat.le_refl _) _⟩ 
                    · have V : Hid (itemR2 s last = (numV a, numV b') ∧ itemE2 s last = 0) := by
                        show itemR2 s last = (numV a, numV b') ∧ itemE2 s last = 0
                        rw [HX.out.1, HX.out.2, HP.out, if_pos OO.out, ← M1.out, ← M2.out, if_pos ⟨hMa, hMb, fun _ => hab⟩]
                        simp only
                        rw [if_neg (fun h => hs2 h.2), if_neg (fun h => hs2 h.2)]; exact ⟨rfl, rfl⟩
                      rw [M_eq] at *
                      clear M1 M2 OO
                      generalize numV a = v1 at *
                      generalize numV b' = v2 at *
                      go_wp2_with fail
                      refine (hp1.out _).mono ?_; rintro e w2 ⟨rfl, rfl⟩
                      go_wp2_with fail
                      refine (hp2.out _).mono ?_; rintro e w3 ⟨rfl, rfl⟩
                      have hrc := blk_cell H0.out 0
                      have hrc1 := blk_cell H0.out 1
                      have hrf := blk_free H0.out 0
                      have hrf1 := blk_free H0.out 1
                      go_wp2_with fail
                      refine bodyPost_ret (v := .tuple #[.agg #[i64 v1, i64 v2], i64 0]) (by simp [results, Tryz.results87, go_sem, hrc, hrc1]) rfl ?_
                      rw [V.out.1, V.out.2]
                      exact ⟨rfl, (HB0.out.setCell (Nat.le_refl _) _).setCell (Nat.le_refl _) _⟩ 
                  · have V : Hid (itemR2 s last = (numV a, numV b') ∧ itemE2 s last = 0) := by
                      show itemR2 s last = (numV a, numV b') ∧ itemE2 s last = 0
                      rw [HX.out.1, HX.out.2, HP.out, if_pos OO.out, ← M1.out, ← M2.out, if_pos ⟨hMa, hMb, fun _ => hab⟩]
                      simp only
                      rw [if_neg (fun h => hs1 h.1), if_neg (fun h => hs1 h.1)]; exact ⟨rfl, rfl⟩
                    rw [M_eq] at *
                    clear M1 M2 OO
                    generalize numV a = v1 at *
                    generalize numV b' = v2 at *
                    go_wp2_with fail
                    refine (hp1.out _).mono ?_; rintro e w2 ⟨rfl, rfl⟩
                    go_wp2_with fail
                    refine (hp2.out _).mono ?_; rintro e w3 ⟨rfl, rfl⟩
                    have hrc := blk_cell H0.out 0
                    have hrc1 := blk_cell H0.out 1
                    have hrf := blk_free H0.out 0
                    have hrf1 := blk_free H0.out 1
                    go_wp2_with fail
                    refine bodyPost_ret (v := .tuple #[.agg #[i64 v1, i64 v2], i64 0]) (by simp [results, Tryz.results87, go_sem, hrc, hrc1]) rfl ?_
                    rw [V.out.1, V.out.2]
                    exact ⟨rfl, (HB0.out.setCell (Nat.le_refl _) _).setCell (Nat.le_refl _) _⟩ 
                · have V : Hid (itemR2 s last = (0, 0) ∧ itemE2 s last = 2) := by
                    show itemR2 s last = (0, 0) ∧ itemE2 s last = 2
                    rw [HX.out.1, HX.out.2, HP.out, if_pos OO.out, ← M1.out, ← M2.out, if_neg (fun h => hab (h.2.2 rfl))]; exact ⟨rfl, rfl⟩
                  rw [M_eq] at *
                  clear M1 M2 OO
                  generalize numV a = v1 at *
                  generalize numV b' = v2 at *
                  go_wp2_with fail
                  refine (hp1.out _).mono ?_; rintro e w2 ⟨rfl, rfl⟩
                  go_wp2_with fail
                  refine (hp2.out _).mono ?_; rintro e w3 ⟨rfl, rfl⟩
                  have hrc := blk_cell H0.out 0
                  have hrc1 := blk_cell H0.out 1
                  have hrf := blk_free H0.out 0
                  have hrf1 := blk_free H0.out 1
                  go_wp2_with fail
                  refine bodyPost_ret (v := .tuple #[.agg #[i64 0, i64 0], i64 2]) (by simp [results, Tryz.results87, go_sem, hrc, hrc1]) rfl ?_
                  rw [V.out.1, V.out.2]
                  exact ⟨rfl, (HB0.out.setCell (Nat.le_refl _) _).setCell (Nat.le_refl _) _⟩ 
              · have V : Hid (itemR2 s last = (0, 0) ∧ itemE2 s last = 2) := by
                  show itemR2 s last = (0, 0) ∧ itemE2 s last = 2
                  rw [HX.out.1, HX.out.2, HP.out, if_pos OO.out, ← M1.out, ← M2.out, if_neg (fun h => hMb h.2.1)]; exact ⟨rfl, rfl⟩
                rw [M_eq] at *
                clear M1 M2 OO
                generalize numV a = v1 at *
                generalize numV b' = v2 at *
                go_wp2_with fail
                refine (hp1.out _).mono ?_; rintro e w2 ⟨rfl, rfl⟩
                go_wp2_with fail
                refine (hp2.out _).mono ?_; rintro e w3 ⟨rfl, rfl⟩
                have hrc := blk_cell H0.out 0
                have hrc1 := blk_cell H0.out 1
                have hrf := blk_free H0.out 0
                have hrf1 := blk_free H0.out 1
                go_wp2_with fail
                refine bodyPost_ret (v := .tuple #[.agg #[i64 0, i64 0], i64 2]) (by simp [results, Tryz.results87, go_sem, hrc, hrc1]) rfl ?_
                rw [V.out.1, V.out.2]
                exact ⟨rfl, (HB0.out.setCell (Nat.le_refl _) _).setCell (Nat.le_refl _) _⟩ 
            · have V : Hid (itemR2 s last = (0, 0) ∧ itemE2 s last = 2) := by
                show itemR2 s last = (0, 0) ∧ itemE2 s last = 2
                rw [HX.out.1, HX.out.2, HP.out, if_pos OO.out, ← M1.out, ← M2.out, if_neg (fun h => hMa h.1)]; exact ⟨rfl, rfl⟩
              rw [M_eq] at *
              clear M1 M2 OO
              generalize numV a = v1 at *
              generalize numV b' = v2 at *
              go_wp2_with fail
              refine (hp1.out _).mono ?_; rintro e w2 ⟨rfl, rfl⟩
              go_wp2_with fail
              refine (hp2.out _).mono ?_; rintro e w3 ⟨rfl, rfl⟩
              have hrc := blk_cell H0.out 0
              have hrc1 := blk_cell H0.out 1
              have hrf := blk_free H0.out 0
              have hrf1 := blk_free H0.out 1
              go_wp2_with fail
              refine bodyPost_ret (v := .tuple #[.agg #[i64 0, i64 0], i64 2]) (by simp [results, Tryz.results87, go_sem, hrc, hrc1]) rfl ?_
              rw [V.out.1, V.out.2]
              exact ⟨rfl, (HB0.out.setCell (Nat.le_refl _) _).setCell (Nat.le_refl _) _⟩
end Go.Proofs.YtcpennlojjlpaaaGreatDoor

namespace Go.Gn
theorem parts_cat (c : UInt8) : ∀ (a b : List UInt8), parts c (a ++ c :: b) = parts c a ++ parts c b
  | [], b => by simp [parts]
  | x :: a, b => by
    have ih := parts_cat c a b
    obtain ⟨y, r, hy⟩ := List.exists_cons_of_ne_nil (parts_ne_nil c a)
    by_cases h : x = c
    · subst h
      simp only [List.cons_append, parts, if_true, ih]
    · simp only [List.cons_append, parts, if_neg h, ih, hy]
      simp
theorem parts_last {c : UInt8} {s : List UInt8} {out : List (List UInt8)} {p : List UInt8} (h : parts c s = out ++ [p]) : s.drop (s.length - p.length) = p := by
  have e := text_parts c s
  rw [h] at e
  have : ∃ a, s = a ++ p := by
    by_cases ho : out = []
    · subst ho; exact ⟨[], by rw [← e, List.nil_append, text_one]; rfl⟩
    · rw [text_snoc _ _ _ ho] at e
      exact ⟨text c out ++ [c], by rw [← e]; simp⟩
  obtain ⟨a, rfl⟩ := this
  simp
end Go.Gn
namespace Go.Nr
open Go.Gn
theorem item2_cases (p : List UInt8) (la : Int) : (itemE2 p la = 0 ∧ ∃ r, pitem p = .inl r ∧ itemR2 p la = r ∧ ¬ (0 < la ∧ r.1 < la + 2)) ∨ (itemE2 p la ≠ 0 ∧ (pitem p = .inr (itemE2 p la) ∨ (itemE2 p la = 30 ∧ ∃ r, pitem p = .inl r ∧ 0 < la ∧ r.1 < la + 2))) := by
  rcases item_parts p with ⟨_, h⟩ | ⟨h0, h⟩
  · by_cases hs : 0 < la ∧ (itemR p).1 < la + 2
    · have e : itemE2 p la = 30 := by unfold itemE2; rw [h]; simp only; rw [if_pos hs]
      exact .inr ⟨by rw [e]; decide, .inr ⟨e, _, h, hs⟩⟩
    · have e : itemE2 p la = 0 := by unfold itemE2; rw [h]; simp only; rw [if_neg hs]
      have e2 : itemR2 p la = itemR p := by unfold itemR2; rw [h]; simp only; rw [if_neg hs]
      exact .inl ⟨e, _, h, e2, hs⟩
  · have e : itemE2 p la = itemE p := by unfold itemE2; rw [h]
    exact .inr ⟨by rw [e]; exact h0, .inl (by rw [e]; exact h)⟩
theorem lastOf_rng {q : List Rg} (h : ∀ r ∈ q, ok r) : 0 ≤ lastOf q ∧ lastOf q ≤ M := by
  unfold lastOf
  split
  · rename_i r hr
    obtain ⟨h1, h2, h3⟩ := h r (List.mem_of_getLast? hr)
    exact ⟨by omega, h3⟩
  · exact ⟨Int.le_refl _, by decide⟩
/-- The reference has read i bytes; the item under way begins at fr. -/
def RpAt (s : List UInt8) (i fr : Nat) (q : List Rg) : Prop := ∃ out p, parts 44 (s.take i) = out ++ [p] ∧ fr + p.length = i ∧ PsAt (parts 44 s) out.length fr q
theorem RpAt.start (s : List UInt8) : RpAt s 0 0 [] := ⟨[], [], by simp [parts], rfl, PsAt.start _⟩
theorem RpAt.next {s : List UInt8} {i fr : Nat} {q : List Rg} (h : RpAt s i fr q) (hi : i < s.length) (hc : s.getD i 0 ≠ 44) : RpAt s (i + 1) fr q := by
  obtain ⟨out, p, h1, h2, h3⟩ := h
  have e : s.take (i + 1) = s.take i ++ [s.getD i 0] := by rw [List.take_succ_eq_append_getElem hi]; simp [hi]
  exact ⟨out, p ++ [s.getD i 0], by rw [e]; exact parts_snoc hc _ _ _ h1, by simp; omega, h3⟩
/-- The item that ends at i. -/
theorem RpAt.item {s : List UInt8} {i fr : Nat} {q : List Rg} (h : RpAt s i fr q) (hi : i ≤ s.length) (hc : i < s.length → s.getD i 0 = 44) : ∃ p, (s.take i).drop fr = p ∧ fr ≤ i ∧ (parts 44 s)[q.length]? = some p ∧ PsAt (parts 44 s) q.length fr q ∧
    ∀ q', PsAt (parts 44 s) (q.length + 1) (i + 1) q' → i < s.length → RpAt s (i + 1) (i + 1) q' := by
  obtain ⟨out, p, h1, h2, h3⟩ := h
  have hl := h3.len
  have hd := parts_last h1
  rw [List.length_take, Nat.min_eq_left hi, show i - p.length = fr by omega] at hd
  rw [← hl] at h3
  refine ⟨p, hd, by omega, ?_, h3, fun q' hq' hlt => ?_⟩
  · rcases Nat.lt_or_ge i s.length with hlt | hge
    · have hs : s = s.take i ++ 44 :: s.drop (i + 1) := by
        conv => lhs; rw [← List.take_append_drop i s, List.drop_eq_getElem_cons hlt]
        have := hc hlt
        rw [List.getD_eq_getElem?_getD, List.getElem?_eq_getElem hlt] at this
        rw [show s[i] = 44 from this]
      have e := congrArg (parts 44) hs
      rw [parts_cat, h1] at e
      rw [e, hl]
      simp
    · rw [List.take_of_length_le hge] at h1
      rw [h1, hl]; simp
  · refine ⟨out ++ [p], [], ?_, by simp, ?_⟩
    · have e : s.take (i + 1) = s.take i ++ [44] := by
        rw [List.take_succ_eq_append_getElem hlt]
        have := hc hlt
        rw [List.getD_eq_getElem?_getD, List.getElem?_eq_getElem hlt] at this
        rw [show s[i] = 44 from this]
      rw [e, parts_snoc_sep, h1]
    · rw [List.length_append, List.length_singleton, ← hl]; exact hq'
/-- The last item has been read. -/
theorem psat_end {s : List UInt8} {q : List Rg} {i fr : Nat} (h : RpAt s i fr q) (hi : i = s.length) : (parts 44 s).length = q.length + 1 := by
  obtain ⟨out, p, h1, h2, h3⟩ := h
  subst hi
  rw [List.take_length] at h1
  rw [h1, h3.len]; simp
end Go.Nr
namespace Go.Proofs.YtcpennlojjlpaaaGreatDoor
open Go.RowKit Go.Nr Go.Gn

theorem ext_mid (s : List UInt8) (a b : Nat) : (⟨s.toArray⟩ : ByteArray).extract a b = ⟨((s.take b).drop a).toArray⟩ := by
  apply ByteArray.ext
  rw [ByteArray.data_extract]
  apply Array.toList_inj.1
  simp
  rw [List.drop_take]
/-- Ranges of the reference, an offset and an error. -/
def GivesRPS (w : World) (S : List Rg) (at_ er : Nat) (e : Ending) (w' : World) : Prop :=
  ∃ A c, e = .returned (.tuple #[.slice A S.length c, i64 at_, i64 er]) ∧ RdR w' A S ∧ Below w.heap.size w w'

set_option maxRecDepth 100000 in
set_option maxHeartbeats 8000000 in
theorem refParseSet_any (s : List UInt8) (w : World) (hl : s.length ≤ 100000000) (hn : (parts 44 s).length ≤ 4096) :
    Calls Tryz.prog 44 #[enS s] w (GivesRPS w (psS s) (psA s) (psE s)) := by
  by_cases h0 : s = []
  · subst h0
    have V : Hid (psS [] = [] ∧ psA [] = 0 ∧ psE [] = 0) := ps_inl (by unfold pset; rw [if_pos rfl])
    go_enter Tryz.func44, Tryz.ntmps44
    go_wp2_with fail
    go_ret3
    rw [V.out.1, V.out.2.1, V.out.2.2]
    exact ⟨none, 0, rfl, RdR.nil, Below.refl _ _⟩
  · have hne : (s == []) = false := by simpa using h0
    have HPS := Lib.hid (pset_ne h0)
    obtain ⟨i0, hi, hz0, hz1, hz2⟩ := info_parts rg_info
    have HI := Lib.hid (fun p la W (hp : p.length ≤ s.length) (h1 : 0 ≤ la) (h2 : la ≤ M) => refItem_any p la W (by omega) h1 h2)
    clear h0
    go_enter Tryz.func44, Tryz.ntmps44
    go_wp2_with fail
    go_loopg [5, 6, 7, 8] (s.length + 1) (fun gg ov fv lv iv wr => ∃ (i fr : Nat) (la : Int) (C : Option Addr) (f : Nat) (q : List Rg), i ≤ s.length + 1 ∧ s.length + 1 - i ≤ gg ∧ iv = .int .i64 i ∧ fv = .int .i64 fr ∧ lv = .int .i64 la ∧ ov = .slice C q.length f ∧ Hid (wr.ownsRow w.heap.size 37 2 (.slice C q.length f) q.length (flat q)) ∧ Hid (i ≤ s.length → RpAt s i fr q) ∧ Hid (i = s.length + 1 → pset s = .inl q) ∧ Hid (la = lastOf q) ∧ 0 ≤ la ∧ la ≤ 1099511627776 ∧ q.length ≤ 4096 ∧ Below w.heap.size w wr)
    case atStart => exact ⟨0, 0, 0, none, 0, [], by omega, by omega, rfl, rfl, rfl, rfl, own2_nil _ _ _ _, (fun _ => RpAt.start s), (fun h => by omega), rfl, by omega, by omega, by simp, Below.refl _ _⟩
    case round =>
      obtain ⟨i, fr, la, C, f, q, hii, hgi, rfl, rfl, rfl, rfl, O, Q, QE, L, hl0, hl1, hq4, hB⟩ := hrel
      by_cases hle : i ≤ s.length
      · have R := Lib.hid (Q.out hle)
        by_cases hcm : i < s.length ∧ s.getD i 0 ≠ 44
        · obtain ⟨hlt, hc44⟩ := hcm
          have N := Lib.hid (R.out.next hlt hc44)
          have bg := bget (t := s) (p := i) (show i < s.toArray.size by simpa using hlt) hlt
          obtain ⟨c, hc⟩ : ∃ c, s.getD i 0 = c := ⟨_, rfl⟩
          rw [hc] at bg hc44
          have e1 : ((c.toNat : Int) != 44) = true := by
            simp; intro e; exact hc44 (UInt8.toNat_inj.1 (by simpa using (by omega : c.toNat = 44)))
          have e2 : (c.toNat != 44) = true := by
            simp; intro e; exact hc44 (UInt8.toNat_inj.1 (by simpa using e))
          clear hc hc44 Q QE R
          go_wp2_with fail
          go_roundg (s.length + 1 - (i + 1))
          case measure => omega
          case rel => exact ⟨i + 1, fr, la, C, f, q, by omega, by omega, by go_num, rfl, rfl, rfl, O, (fun _ => N.out), (fun h => by omega), L, hl0, hl1, hq4, hB⟩
        · have hcc : i < s.length → s.getD i 0 = 44 := fun h => Classical.byContradiction fun h2 => hcm ⟨h, h2⟩
          obtain ⟨p, hp, hfi, hpx, hps, hnx⟩ := R.out.item hle hcc
          have hplen : p.length ≤ s.length := by rw [← hp]; simp; omega
          have hx1 : (⟨s.toArray⟩ : ByteArray).extract fr i = ⟨p.toArray⟩ := by rw [ext_mid, hp]
          have hk4 : q.length < 4096 := by
            have := (List.getElem?_eq_some_iff.1 hpx).1
            omega
          have hend := fun h => psat_end R.out h
          have hpl : fr + p.length = i := by
            have := congrArg List.length hp
            rw [List.length_drop, List.length_take, Nat.min_eq_left hle] at this
            omega
          have hcs := item2_cases p la
          have HIT := Lib.hid (HI.out p la wr hplen hl0 (by rw [M_eq]; exact hl1))
          have HPX := Lib.hid hpx
          have HPA := Lib.hid hps
          have HNX := Lib.hid hnx
          have HEND := Lib.hid hend
          have HPL := Lib.hid hpl
          unfold GivesItem at HIT
          obtain ⟨er, her⟩ : ∃ z, itemE2 p la = z := ⟨_, rfl⟩
          obtain ⟨rr, hrr⟩ : ∃ z, itemR2 p la = z := ⟨_, rfl⟩
          rw [her, hrr] at HIT hcs
          clear her hrr hp hpx hps hnx hend hcm hpl Q QE
          by_cases hlt : i < s.length
          · have bg := bget (t := s) (p := i) (show i < s.toArray.size by simpa using hlt) hlt
            rw [hcc hlt] at bg
            clear hcc
            rcases hcs with ⟨rfl, r0, hpr, rfl, hsq⟩ | ⟨hne0, herr⟩
            · obtain ⟨ok1, ok2, ok3⟩ := pitem_ok hpr
              have V : Hid (PsAt (parts 44 s) (q.length + 1) (i + 1) (q ++ [rr])) := by
                have := HPA.out.step HPX.out hpr (L.out ▸ hsq)
                rw [HPL.out] at this; exact this
              obtain ⟨r1, r2⟩ := rr
              rw [M_eq] at ok3
              simp only at ok1 ok2 ok3
              have HO := Lib.hid O.out
              have HBW := Lib.hid hB
              have hsz := hB.size
              clear hpr hsq O hB
              go_wp2_with fail
              refine HIT.out.mono ?_; rintro e w2 ⟨rfl, b2⟩
              have HO2 := Lib.hid (own_below HO.out b2)
              have HB2 := Lib.hid (HBW.out.tr b2)
              have hsz2 := b2.size
              clear b2 HO HBW
              go_wp2_with (at_builtin; refine wpList_append_own _ rfl _ _ 22 rfl w.heap.size 37 i0 (.agg #[i64 0, i64 0]) 2 16 Tryz.underlying22 hi hz0 hz1 hz2 rfl (by decide) (.slice C q.length f) q.length (flat q) rfl (own_below (own_below HO2.out (below_new _ _)) (below_new _ _)) ⟨w2.heap.size + 1, 0, none⟩ 1 1 [i64 r1, i64 r2] rfl rfl ?c1 ?c2 ?c3 ?c4 ?c5 ?_)
              case c1 =>
                intro j u hj
                rw [addr_addN, new_cell _ _ _ _ _ (by simp)]
                simpa using hj
              case c2 => intro u hu; simp at hu; rcases hu with rfl | rfl <;> rfl
              case c3 => unfold maxLen; omega
              case c4 => omega
              case c5 => simp; omega
              intro v' w3 hown3 hg3 hbl3
              obtain ⟨A3, c3, rfl⟩ := own2_slice hown3
              have hoo : ((w2.alloc (.cells #[i64 r1, i64 r2] 37)).alloc (.cells #[i64 r1, i64 r2] 37)).ownsRow w.heap.size _ 2 _ _ _ := own_below (own_below HO2.out (below_new _ _)) (below_new _ _)
              have b3 := own_grown_below hoo (by simp; omega) hg3
              have hB3 := ((HB2.out.tr (below_new _ (.cells #[i64 r1, i64 r2] 37))).tr (below_new _ (.cells #[i64 r1, i64 r2] 37))).trans b3
              rw [show flat q ++ [i64 r1, i64 r2] = flat (q ++ [(r1, r2)]) by rw [flat_append _ [(r1, r2)], flat_one]] at hown3
              have hrc1 : w3.cell? ⟨w2.heap.size, 1, none⟩ = some (i64 r2) := by
                have h1 := blk_old (.cells #[i64 r1, i64 r2] 37) (blk_new w2 (.cells #[i64 r1, i64 r2] 37))
                have h2 : w3.heap[w2.heap.size]? = some (.cells #[i64 r1, i64 r2] 37) := by
                  rw [hg3.block _ (blk_lt h1) (fun e => by
                    have := (HO2.out.lt _ e.symm).1
                    have := (HO2.out.lt _ e.symm).2
                    omega)]
                  exact h1
                rw [blk_cell h2]; rfl
              have HO3 := Lib.hid hown3
              have HB3 := Lib.hid hB3
              have HL3 : Hid ((q ++ [(r1, r2)]).length = q.length + 1) := (by simp : (q ++ [(r1, r2)]).length = q.length + 1)
              clear hown3 hg3 b3 hoo hB3 hbl3
              go_wp2_with fail
              go_quiet (fail)
              go_wp2_with fail
              go_roundg (s.length + 1 - (i + 1))
              case measure => omega
              case rel => exact ⟨i + 1, i + 1, r2, A3, c3, q ++ [(r1, r2)], by omega, by omega, by go_num, by go_num, rfl, by rw [HL3.out], by rw [HL3.out]; exact HO3, (fun h => HNX.out _ V.out (by omega)), (fun h => by omega), (lastOf_snoc q (r1, r2)).symm, by omega, by omega, by rw [HL3.out]; omega, HB3.out.drewN _⟩
            · have V : Hid (psS s = [] ∧ psA s = fr ∧ psE s = er) := by
                rcases herr with h | ⟨h, r, h2, h3, h4⟩
                · exact ps_inr (HPS.out.trans (HPA.out.bad HPX.out h))
                · rw [h]; exact ps_inr (HPS.out.trans (HPA.out.seq HPX.out h2 (by rw [← L.out]; exact ⟨h3, h4⟩)))
              have z2 : ((er : Int) != 0) = true := by simp; omega
              have HBW := Lib.hid hB
              obtain ⟨rr1, rr2⟩ := rr
              clear herr hne0 O hB
              go_wp2_with fail
              refine HIT.out.mono ?_; rintro e w2 ⟨rfl, b2⟩
              have HB2 := Lib.hid (HBW.out.tr b2)
              clear b2
              go_wp2_with fail
              go_ret3
              rw [V.out.1, V.out.2.1, V.out.2.2]
              exact ⟨none, 0, rfl, RdR.nil, HB2.out.tr (below_new _ _)⟩
          · have hie : i = s.length := by omega
            have HIE := Lib.hid hie
            clear hcc hie
            rcases hcs with ⟨rfl, r0, hpr, rfl, hsq⟩ | ⟨hne0, herr⟩
            · obtain ⟨ok1, ok2, ok3⟩ := pitem_ok hpr
              have V : Hid (PsAt (parts 44 s) (q.length + 1) (i + 1) (q ++ [rr])) := by
                have := HPA.out.step HPX.out hpr (L.out ▸ hsq)
                rw [HPL.out] at this; exact this
              obtain ⟨r1, r2⟩ := rr
              rw [M_eq] at ok3
              simp only at ok1 ok2 ok3
              have HO := Lib.hid O.out
              have HBW := Lib.hid hB
              have hsz := hB.size
              clear hpr hsq O hB
              go_wp2_with fail
              refine HIT.out.mono ?_; rintro e w2 ⟨rfl, b2⟩
              have HO2 := Lib.hid (own_below HO.out b2)
              have HB2 := Lib.hid (HBW.out.tr b2)
              have hsz2 := b2.size
              clear b2 HO HBW
              go_wp2_with (at_builtin; refine wpList_append_own _ rfl _ _ 22 rfl w.heap.size 37 i0 (.agg #[i64 0, i64 0]) 2 16 Tryz.underlying22 hi hz0 hz1 hz2 rfl (by decide) (.slice C q.length f) q.length (flat q) rfl (own_below (own_below HO2.out (below_new _ _)) (below_new _ _)) ⟨w2.heap.size + 1, 0, none⟩ 1 1 [i64 r1, i64 r2] rfl rfl ?c1 ?c2 ?c3 ?c4 ?c5 ?_)
              case c1 =>
                intro j u hj
                rw [addr_addN, new_cell _ _ _ _ _ (by simp)]
                simpa using hj
              case c2 => intro u hu; simp at hu; rcases hu with rfl | rfl <;> rfl
              case c3 => unfold maxLen; omega
              case c4 => omega
              case c5 => simp; omega
              intro v' w3 hown3 hg3 hbl3
              obtain ⟨A3, c3, rfl⟩ := own2_slice hown3
              have hoo : ((w2.alloc (.cells #[i64 r1, i64 r2] 37)).alloc (.cells #[i64 r1, i64 r2] 37)).ownsRow w.heap.size _ 2 _ _ _ := own_below (own_below HO2.out (below_new _ _)) (below_new _ _)
              have b3 := own_grown_below hoo (by simp; omega) hg3
              have hB3 := ((HB2.out.tr (below_new _ (.cells #[i64 r1, i64 r2] 37))).tr (below_new _ (.cells #[i64 r1, i64 r2] 37))).trans b3
              rw [show flat q ++ [i64 r1, i64 r2] = flat (q ++ [(r1, r2)]) by rw [flat_append _ [(r1, r2)], flat_one]] at hown3
              have hrc1 : w3.cell? ⟨w2.heap.size, 1, none⟩ = some (i64 r2) := by
                have h1 := blk_old (.cells #[i64 r1, i64 r2] 37) (blk_new w2 (.cells #[i64 r1, i64 r2] 37))
                have h2 : w3.heap[w2.heap.size]? = some (.cells #[i64 r1, i64 r2] 37) := by
                  rw [hg3.block _ (blk_lt h1) (fun e => by
                    have := (HO2.out.lt _ e.symm).1
                    have := (HO2.out.lt _ e.symm).2
                    omega)]
                  exact h1
                rw [blk_cell h2]; rfl
              have HO3 := Lib.hid hown3
              have HB3 := Lib.hid hB3
              have HL3 : Hid ((q ++ [(r1, r2)]).length = q.length + 1) := (by simp : (q ++ [(r1, r2)]).length = q.length + 1)
              clear hown3 hg3 b3 hoo hB3 hbl3
              go_wp2_with fail
              go_quiet (fail)
              go_wp2_with fail
              go_roundg (s.length + 1 - (i + 1))
              case measure => omega
              case rel => exact ⟨i + 1, i + 1, r2, A3, c3, q ++ [(r1, r2)], by omega, by omega, by go_num, by go_num, rfl, by rw [HL3.out], by rw [HL3.out]; exact HO3, (fun h => by omega), (fun _ => HPS.out.trans (PsAt.done (by rw [HEND.out (by omega)]; exact V.out))), (lastOf_snoc q (r1, r2)).symm, by omega, by omega, by rw [HL3.out]; omega, HB3.out.drewN _⟩
            · have V : Hid (psS s = [] ∧ psA s = fr ∧ psE s = er) := by
                rcases herr with h | ⟨h, r, h2, h3, h4⟩
                · exact ps_inr (HPS.out.trans (HPA.out.bad HPX.out h))
                · rw [h]; exact ps_inr (HPS.out.trans (HPA.out.seq HPX.out h2 (by rw [← L.out]; exact ⟨h3, h4⟩)))
              have z2 : ((er : Int) != 0) = true := by simp; omega
              have HBW := Lib.hid hB
              obtain ⟨rr1, rr2⟩ := rr
              clear herr hne0 O hB
              go_wp2_with fail
              refine HIT.out.mono ?_; rintro e w2 ⟨rfl, b2⟩
              have HB2 := Lib.hid (HBW.out.tr b2)
              clear b2
              go_wp2_with fail
              go_ret3
              rw [V.out.1, V.out.2.1, V.out.2.2]
              exact ⟨none, 0, rfl, RdR.nil, HB2.out.tr (below_new _ _)⟩
      · obtain rfl : i = s.length + 1 := by omega
        have V := Lib.hid (ps_inl (QE.out rfl))
        have hlt' : decide (((s.length : Int) + 1) ≤ s.length) = false := decide_eq_false (by omega)
        go_wp2_with fail
        go_ret3
        rw [V.out.1, V.out.2.1, V.out.2.2]
        exact ⟨C, f, rfl, (RdR.of_own O.out).1, hB⟩
end Go.Proofs.YtcpennlojjlpaaaGreatDoor
