/- Contracts: the package's parseItem, the reference's item. -/
import Derived.Test.YtcpennlojjlpaaaGreatDoorZh
import Derived.Lib.IndexMore
namespace Go.Nr
open Go.Lib
theorem index_byte (c : UInt8) : ∀ s : List UInt8, index s [c] = if (s.dropWhile (· != c)) = [] then -1 else ((s.takeWhile (· != c)).length : Int)
  | [] => by simp [index]
  | b :: l => by
    have ih := index_byte c l
    unfold index
    by_cases h : b = c
    · subst h
      have h1 : (b != b) = false := by simp
      rw [List.dropWhile_cons, h1, List.takeWhile_cons, h1]
      simp [List.isPrefixOf]
    · have h1 : (b != c) = true := by simpa using h
      have h2 : (c == b) = false := by simp; exact fun e => h e.symm
      have h3 : [c].isPrefixOf (b :: l) = false := by simp [List.isPrefixOf, h2]
      rw [h3, List.dropWhile_cons, if_pos h1, List.takeWhile_cons, if_pos h1, ih, if_neg Bool.false_ne_true]
      by_cases e : l.dropWhile (· != c) = []
      · rw [if_pos e, if_pos e, if_pos (by rfl)]
      · rw [if_neg e, if_neg e]
        have : ((((l.takeWhile (· != c)).length : Int)) == -1) = false := beq_eq_false_iff_ne.2 (by omega)
        rw [this, if_neg Bool.false_ne_true]
        simp
/-- A cut at one byte. -/
theorem cut_byte (c : UInt8) (s : List UInt8) : cut s [c] = match s.dropWhile (· != c) with | [] => (s, [], false) | _ :: t => (s.takeWhile (· != c), t, true) := by
  unfold cut
  rw [index_byte]
  cases h : s.dropWhile (· != c) with
  | nil => simp
  | cons x t =>
    have e := List.takeWhile_append_dropWhile (p := (· != c)) (l := s)
    rw [h] at e
    simp only [reduceCtorEq, if_false]
    rw [if_pos (by omega)]
    have hl : (((s.takeWhile (· != c)).length : Int)).toNat = (s.takeWhile (· != c)).length := by omega
    rw [hl]
    obtain ⟨p, hp⟩ : ∃ p, s.takeWhile (· != c) = p := ⟨_, rfl⟩
    rw [hp] at e ⊢
    have h1 : s.take p.length = p := by rw [← e]; simp
    have h2 : s.drop (p.length + [c].length) = t := by rw [← e]; simp
    rw [h1, h2]
theorem cut_hyphen (s : List UInt8) : cut s [45] = (cutA s, (cutB s).getD [], (cutB s).isSome) := by
  rw [cut_byte]
  unfold cutB
  cases h : s.dropWhile (· != 45) with
  | nil =>
    have e := List.takeWhile_append_dropWhile (p := (· != (45 : UInt8))) (l := s)
    rw [h, List.append_nil] at e
    simp [cutA, e]
  | cons x t => simp [cutA]
theorem cut_lens (s : List UInt8) : (cutA s).length ≤ s.length ∧ ((cutB s).getD (cutA s)).length ≤ s.length := by
  have e := List.takeWhile_append_dropWhile (p := (· != (45 : UInt8))) (l := s)
  have h1 : (cutA s).length ≤ s.length := by
    have := congrArg List.length e
    rw [List.length_append] at this
    unfold cutA; omega
  refine ⟨h1, ?_⟩
  unfold cutB
  cases h : s.dropWhile (· != 45) with
  | nil => simpa using h1
  | cons x t =>
    rw [h] at e
    have := congrArg List.length e
    simp at this ⊢; omega
/-- What an item stands for, as the package and the reference compute it. -/
def itemR (s : List UInt8) : Rg := match pitem s with | .inl r => r | .inr _ => (0, 0)
def itemE (s : List UInt8) : Nat := match pitem s with | .inl _ => 0 | .inr e => e
end Go.Nr
namespace Go.Proofs.YtcpennlojjlpaaaGreatDoor
open Go.RowKit Go.Nr Go.Gn

theorem cut_any (s : List UInt8) (w : World) (hE : Env w) (hl : s.length ≤ 1000000000) :
    Calls Tryz.prog 106 #[enS s, .string ⟨#[45]⟩] w fun e w' => e = .returned (.tuple #[enS (cutA s), enS ((cutB s).getD []), .bool (cutB s).isSome]) ∧ Below w.heap.size w w' := by
  obtain ⟨m, hm⟩ := hE
  have h := Tryz.strings_Cut ⟨s.toArray⟩ ⟨#[45]⟩ m w (by show s.toArray.size < _; simp; omega) hm
  have e : Lib.cut (⟨s.toArray⟩ : ByteArray).data.toList (⟨#[45]⟩ : ByteArray).data.toList = (cutA s, (cutB s).getD [], (cutB s).isSome) := by
    have : (⟨s.toArray⟩ : ByteArray).data.toList = s := by simp
    rw [this]; exact cut_hyphen s
  rw [e] at h
  exact h.mono fun _ _ ⟨h1, n, h2⟩ => ⟨h1, by rw [h2]; exact (Below.refl _ _).drewN n⟩
/-- A range and an error. -/
def GivesItem (w : World) (r : Rg) (er : Nat) (e : Ending) (w' : World) : Prop := e = .returned (.tuple #[.agg #[i64 r.1, i64 r.2], i64 er]) ∧ Below w.heap.size w w'

set_option maxRecDepth 100000 in
set_option maxHeartbeats 4000000 in
theorem parseItem_any (s : List UInt8) (w : World) (hE : Env w) (hl : s.length ≤ 1000000000) :
    Calls Tryz.prog 86 #[enS s] w (GivesItem w (itemR s) (itemE s)) := by
  have hcut := cut_any s (w.alloc (.cells #[i64 0, i64 0] 42)) (hE.below (below_new _ _)) hl
  have hle := cut_lens s
  have hla : (cutA s).length ≤ 1000000000 := by omega
  have hlb : ((cutB s).getD (cutA s)).length ≤ 1000000000 := by omega
  have hpi : pitem s = (if okNum (cutA s) = true ∧ okNum ((cutB s).getD (cutA s)) = true then
    if (val (cutA s) : Int) ≤ M ∧ (val ((cutB s).getD (cutA s)) : Int) ≤ M ∧ ((cutB s).isSome = true → (val (cutA s) : Int) < val ((cutB s).getD (cutA s))) then .inl ((val (cutA s) : Int), (val ((cutB s).getD (cutA s)) : Int)) else .inr 2
  else .inr 3) := rfl
  have hB : (cutB s).isSome = true → (cutB s).getD [] = (cutB s).getD (cutA s) := by cases cutB s <;> simp
  have hN : (cutB s).isSome = false → (cutB s).getD (cutA s) = cutA s := by cases cutB s <;> simp
  have hb0 := blk_new w (.cells #[i64 0, i64 0] 42)
  have HB0 := Lib.hid (below_new w (.cells #[i64 0, i64 0] 42))
  have H0 := Lib.hid hb0
  have hP := Lib.hid (fun t (h : t.length ≤ 1000000000) W => parseNumber_any t W h)
  have hI := Lib.hid isNumber_any
  have HP := Lib.hid hpi
  have HBn := Lib.hid hB
  have HNn := Lib.hid hN
  clear hE hb0 hpi hB hN
  obtain ⟨tw, htw⟩ : ∃ q, (cutB s).isSome = q := ⟨_, rfl⟩
  rw [htw] at HBn HNn hcut HP
  clear htw
  generalize cutA s = a at *
  generalize (cutB s).getD a = b at *
  generalize (cutB s).getD [] = b' at *
  have HX : Hid (itemR s = (match pitem s with | .inl r => r | .inr _ => (0, 0)) ∧ itemE s = (match pitem s with | .inl _ => 0 | .inr e => e)) := ⟨rfl, rfl⟩
  have n0 : ∀ t, okNum t = true → num0 t = (val t : Int) := fun t h => by unfold num0; rw [if_pos h]
  have N0 := Lib.hid n0
  have nn : ∀ t, okNum t = true → num (num0 t) = decide (num0 t ≤ M) ∧ 1 ≤ num0 t := fun t h => by
    have h3 := (okNum_val h).2.2
    rw [n0 t h]
    have : (1 : Int) ≤ (val t : Int) := by omega
    exact ⟨by unfold num; simp [this], this⟩
  have NN := Lib.hid nn
  clear nn n0
  unfold GivesItem
  cases tw with
  | false =>
    have e1 := HNn.out rfl
    subst e1
    clear HBn HNn hle
    have hp1 := hP.out b hlb
    have NB := NN.out b
    have M0 := N0.out b
    clear hP NN N0
    cases ob : okNum b with
    | false =>
      have V : Hid (itemR s = (0, 0) ∧ itemE s = 3) := by
        show itemR s = (0, 0) ∧ itemE s = 3
        rw [HX.out.1, HX.out.2, HP.out, if_neg (by rw [ob]; simp)]; exact ⟨rfl, rfl⟩
      rw [V.out.1, V.out.2]
      rw [ob] at hp1
      clear NB M0 ob
      generalize num0 b = v1 at *
      have hp1 := Lib.hid hp1
      go_enter Tryz.func86, Tryz.ntmps86
      go_wp2_with fail
      refine hcut.mono ?_; rintro e w1 ⟨rfl, b1⟩
      have H1 := Lib.hid (blk_below b1 H0.out)
      have B1 := Lib.hid (HB0.out.tr b1)
      clear hcut b1 H0 HB0
      go_wp2_with fail
      refine (hp1.out _).mono ?_; rintro e w2 ⟨rfl, rfl⟩
      go_wp2_with fail
      refine (hp1.out _).mono ?_; rintro e w3 ⟨rfl, rfl⟩
      have hrc := blk_cell H1.out 0
      have hrc1 := blk_cell H1.out 1
      have hrf := blk_free H1.out 0
      have hrf1 := blk_free H1.out 1
      go_wp2_with fail
      refine bodyPost_ret (v := .tuple #[.agg #[i64 0, i64 0], i64 3]) (by simp [results, Tryz.results86, go_sem, hrc, hrc1]) rfl ?_
      exact ⟨rfl, (B1.out.setCell (Nat.le_refl _) _).setCell (Nat.le_refl _) _⟩
    | true =>
      obtain ⟨nb, n1⟩ := NB ob
      have M1 := Lib.hid (M0 ob)
      rw [ob] at hp1
      have OB := Lib.hid ob
      clear NB M0 ob
      by_cases hM : num0 b ≤ M
      · rw [decide_eq_true hM] at nb
        have V : Hid (itemR s = (num0 b, num0 b) ∧ itemE s = 0) := by
          show itemR s = (num0 b, num0 b) ∧ itemE s = 0
          rw [HX.out.1, HX.out.2, HP.out, if_pos ⟨OB.out, OB.out⟩, ← M1.out, if_pos ⟨hM, hM, fun h => by cases h⟩]; exact ⟨rfl, rfl⟩
        rw [V.out.1, V.out.2]
        have hI1 := Lib.hid (fun W => isNumber_any (num0 b) W)
        rw [nb] at hI1
        rw [M_eq] at hM
        clear nb M1 OB
        have hp1 := Lib.hid hp1
        generalize num0 b = v1 at *
        go_enter Tryz.func86, Tryz.ntmps86
        go_wp2_with fail
        refine hcut.mono ?_; rintro e w1 ⟨rfl, b1⟩
        have H1 := Lib.hid (blk_below b1 H0.out)
        have B1 := Lib.hid (HB0.out.tr b1)
        clear hcut b1 H0 HB0
        go_wp2_with fail
        refine (hp1.out _).mono ?_; rintro e w2 ⟨rfl, rfl⟩
        go_wp2_with fail
        refine (hp1.out _).mono ?_; rintro e w3 ⟨rfl, rfl⟩
        go_wp2_with fail
        refine (hI1.out _).mono ?_; rintro e w4 ⟨rfl, rfl⟩
        go_wp2_with fail
        refine (hI1.out _).mono ?_; rintro e w4 ⟨rfl, rfl⟩
        have hrc := blk_cell H1.out 0
        have hrc1 := blk_cell H1.out 1
        have hrf := blk_free H1.out 0
        have hrf1 := blk_free H1.out 1
        go_wp2_with fail
        refine bodyPost_ret (v := .tuple #[.agg #[i64 v1, i64 v1], i64 0]) (by simp [results, Tryz.results86, go_sem, hrc, hrc1]) rfl ?_
        exact ⟨rfl, (B1.out.setCell (Nat.le_refl _) _).setCell (Nat.le_refl _) _⟩
      · rw [decide_eq_false hM] at nb
        have V : Hid (itemR s = (0, 0) ∧ itemE s = 2) := by
          show itemR s = (0, 0) ∧ itemE s = 2
          rw [HX.out.1, HX.out.2, HP.out, if_pos ⟨OB.out, OB.out⟩, ← M1.out, if_neg (fun h => hM h.1)]; exact ⟨rfl, rfl⟩
        rw [V.out.1, V.out.2]
        have hI1 := Lib.hid (fun W => isNumber_any (num0 b) W)
        rw [nb] at hI1
        rw [M_eq] at hM
        clear nb M1 OB
        have hp1 := Lib.hid hp1
        generalize num0 b = v1 at *
        go_enter Tryz.func86, Tryz.ntmps86
        go_wp2_with fail
        refine hcut.mono ?_; rintro e w1 ⟨rfl, b1⟩
        have H1 := Lib.hid (blk_below b1 H0.out)
        have B1 := Lib.hid (HB0.out.tr b1)
        clear hcut b1 H0 HB0
        go_wp2_with fail
        refine (hp1.out _).mono ?_; rintro e w2 ⟨rfl, rfl⟩
        go_wp2_with fail
        refine (hp1.out _).mono ?_; rintro e w3 ⟨rfl, rfl⟩
        go_wp2_with fail
        refine (hI1.out _).mono ?_; rintro e w4 ⟨rfl, rfl⟩
        have hrc := blk_cell H1.out 0
        have hrc1 := blk_cell H1.out 1
        have hrf := blk_free H1.out 0
        have hrf1 := blk_free H1.out 1
        go_wp2_with fail
        refine bodyPost_ret (v := .tuple #[.agg #[i64 0, i64 0], i64 2]) (by simp [results, Tryz.results86, go_sem, hrc, hrc1]) rfl ?_
        exact ⟨rfl, (B1.out.setCell (Nat.le_refl _) _).setCell (Nat.le_refl _) _⟩
  | true =>
    have e1 := HBn.out rfl
    subst e1
    clear HBn HNn hle
    have hp1 := hP.out a hla
    have hp2 := hP.out b' hlb
    have NA := NN.out a
    have NB := NN.out b'
    have Ma := N0.out a
    have Mb := N0.out b'
    clear hP NN N0
    cases oa : okNum a with
    | false =>
      have V : Hid (itemR s = (0, 0) ∧ itemE s = 3) := by
        show itemR s = (0, 0) ∧ itemE s = 3
        rw [HX.out.1, HX.out.2, HP.out, if_neg (by rw [oa]; simp)]; exact ⟨rfl, rfl⟩
      rw [V.out.1, V.out.2]
      rw [oa] at hp1
      clear NA NB Ma Mb oa
      have hp1 := Lib.hid hp1
      have hp2 := Lib.hid hp2
      generalize num0 a = v1 at *
      generalize num0 b' = v2 at *
      generalize okNum b' = o2 at *
      go_enter Tryz.func86, Tryz.ntmps86
      go_wp2_with fail
      refine hcut.mono ?_; rintro e w1 ⟨rfl, b1⟩
      have H1 := Lib.hid (blk_below b1 H0.out)
      have B1 := Lib.hid (HB0.out.tr b1)
      clear hcut b1 H0 HB0
      go_wp2_with fail
      refine (hp1.out _).mono ?_; rintro e w2 ⟨rfl, rfl⟩
      go_wp2_with fail
      refine (hp2.out _).mono ?_; rintro e w3 ⟨rfl, rfl⟩
      have hrc := blk_cell H1.out 0
      have hrc1 := blk_cell H1.out 1
      have hrf := blk_free H1.out 0
      have hrf1 := blk_free H1.out 1
      go_wp2_with fail
      refine bodyPost_ret (v := .tuple #[.agg #[i64 0, i64 0], i64 3]) (by simp [results, Tryz.results86, go_sem, hrc, hrc1]) rfl ?_
      exact ⟨rfl, (B1.out.setCell (Nat.le_refl _) _).setCell (Nat.le_refl _) _⟩
    | true =>
      cases ob : okNum b' with
      | false =>
        have V : Hid (itemR s = (0, 0) ∧ itemE s = 3) := by
          show itemR s = (0, 0) ∧ itemE s = 3
          rw [HX.out.1, HX.out.2, HP.out, if_neg (by rw [ob]; simp)]; exact ⟨rfl, rfl⟩
        rw [V.out.1, V.out.2]
        rw [oa] at hp1
        rw [ob] at hp2
        clear NA NB Ma Mb oa ob
        have hp1 := Lib.hid hp1
        have hp2 := Lib.hid hp2
        generalize num0 a = v1 at *
        generalize num0 b' = v2 at *
        go_enter Tryz.func86, Tryz.ntmps86
        go_wp2_with fail
        refine hcut.mono ?_; rintro e w1 ⟨rfl, b1⟩
        have H1 := Lib.hid (blk_below b1 H0.out)
        have B1 := Lib.hid (HB0.out.tr b1)
        clear hcut b1 H0 HB0
        go_wp2_with fail
        refine (hp1.out _).mono ?_; rintro e w2 ⟨rfl, rfl⟩
        go_wp2_with fail
        refine (hp2.out _).mono ?_; rintro e w3 ⟨rfl, rfl⟩
        have hrc := blk_cell H1.out 0
        have hrc1 := blk_cell H1.out 1
        have hrf := blk_free H1.out 0
        have hrf1 := blk_free H1.out 1
        go_wp2_with fail
        refine bodyPost_ret (v := .tuple #[.agg #[i64 0, i64 0], i64 3]) (by simp [results, Tryz.results86, go_sem, hrc, hrc1]) rfl ?_
        exact ⟨rfl, (B1.out.setCell (Nat.le_refl _) _).setCell (Nat.le_refl _) _⟩
      | true =>
        obtain ⟨na, n1⟩ := NA oa
        obtain ⟨nb, n2⟩ := NB ob
        have M1 := Lib.hid (Ma oa)
        have M2 := Lib.hid (Mb ob)
        have OO := Lib.hid (And.intro oa ob)
        rw [oa] at hp1
        rw [ob] at hp2
        clear NA NB Ma Mb oa ob
        have hI1 := Lib.hid (fun W => isNumber_any (num0 a) W)
        have hI2 := Lib.hid (fun W => isNumber_any (num0 b') W)
        have hp1 := Lib.hid hp1
        have hp2 := Lib.hid hp2
        by_cases hMa : num0 a ≤ M
        · rw [decide_eq_true hMa] at na
          rw [na] at hI1
          by_cases hMb : num0 b' ≤ M
          · rw [decide_eq_true hMb] at nb
            rw [nb] at hI2
            by_cases hab : num0 a < num0 b'
            · have V : Hid (itemR s = (num0 a, num0 b') ∧ itemE s = 0) := by
                show itemR s = (num0 a, num0 b') ∧ itemE s = 0
                rw [HX.out.1, HX.out.2, HP.out, if_pos OO.out, ← M1.out, ← M2.out, if_pos ⟨hMa, hMb, fun _ => hab⟩]; exact ⟨rfl, rfl⟩
              rw [V.out.1, V.out.2]
              rw [M_eq] at hMa hMb
              clear na nb M1 M2 OO
              generalize num0 a = v1 at *
              generalize num0 b' = v2 at *
              go_enter Tryz.func86, Tryz.ntmps86
              go_wp2_with fail
              refine hcut.mono ?_; rintro e w1 ⟨rfl, b1⟩
              have H1 := Lib.hid (blk_below b1 H0.out)
              have B1 := Lib.hid (HB0.out.tr b1)
              clear hcut b1 H0 HB0
              go_wp2_with fail
              refine (hp1.out _).mono ?_; rintro e w2 ⟨rfl, rfl⟩
              go_wp2_with fail
              refine (hp2.out _).mono ?_; rintro e w3 ⟨rfl, rfl⟩
              go_wp2_with fail
              refine (hI1.out _).mono ?_; rintro e w4 ⟨rfl, rfl⟩
              go_wp2_with fail
              refine (hI2.out _).mono ?_; rintro e w4 ⟨rfl, rfl⟩
              have hrc := blk_cell H1.out 0
              have hrc1 := blk_cell H1.out 1
              have hrf := blk_free H1.out 0
              have hrf1 := blk_free H1.out 1
              go_wp2_with fail
              refine bodyPost_ret (v := .tuple #[.agg #[i64 v1, i64 v2], i64 0]) (by simp [results, Tryz.results86, go_sem, hrc, hrc1]) rfl ?_
              exact ⟨rfl, (B1.out.setCell (Nat.le_refl _) _).setCell (Nat.le_refl _) _⟩
            · have V : Hid (itemR s = (0, 0) ∧ itemE s = 2) := by
                show itemR s = (0, 0) ∧ itemE s = 2
                rw [HX.out.1, HX.out.2, HP.out, if_pos OO.out, ← M1.out, ← M2.out, if_neg (fun h => hab (h.2.2 rfl))]; exact ⟨rfl, rfl⟩
              rw [V.out.1, V.out.2]
              rw [M_eq] at hMa hMb
              clear na nb M1 M2 OO
              generalize num0 a = v1 at *
              generalize num0 b' = v2 at *
              go_enter Tryz.func86, Tryz.ntmps86
              go_wp2_with fail
              refine hcut.mono ?_; rintro e w1 ⟨rfl, b1⟩
              have H1 := Lib.hid (blk_below b1 H0.out)
              have B1 := Lib.hid (HB0.out.tr b1)
              clear hcut b1 H0 HB0
              go_wp2_with fail
              refine (hp1.out _).mono ?_; rintro e w2 ⟨rfl, rfl⟩
              go_wp2_with fail
              refine (hp2.out _).mono ?_; rintro e w3 ⟨rfl, rfl⟩
              go_wp2_with fail
              refine (hI1.out _).mono ?_; rintro e w4 ⟨rfl, rfl⟩
              go_wp2_with fail
              refine (hI2.out _).mono ?_; rintro e w4 ⟨rfl, rfl⟩
              have hrc := blk_cell H1.out 0
              have hrc1 := blk_cell H1.out 1
              have hrf := blk_free H1.out 0
              have hrf1 := blk_free H1.out 1
              go_wp2_with fail
              refine bodyPost_ret (v := .tuple #[.agg #[i64 0, i64 0], i64 2]) (by simp [results, Tryz.results86, go_sem, hrc, hrc1]) rfl ?_
              exact ⟨rfl, (B1.out.setCell (Nat.le_refl _) _).setCell (Nat.le_refl _) _⟩
          · rw [decide_eq_false hMb] at nb
            rw [nb] at hI2
            have V : Hid (itemR s = (0, 0) ∧ itemE s = 2) := by
              show itemR s = (0, 0) ∧ itemE s = 2
              rw [HX.out.1, HX.out.2, HP.out, if_pos OO.out, ← M1.out, ← M2.out, if_neg (fun h => hMb h.2.1)]; exact ⟨rfl, rfl⟩
            rw [V.out.1, V.out.2]
            rw [M_eq] at hMa hMb
            clear na nb M1 M2 OO
            generalize num0 a = v1 at *
            generalize num0 b' = v2 at *
            go_enter Tryz.func86, Tryz.ntmps86
            go_wp2_with fail
            refine hcut.mono ?_; rintro e w1 ⟨rfl, b1⟩
            have H1 := Lib.hid (blk_below b1 H0.out)
            have B1 := Lib.hid (HB0.out.tr b1)
            clear hcut b1 H0 HB0
            go_wp2_with fail
            refine (hp1.out _).mono ?_; rintro e w2 ⟨rfl, rfl⟩
            go_wp2_with fail
            refine (hp2.out _).mono ?_; rintro e w3 ⟨rfl, rfl⟩
            go_wp2_with fail
            refine (hI1.out _).mono ?_; rintro e w4 ⟨rfl, rfl⟩
            go_wp2_with fail
            refine (hI2.out _).mono ?_; rintro e w4 ⟨rfl, rfl⟩
            have hrc := blk_cell H1.out 0
            have hrc1 := blk_cell H1.out 1
            have hrf := blk_free H1.out 0
            have hrf1 := blk_free H1.out 1
            go_wp2_with fail
            refine bodyPost_ret (v := .tuple #[.agg #[i64 0, i64 0], i64 2]) (by simp [results, Tryz.results86, go_sem, hrc, hrc1]) rfl ?_
            exact ⟨rfl, (B1.out.setCell (Nat.le_refl _) _).setCell (Nat.le_refl _) _⟩
        · rw [decide_eq_false hMa] at na
          rw [na] at hI1
          have V : Hid (itemR s = (0, 0) ∧ itemE s = 2) := by
            show itemR s = (0, 0) ∧ itemE s = 2
            rw [HX.out.1, HX.out.2, HP.out, if_pos OO.out, ← M1.out, ← M2.out, if_neg (fun h => hMa h.1)]; exact ⟨rfl, rfl⟩
          rw [V.out.1, V.out.2]
          rw [M_eq] at hMa
          clear na nb M1 M2 OO
          generalize num0 a = v1 at *
          generalize num0 b' = v2 at *
          go_enter Tryz.func86, Tryz.ntmps86
          go_wp2_with fail
          refine hcut.mono ?_; rintro e w1 ⟨rfl, b1⟩
          have H1 := Lib.hid (blk_below b1 H0.out)
          have B1 := Lib.hid (HB0.out.tr b1)
          clear hcut b1 H0 HB0
          go_wp2_with fail
          refine (hp1.out _).mono ?_; rintro e w2 ⟨rfl, rfl⟩
          go_wp2_with fail
          refine (hp2.out _).mono ?_; rintro e w3 ⟨rfl, rfl⟩
          go_wp2_with fail
          refine (hI1.out _).mono ?_; rintro e w4 ⟨rfl, rfl⟩
          have hrc := blk_cell H1.out 0
          have hrc1 := blk_cell H1.out 1
          have hrf := blk_free H1.out 0
          have hrf1 := blk_free H1.out 1
          go_wp2_with fail
          refine bodyPost_ret (v := .tuple #[.agg #[i64 0, i64 0], i64 2]) (by simp [results, Tryz.results86, go_sem, hrc, hrc1]) rfl ?_
          exact ⟨rfl, (B1.out.setCell (Nat.le_refl _) _).setCell (Nat.le_refl _) _⟩
end Go.Proofs.YtcpennlojjlpaaaGreatDoor
