/- Contract: Restore.
   Contracts: the reference's has, restored, protected, Protect.
   Contracts: the reference's Protect and Restore. -/
import Derived.Test.YtlchcjnbbhpiaaaGreatDoorZj
import Derived.Test.YtlchcjnbbhpiaaaGreatDoorZy
namespace Go.Proofs.YtlchcjnbbhpiaaaGreatDoor
open Go.RowKit Go.Shelf Go.Dg

/-- strings.Split at a line feed. -/
theorem split_eq (s : List UInt8) : Lib.countB ⟨s.toArray⟩ ⟨#[10]⟩ + 1 = (pcs s).length ∧ (Lib.splitB ⟨#[10]⟩ 0 (Lib.countB ⟨s.toArray⟩ ⟨#[10]⟩) ⟨s.toArray⟩).map Value.string = (pcs s).map enS := by
  have hd := Lib.splitB_data ⟨#[10]⟩ 0 (Lib.countB ⟨s.toArray⟩ ⟨#[10]⟩) ⟨s.toArray⟩
  have hs : Lib.splitK [10] 0 (Lib.countB ⟨s.toArray⟩ ⟨#[10]⟩) s = pcs s := by
    rw [← parts_pcs, ← Go.Gn.split_parts]; rfl
  have hd' : (Lib.splitB ⟨#[10]⟩ 0 (Lib.countB ⟨s.toArray⟩ ⟨#[10]⟩) ⟨s.toArray⟩).map (·.data.toList) = pcs s := by
    rw [hd, ← hs]
  refine ⟨?_, ?_⟩
  · have := Lib.splitB_all ⟨#[10]⟩ (Nat.le_refl 1) 0 _ ⟨s.toArray⟩ rfl
    rw [← this, ← hd', List.length_map]
  · rw [← hd', List.map_map]
    rfl
theorem split_any (s : List UInt8) (w : World) (hE : ∃ m : Int, w.cell? ⟨0, 0, none⟩ = some (.int .i64 m)) (hl : s.length ≤ 1000000000) :
    Calls Tryz.prog 73 #[enS s, .string ⟨#[10]⟩] w fun e w' => e = .returned (.slice (some ⟨w.heap.size, 0, none⟩) (pcs s).length (pcs s).length) ∧ w' = w.alloc (.cells ((pcs s).map enS).toArray 9) := by
  obtain ⟨m, hm⟩ := hE
  have h := Tryz.strings_Split ⟨s.toArray⟩ ⟨#[10]⟩ m w (show s.toArray.size < _ by simp; omega) hm (Nat.le_refl 1)
  rw [(split_eq s).1, (split_eq s).2] at h
  exact h
theorem endsNl (s : List UInt8) (w : World) (hl : s.length ≤ 1000000000) : Calls Tryz.prog 72 #[enS s, .string ⟨#[10]⟩] w fun e w' => e = .returned (.bool (decide (s.getLast? = some 10))) ∧ w = w' := by
  have h := Tryz.strings_HasSuffix ⟨s.toArray⟩ ⟨#[10]⟩ w (show s.toArray.size ≤ _ by simp; omega)
  rw [show Lib.hasSuffix (⟨s.toArray⟩ : ByteArray).data.toList (⟨#[10]⟩ : ByteArray).data.toList = decide (s.getLast? = some 10) from suffix_nl s] at h
  exact h.mono fun e w' ⟨a, b⟩ => ⟨a, b.symm⟩
theorem trimSuf (t : List UInt8) (w : World) (hl : (t ++ [10]).length ≤ 1000000000) : Calls Tryz.prog 74 #[enS (t ++ [10]), .string ⟨#[10]⟩] w fun e w' => e = .returned (enS t) ∧ w = w' := by
  have h := Tryz.strings_TrimSuffix ⟨(t ++ [10]).toArray⟩ ⟨#[10]⟩ w (show (t ++ [10]).toArray.size ≤ _ by simp at hl ⊢; omega)
  have e1 : Lib.trimSuffix (⟨(t ++ [10]).toArray⟩ : ByteArray).data.toList (⟨#[10]⟩ : ByteArray).data.toList = t := trim_nl t
  rw [e1] at h
  exact h.mono fun e w' ⟨a, b⟩ => ⟨a, b.symm⟩
/-- The row of lines, the first of them restored. -/
theorem row_set {us ls : List (List UInt8)} {k : Nat} {p : List UInt8} (h : us.length = k) (hk : k < ls.length) : (((us ++ ls.drop k).map enS).toArray).setIfInBounds k (enS p) = (((us ++ [p]) ++ ls.drop (k + 1)).map enS).toArray := by
  rw [List.setIfInBounds_toArray, ← List.map_set]
  congr 2
  rw [List.set_append_right _ _ (by omega), h, Nat.sub_self, List.drop_eq_getElem_cons hk, List.set_cons_zero]
  simp
theorem row_at {us ls : List (List UInt8)} {k : Nat} {x : List UInt8} (h : us.length = k) (hx : ls[k]? = some x) : (((us ++ ls.drop k).map enS).toArray)[k]? = some (enS x) := by
  rw [List.getElem?_toArray, List.getElem?_map, List.getElem?_append_right (by omega), h, Nat.sub_self, List.getElem?_drop, Nat.add_zero, hx]
  rfl
set_option maxRecDepth 100000 in
set_option maxHeartbeats 8000000 in
theorem restore_any (s : List UInt8) (w : World) (hl : s.length ≤ 1000000000) (hg : GlD w) :
    Calls Tryz.prog 36 #[enS s] w fun e w' => e = .returned (.tuple #[enS (restF s).1, i64 (restF s).2]) ∧ Below w.heap.size w w' := by
  have V := Lib.hid (show restF s = if 2097152 < s.length then (([], 5) : List UInt8 × Int) else if s.getLast? ≠ some 10 then ([], 4) else if has13 s = true then ([], 6) else match unprotA (lns s).1 with | some ps => (Lib.join ps [10], 0) | none => ([], 3) from rfl)
  have hsz : (⟨s.toArray⟩ : ByteArray).size = s.length := by show s.toArray.size = _; simp
  have HG := Lib.hid hg
  clear hg
  obtain ⟨R, hR⟩ : ∃ q, restF s = q := ⟨_, rfl⟩
  rw [hR] at V ⊢
  have HR := Lib.hid hR
  clear hR
  go_enter Tryz.func36, Tryz.ntmps36
  by_cases h1 : 2097152 < s.length
  · have VB : Hid (R = ([], 5)) := Lib.hid (by (show _ = _); rw [V.out, if_pos h1])
    clear V
    go_wp2_with fail
    go_ret2
    rw [VB.out]
    exact ⟨rfl, Below.refl _ _⟩
  rw [if_neg h1] at V
  have HS := Lib.hid (endsNl s w hl)
  go_wp2_with fail
  refine HS.out.mono ?_; rintro e w1 ⟨rfl, rfl⟩
  clear HS
  by_cases h2 : s.getLast? = some 10
  case neg =>
    have VB : Hid (R = ([], 4)) := Lib.hid (by (show _ = _); rw [V.out, if_pos h2])
    rw [decide_eq_false h2]
    clear V h2
    go_wp2_with fail
    go_ret2
    rw [VB.out]
    exact ⟨rfl, Below.refl _ _⟩
  rw [if_neg (by simpa using h2)] at V
  rw [decide_eq_true h2]
  go_wp2_with fail
  refine (has13_any s w).mono ?_; rintro e w1 ⟨rfl, rfl⟩
  cases q : has13 s with
  | true =>
    have VB : Hid (R = ([], 6)) := Lib.hid (by (show _ = _); rw [V.out, q]; rfl)
    clear V q h2
    go_wp2_with fail
    go_ret2
    rw [VB.out]
    exact ⟨rfl, Below.refl _ _⟩
  | false =>
  obtain ⟨t, rfl⟩ := ends_iff.1 h2
  have VT : Hid (R = match unprotA (pcs t) with | some ps => (Lib.join ps [10], 0) | none => ([], 3)) := Lib.hid (HR.out.symm.trans (restF_snoc h1 q))
  have htl : t.length ≤ 2097152 := by rw [List.length_append] at h1; simp at h1; omega
  have HTR := Lib.hid (trimSuf t w hl)
  have HSP := Lib.hid (split_any t w HG.out.ml (by omega))
  clear V q h2 h1
  go_wp2_with fail
  refine HTR.out.mono ?_; rintro e w1 ⟨rfl, rfl⟩
  go_wp2_with fail
  refine HSP.out.mono ?_; rintro e w1 ⟨rfl, rfl⟩
  clear HTR HSP hsz hl
  obtain ⟨LS, hLS⟩ : ∃ q, pcs t = q := ⟨_, rfl⟩
  rw [hLS] at VT
  simp only [hLS]
  have hlen : Lib.lens LS + LS.length = t.length + 1 := by
    rw [← hLS]
    have := congrArg List.length (lns_eq t)
    rw [List.length_append, unl_length_le] at this
    unfold pcs
    simp only [Lib.lens, List.map_append, List.sum_append, List.length_append, List.map_cons, List.map_nil, List.sum_cons, List.sum_nil, List.length_cons, List.length_nil] at this ⊢
    omega
  have HL := Lib.hid hlen
  have hLn : LS.length ≤ 2097153 := by omega
  clear hLS hlen
  have I0 : Hid ((w.alloc (.cells (LS.map enS).toArray 9)).heap[w.heap.size]? = some (.cells ((([] : List (List UInt8)) ++ LS.drop 0).map enS).toArray 9 (0, 0)) ∧ Below w.heap.size w (w.alloc (.cells (LS.map enS).toArray 9)) ∧ unprotA (LS.take 0) = some []) := Lib.hid ⟨blk_new w _, below_new _ _, rfl⟩
  go_wp2_with fail
  generalize w.alloc (.cells (LS.map enS).toArray 9) = w1 at *
  go_loopg [25, 5, 6, 7, 8] LS.length (fun gg kv _ _ _ _ wr => ∃ (k : Nat) (us : List (List UInt8)), k ≤ LS.length ∧ LS.length - k ≤ gg ∧ kv = i64 k ∧ us.length = k ∧ Hid (wr.heap[w.heap.size]? = some (.cells ((us ++ LS.drop k).map enS).toArray 9 (0, 0)) ∧ Below w.heap.size w wr ∧ unprotA (LS.take k) = some us))
  case atStart => exact ⟨0, [], Nat.zero_le _, by omega, rfl, rfl, I0⟩
  case round =>
    obtain ⟨k, us, hk, hgg, rfl, hus, IW⟩ := hrel
    clear I0
    have HUS := Lib.hid hus
    clear hus
    by_cases hlt : k < LS.length
    · obtain ⟨x, hx⟩ : ∃ x, LS[k]? = some x := ⟨LS[k], List.getElem?_eq_getElem hlt⟩
      have c0 : wr.cell? ⟨w.heap.size, 0 + k, none⟩ = some (enS x) := by rw [Nat.zero_add, blk_cell IW.out.1 k]; exact row_at HUS.out hx
      have c0b : wr.cell? ⟨w.heap.size, k, none⟩ = some (enS x) := by rw [blk_cell IW.out.1 k]; exact row_at HUS.out hx
      have fr := blk_free IW.out.1 k
      have HX := Lib.hid hx
      have hxl : x.length ≤ 1000000000 := by
        have h1 : x.length ≤ Lib.lens LS := by
          obtain ⟨a, b, e⟩ := List.append_of_mem (List.mem_of_getElem? hx)
          rw [e]
          simp only [Lib.lens, List.map_append, List.map_cons, List.sum_append, List.sum_cons]
          omega
        have := HL.out
        omega
      have HUN := Lib.hid (unprotect_any x wr hxl)
      clear hx hxl
      go_wp2_with fail
      refine HUN.out.mono ?_; rintro e w3 ⟨rfl, rfl⟩
      clear HUN
      unfold unV
      have HSN := Lib.hid (unprotA_snoc (LS.take k) x us IW.out.2.2)
      have HTK : Hid (LS.take (k + 1) = LS.take k ++ [x]) := Lib.hid (by
        (show _ = _)
        obtain ⟨hl2, e2⟩ := List.getElem?_eq_some_iff.1 HX.out
        rw [List.take_succ_eq_append_getElem hl2, e2])
      cases hu : unprot x with
      | none =>
        have VB : Hid (R = ([], 3)) := Lib.hid (by
          (show _ = _)
          have h3 := HSN.out
          rw [hu] at h3
          have h4 := unprotA_none _ (LS.drop (k + 1)) (h3.trans rfl)
          rw [← HTK.out, List.take_append_drop] at h4
          rw [VT.out, h4])
        have B9 := Lib.hid IW.out.2.1
        clear hu VT HSN IW
        simp only
        go_wp2_with fail
        go_ret2
        rw [VB.out]
        exact ⟨rfl, B9.out⟩
      | some p =>
        have IN : Hid ((wr.setCell ⟨w.heap.size, k, none⟩ (enS p)).heap[w.heap.size]? = some (.cells (((us ++ [p]) ++ LS.drop (k + 1)).map enS).toArray 9 (0, 0)) ∧ Below w.heap.size w (wr.setCell ⟨w.heap.size, k, none⟩ (enS p)) ∧ unprotA (LS.take (k + 1)) = some (us ++ [p])) := Lib.hid ⟨by rw [blk_set IW.out.1, row_set HUS.out hlt], IW.out.2.1.setCell (p := ⟨w.heap.size, k, none⟩) (Nat.le_refl _) _, by rw [HTK.out, HSN.out, hu]; rfl⟩
        clear hu HSN IW HX HTK
        simp only
        go_wp2_with fail
        go_roundg (LS.length - (k + 1))
        case measure => omega
        case rel => exact ⟨k + 1, us ++ [p], by omega, by omega, by simp, by rw [List.length_append, HUS.out]; rfl, IN⟩
    · obtain rfl : k = LS.length := by omega
      have hu := IW.out.2.2
      rw [List.take_length] at hu
      have VB : Hid (R = (Lib.join us [10], 0)) := Lib.hid (by (show _ = _); rw [VT.out, hu])
      have hln := unprotA_lens LS us hu
      have hb := IW.out.1
      rw [List.drop_length, List.append_nil] at hb
      have hrd : Rd wr (some ⟨w.heap.size, 0, none⟩) us := fun _ => ⟨w.heap.size, 0, rfl, blk_lt hb, fun j y hj => by
        rw [Nat.zero_add, blk_cell hb j, List.getElem?_toArray, List.getElem?_map, hj]; rfl⟩
      have HJ := Lib.hid (join_any2 (some ⟨w.heap.size, 0, none⟩) us.length us [10] wr hrd (by rw [HUS.out]; omega) (Nat.le_refl _) (by
        have h1 := join_lens us
        have h2 := HL.out
        rw [HUS.out] at h1
        omega))
      have B9 := Lib.hid IW.out.2.1
      rw [HUS.out] at HJ
      clear hu hln hb hrd IW VT
      go_wp2_with fail
      refine HJ.out.mono ?_; rintro e w9 ⟨rfl, b9⟩
      have B10 := Lib.hid (B9.out.tr b9)
      clear b9
      go_wp2_with fail
      go_ret2
      rw [VB.out]
      exact ⟨rfl, B10.out⟩
end Go.Proofs.YtlchcjnbbhpiaaaGreatDoor

namespace Go.Proofs.YtlchcjnbbhpiaaaGreatDoor
open Go.RowKit Go.Shelf Go.Dg

set_option maxRecDepth 100000 in
theorem has_ref (s : List UInt8) (w : World) (hl : s.length ≤ 1000000000) : Calls Tryz.prog 70 #[enS s, .int .u8 13] w fun e w' => e = .returned (.bool (has13 s)) ∧ w = w' := by
  have hsz : (⟨s.toArray⟩ : ByteArray).size = s.length := by show s.toArray.size = _; simp
  go_enter Tryz.func70, Tryz.ntmps70
  go_wp2_with fail
  go_loopg [5] s.length (fun gg iv wr => ∃ k : Nat, k ≤ s.length ∧ s.length - k ≤ gg ∧ iv = i64 k ∧ Hid (has13 (s.take k) = false) ∧ wr = w)
  case atStart => exact ⟨0, Nat.zero_le _, by omega, rfl, Lib.hid rfl, rfl⟩
  case round =>
    obtain ⟨k, hk, hgg, rfl, hpre, rfl⟩ := hrel
    by_cases hlt : k < s.length
    · have bg := bget (t := s) (p := k) (show k < s.toArray.size by simpa using hlt) hlt
      obtain ⟨c, hc⟩ : ∃ c, s.getD k 0 = c := ⟨_, rfl⟩
      rw [hc] at bg
      have HC : Hid (s[k]? = some c) := Lib.hid (by (show _ = _); rw [← hc]; simp [List.getD, hlt])
      clear hc
      by_cases h13 : c = 13
      · subst h13
        have V : Hid (has13 s = true) := Lib.hid (by (show _ = _); rw [has13_iff]; exact List.mem_of_getElem? HC.out)
        go_wp2_with fail
        go_ret
        rw [V.out]
        exact ⟨rfl, rfl⟩
      · have hne : ((c.toNat : Int) == 13) = false := by
          simp only [beq_eq_false_iff_ne, ne_eq]
          intro h
          apply h13
          apply UInt8.toNat_inj.1
          have : c.toNat = 13 := by omega
          rw [this]; rfl
        have V : Hid (has13 (s.take (k + 1)) = false) := Lib.hid (by
          (show _ = _)
          obtain ⟨hl2, e2⟩ := List.getElem?_eq_some_iff.1 HC.out
          cases hb : has13 (s.take (k + 1)) with
          | false => rfl
          | true =>
            rw [List.take_succ_eq_append_getElem hl2, has13_iff, List.mem_append] at hb
            rcases hb with hb | hb
            · have := hpre.out
              rw [has13_iff.2 hb] at this
              cases this
            · rw [e2] at hb
              exact absurd (List.mem_singleton.1 hb).symm h13)
        clear h13
        go_wp2_with fail
        go_roundg (s.length - (k + 1))
        case measure => omega
        case rel => exact ⟨k + 1, by omega, by omega, by simp, V, rfl⟩
    · obtain rfl : k = s.length := by omega
      have V : Hid (has13 s = false) := Lib.hid (by have := hpre.out; rwa [List.take_length] at this)
      go_wp2_with fail
      go_ret
      rw [V.out]
      exact ⟨rfl, rfl⟩
end Go.Proofs.YtlchcjnbbhpiaaaGreatDoor
namespace Go.Dg
theorem unprot_free {s : List UInt8} (h : s.getD 0 0 ≠ 45) : unprot s = some s := by
  unfold unprot
  rw [if_neg]
  cases s with
  | nil => simp
  | cons a r => simpa using h
theorem unprot_short {s : List UInt8} (h0 : s.getD 0 0 = 45) (h : s.length < 3) : unprot s = none := by
  match s, h0, h with
  | [], h0, _ => exact absurd h0 (by decide)
  | [a], h0, _ => simp at h0; subst h0; rfl
  | [a, b], h0, _ =>
    simp at h0; subst h0
    simp [unprot, List.isPrefixOf]
theorem unprot_bad {s : List UInt8} (h0 : s.getD 0 0 = 45) (h : 3 ≤ s.length) (hb : ¬ (s.getD 1 0 = 32 ∧ s.getD 2 0 = 45)) : unprot s = none := by
  match s, h0, h, hb with
  | a :: b :: c :: r, h0, _, hb =>
    simp at h0 hb; subst h0
    simp only [unprot, List.head?_cons, if_true, List.isPrefixOf, Bool.and_true, beq_self_eq_true, Bool.true_and, Bool.and_eq_true, beq_iff_eq]
    rw [if_neg]
    rintro ⟨e1, e2⟩
    exact hb e1.symm e2.symm
theorem unprot_good {s : List UInt8} (h0 : s.getD 0 0 = 45) (h : 3 ≤ s.length) (h1 : s.getD 1 0 = 32) (h2 : s.getD 2 0 = 45) : unprot s = some (s.drop 2) := by
  match s, h0, h, h1, h2 with
  | a :: b :: c :: r, h0, _, h1, h2 =>
    simp at h0 h1 h2; subst h0 h1 h2
    simp [unprot, List.isPrefixOf]
end Go.Dg
namespace Go.Proofs.YtlchcjnbbhpiaaaGreatDoor
open Go.RowKit Go.Shelf Go.Dg
theorem u8_beq {a b : UInt8} : ((a.toNat : Int) == (b.toNat : Int)) = decide (a = b) := by
  rw [Bool.eq_iff_iff, beq_iff_eq, decide_eq_true_eq]
  exact ⟨fun h => UInt8.toNat_inj.1 (by omega), fun h => by rw [h]⟩
theorem u8_is {a : UInt8} (b : UInt8) (m : Int) (hb : (b.toNat : Int) = m) (h : a = b) : ((a.toNat : Int) == m) = true ∧ ((a.toNat : Int) != m) = false := by
  subst h; subst hb; simp
theorem u8_not {a : UInt8} (b : UInt8) (m : Int) (hb : (b.toNat : Int) = m) (h : a ≠ b) : ((a.toNat : Int) == m) = false ∧ ((a.toNat : Int) != m) = true := by
  subst hb
  have : (a.toNat : Int) ≠ b.toNat := fun e => h (UInt8.toNat_inj.1 (by omega))
  simp [this]
set_option maxRecDepth 100000 in
theorem restored_any (s : List UInt8) (w : World) (hl : s.length ≤ 1000000000) : Calls Tryz.prog 77 #[enS s] w fun e w' => e = .returned (unV s) ∧ w = w' := by
  have hsz : (⟨s.toArray⟩ : ByteArray).size = s.length := by show s.toArray.size = _; simp
  by_cases h0 : s = []
  · subst h0
    have V : Hid (unV [] = .tuple #[enS [], .bool true]) := Lib.hid rfl
    go_enter Tryz.func77, Tryz.ntmps77
    go_wp2_with fail
    go_ret2
    rw [V.out]
    exact ⟨rfl, rfl⟩
  have hne : s.isEmpty = false := by cases s with | nil => exact absurd rfl h0 | cons _ _ => rfl
  have hpos : 0 < s.length := List.length_pos_iff.2 h0
  have bg0 := bget (t := s) (p := 0) (show 0 < s.toArray.size by simpa using hpos) hpos
  obtain ⟨c0, hc0⟩ : ∃ c, s.getD 0 0 = c := ⟨_, rfl⟩
  rw [hc0] at bg0
  have HC0 := Lib.hid hc0
  clear h0 hc0
  by_cases e0 : c0 = 45
  case neg =>
    obtain ⟨f1, f2⟩ := u8_not 45 45 rfl e0
    have V : Hid (unV s = .tuple #[enS s, .bool true]) := Lib.hid (by (show _ = _); unfold unV; rw [unprot_free (by rw [HC0.out]; exact e0)])
    clear e0 HC0
    go_enter Tryz.func77, Tryz.ntmps77
    go_wp2_with fail
    go_ret2
    rw [V.out]
    exact ⟨rfl, rfl⟩
  obtain ⟨f1, f2⟩ := u8_is 45 45 rfl e0
  have E0 : Hid (s.getD 0 0 = 45) := Lib.hid (HC0.out.trans e0)
  clear e0 HC0
  by_cases h3 : s.length < 3
  · have V : Hid (unV s = .tuple #[enS [], .bool false]) := Lib.hid (by (show _ = _); unfold unV; rw [unprot_short E0.out h3])
    go_enter Tryz.func77, Tryz.ntmps77
    go_wp2_with fail
    go_ret2
    rw [V.out]
    exact ⟨rfl, rfl⟩
  have h3q : decide ((s.length : Int) < 3) = false := decide_eq_false (by omega)
  have bg1 := bget (t := s) (p := 1) (show 1 < s.toArray.size by simp; omega) (by omega)
  have bg2 := bget (t := s) (p := 2) (show 2 < s.toArray.size by simp; omega) (by omega)
  obtain ⟨c1, hc1⟩ : ∃ c, s.getD 1 0 = c := ⟨_, rfl⟩
  obtain ⟨c2, hc2⟩ : ∃ c, s.getD 2 0 = c := ⟨_, rfl⟩
  rw [hc1] at bg1
  rw [hc2] at bg2
  have HC1 := Lib.hid hc1
  have HC2 := Lib.hid hc2
  clear hc1 hc2
  by_cases e1 : c1 = 32
  case neg =>
    obtain ⟨g1, g2⟩ := u8_not 32 32 rfl e1
    have V : Hid (unV s = .tuple #[enS [], .bool false]) := Lib.hid (by (show _ = _); unfold unV; rw [unprot_bad E0.out (by omega) (by rw [HC1.out]; exact fun h => e1 h.1)])
    clear e1 HC1 HC2 E0
    go_enter Tryz.func77, Tryz.ntmps77
    go_wp2_with fail
    go_ret2
    rw [V.out]
    exact ⟨rfl, rfl⟩
  obtain ⟨g1, g2⟩ := u8_is 32 32 rfl e1
  by_cases e2 : c2 = 45
  case neg =>
    obtain ⟨k1, k2⟩ := u8_not 45 45 rfl e2
    have V : Hid (unV s = .tuple #[enS [], .bool false]) := Lib.hid (by (show _ = _); unfold unV; rw [unprot_bad E0.out (by omega) (by rw [HC2.out]; exact fun h => e2 h.2)])
    clear e1 e2 HC1 HC2 E0
    go_enter Tryz.func77, Tryz.ntmps77
    go_wp2_with fail
    go_ret2
    rw [V.out]
    exact ⟨rfl, rfl⟩
  obtain ⟨k1, k2⟩ := u8_is 45 45 rfl e2
  have V : Hid (unV s = .tuple #[enS (s.drop 2), .bool true]) := Lib.hid (by (show _ = _); unfold unV; rw [unprot_good E0.out (by omega) (by rw [HC1.out]; exact e1) (by rw [HC2.out]; exact e2)])
  clear e1 e2 HC1 HC2 E0
  go_enter Tryz.func77, Tryz.ntmps77
  go_wp2_with fail
  go_ret2
  rw [V.out]
  refine ⟨?_, rfl⟩
  show Ending.returned (.tuple #[.string ((⟨s.toArray⟩ : ByteArray).extract 2 s.length), .bool true]) = _
  rw [ext_drop]
theorem bcat' (a b : List UInt8) : (⟨a.toArray⟩ : ByteArray) ++ ⟨b.toArray⟩ = ⟨(a ++ b).toArray⟩ := bcat a b
theorem ext_mid (s : List UInt8) (i j : Nat) : (⟨s.toArray⟩ : ByteArray).extract i j = ⟨((s.take j).drop i).toArray⟩ := by
  apply ByteArray.ext
  simp [ByteArray.data_extract, List.drop_take]
set_option maxRecDepth 100000 in
set_option maxHeartbeats 4000000 in
theorem protected_any (s : List UInt8) (w : World) (hl : s.length ≤ 100000000) : Calls Tryz.prog 71 #[enS s] w fun e w' => e = .returned (enS (prot s)) ∧ w = w' := by
  have hsz : (⟨s.toArray⟩ : ByteArray).size = s.length := by show s.toArray.size = _; simp
  go_enter Tryz.func71, Tryz.ntmps71
  go_wp2_with fail
  go_loopg [3, 4, 5] (s.length + 1) (fun gg ov fv iv wr => ∃ (k : Nat) (out : List UInt8) (f : Nat), k ≤ s.length + 1 ∧ s.length + 1 - k ≤ gg ∧ iv = i64 k ∧ ov = enS out ∧ fv = i64 f ∧ f ≤ k ∧ out.length ≤ 1000000000 ∧ Hid ((k ≤ s.length → out = outP (s.take k) ∧ f = frm (s.take k)) ∧ (k = s.length + 1 → out = prot s)) ∧ wr = w)
  case atStart => exact ⟨0, [], 0, by omega, by omega, rfl, rfl, rfl, Nat.le_refl _, by simp, Lib.hid ⟨fun _ => ⟨rfl, rfl⟩, fun h => by omega⟩, rfl⟩
  case round =>
    obtain ⟨k, out, f, hk, hgg, rfl, rfl, rfl, hfk, hol, II, rfl⟩ := hrel
    by_cases hlt : k < s.length
    · have bg := bget (t := s) (p := k) (show k < s.toArray.size by simpa using hlt) hlt
      obtain ⟨c, hc⟩ : ∃ c, s.getD k 0 = c := ⟨_, rfl⟩
      rw [hc] at bg
      have HTK : Hid (s.take (k + 1) = s.take k ++ [c]) := Lib.hid (by
        (show _ = _)
        have e : s[k] = c := by rw [← hc]; simp [List.getD, hlt]
        rw [List.take_succ_eq_append_getElem hlt, e])
      clear hc
      obtain ⟨eo, ef⟩ := II.out.1 (by omega)
      by_cases h10 : c = 10
      case neg =>
        obtain ⟨q1, q2⟩ := u8_not 10 10 rfl h10
        have IN : Hid ((k + 1 ≤ s.length → out = outP (s.take (k + 1)) ∧ f = frm (s.take (k + 1))) ∧ (k + 1 = s.length + 1 → out = prot s)) := Lib.hid ⟨fun _ => by rw [HTK.out, outP_ne _ h10, frm_ne _ h10]; exact ⟨eo, ef⟩, fun h => by omega⟩
        clear h10 eo ef II
        go_wp2_with fail
        go_roundg (s.length + 1 - (k + 1))
        case measure => omega
        case rel => exact ⟨k + 1, out, f, by omega, by omega, by simp, rfl, rfl, by omega, hol, IN, rfl⟩
      case pos =>
        obtain ⟨q1, q2⟩ := u8_is 10 10 rfl h10
        have hk2 : (s.take k).length = k := by rw [List.length_take]; omega
        obtain ⟨cur, hcur⟩ : ∃ q, curL (s.take k) = q := ⟨_, rfl⟩
        have hfl := frm_le (s.take k)
        rw [hcur, ← ef, hk2] at hfl
        have hext : (⟨s.toArray⟩ : ByteArray).extract f k = ⟨cur.toArray⟩ := by rw [ext_mid, ef, cur_eq, hcur]
        have IN : Hid ((k + 1 ≤ s.length → out ++ (dash cur ++ cur ++ [10]) = outP (s.take (k + 1)) ∧ k + 1 = frm (s.take (k + 1))) ∧ (k + 1 = s.length + 1 → out ++ (dash cur ++ cur ++ [10]) = prot s)) := Lib.hid ⟨fun _ => by rw [HTK.out, h10, outP_nl, frm_nl, ← hcur, ← eo, hk2]; exact ⟨rfl, rfl⟩, fun h => by omega⟩
        have hol2 : (out ++ (dash cur ++ cur ++ [10])).length ≤ 1000000000 := by
          have h := outP_len (s.take (k + 1))
          have e := IN.out.1 (by omega)
          rw [← e.1] at h
          have h2 := List.length_take_le (k + 1) s
          omega
        have hhd : f < k → cur.head? = some (s.getD f 0) := fun h => by
          rw [← hcur, ← cur_eq, ← ef, List.head?_drop, List.getElem?_take, if_pos h]
          simp [List.getD, show f < s.length by omega]
        have hcl : cur.length ≤ 100000000 := by omega
        have hcz : (⟨cur.toArray⟩ : ByteArray).size = cur.length := by show cur.toArray.size = _; simp
        have hoz : (⟨out.toArray⟩ : ByteArray).size = out.length := by show out.toArray.size = _; simp
        have HFL := Lib.hid hfl
        have HHD := Lib.hid hhd
        have HOL := Lib.hid hol2
        clear hcur eo ef hk2 hfl hhd hol2 II
        by_cases hcc : f < k
        · have bgf := bget (t := s) (p := f) (show f < s.toArray.size by simp; omega) (by omega)
          obtain ⟨b, hb⟩ : ∃ c, s.getD f 0 = c := ⟨_, rfl⟩
          have HB : Hid (cur.head? = some b) := Lib.hid (by rw [HHD.out hcc, hb])
          rw [hb] at bgf
          clear hb
          by_cases h45 : b = 45
          · obtain ⟨g1, g2⟩ := u8_is 45 45 rfl h45
            have HD : Hid (dash cur = [45, 32]) := Lib.hid (by (show _ = _); unfold dash; rw [HB.out, h45, if_pos rfl])
            clear h45
            go_wp2_with fail
            go_roundg (s.length + 1 - (k + 1))
            case measure => omega
            case rel => exact ⟨k + 1, out ++ (dash cur ++ cur ++ [10]), k + 1, by omega, by omega, by simp, by rw [HD.out]; simp only [bcat']; simp, by simp, by omega, HOL.out, IN, rfl⟩
          · obtain ⟨g1, g2⟩ := u8_not 45 45 rfl h45
            have HD : Hid (dash cur = []) := Lib.hid (by (show _ = _); unfold dash; rw [HB.out, if_neg (by simpa using h45)])
            clear h45
            go_wp2_with fail
            go_roundg (s.length + 1 - (k + 1))
            case measure => omega
            case rel => exact ⟨k + 1, out ++ (dash cur ++ cur ++ [10]), k + 1, by omega, by omega, by simp, by rw [HD.out]; simp only [bcat']; simp, by simp, by omega, HOL.out, IN, rfl⟩
        · have HD : Hid (dash cur = []) := Lib.hid (by
            (show _ = _)
            have : cur = [] := List.eq_nil_of_length_eq_zero (by have := HFL.out; omega)
            rw [this]; rfl)
          go_wp2_with fail
          go_roundg (s.length + 1 - (k + 1))
          case measure => omega
          case rel => exact ⟨k + 1, out ++ (dash cur ++ cur ++ [10]), k + 1, by omega, by omega, by simp, by rw [HD.out]; simp only [bcat']; simp, by simp, by omega, HOL.out, IN, rfl⟩
    · by_cases hend : k = s.length + 1
      · subst hend
        have V := Lib.hid (II.out.2 rfl)
        clear II
        go_wp2_with fail
        go_ret
        rw [V.out]
        exact ⟨rfl, rfl⟩
      · obtain rfl : k = s.length := by omega
        obtain ⟨eo, ef⟩ := II.out.1 (Nat.le_refl _)
        clear hend
        have hk2 : (s.take s.length).length = s.length := by rw [List.length_take]; omega
        obtain ⟨cur, hcur⟩ : ∃ q, curL (s.take s.length) = q := ⟨_, rfl⟩
        have hfl := frm_le (s.take s.length)
        rw [hcur, ← ef, hk2] at hfl
        have hext : (⟨s.toArray⟩ : ByteArray).extract f s.length = ⟨cur.toArray⟩ := by rw [ext_mid, ef, cur_eq, hcur]
        have IN : Hid ((s.length + 1 ≤ s.length → out ++ (dash cur ++ cur ++ [10]) = outP (s.take (s.length + 1)) ∧ s.length + 1 = frm (s.take (s.length + 1))) ∧ (s.length + 1 = s.length + 1 → out ++ (dash cur ++ cur ++ [10]) = prot s)) := Lib.hid ⟨fun h => by omega, fun _ => by
          have h := outP_end s
          rw [List.take_length] at hcur eo
          rw [h, ← hcur, ← eo]⟩
        have hol2 : (out ++ (dash cur ++ cur ++ [10])).length ≤ 1000000000 := by
          have h := prot_length s
          rw [← IN.out.2 rfl] at h
          omega
        have hhd : f < s.length → cur.head? = some (s.getD f 0) := fun h => by
          rw [← hcur, ← cur_eq, ← ef, List.head?_drop, List.getElem?_take, if_pos h]
          simp [List.getD, show f < s.length by omega]
        have hcl : cur.length ≤ 100000000 := by omega
        have hcz : (⟨cur.toArray⟩ : ByteArray).size = cur.length := by show cur.toArray.size = _; simp
        have hoz : (⟨out.toArray⟩ : ByteArray).size = out.length := by show out.toArray.size = _; simp
        have HFL := Lib.hid hfl
        have HHD := Lib.hid hhd
        have HOL := Lib.hid hol2
        clear hcur eo ef hk2 hfl hhd hol2 II
        by_cases hcc : f < s.length
        · have bgf := bget (t := s) (p := f) (show f < s.toArray.size by simp; omega) (by omega)
          obtain ⟨b, hb⟩ : ∃ c, s.getD f 0 = c := ⟨_, rfl⟩
          have HB : Hid (cur.head? = some b) := Lib.hid (by rw [HHD.out hcc, hb])
          rw [hb] at bgf
          clear hb
          by_cases h45 : b = 45
          · obtain ⟨g1, g2⟩ := u8_is 45 45 rfl h45
            have HD : Hid (dash cur = [45, 32]) := Lib.hid (by (show _ = _); unfold dash; rw [HB.out, h45, if_pos rfl])
            clear h45
            go_wp2_with fail
            go_roundg (s.length + 1 - (s.length + 1))
            case measure => omega
            case rel => exact ⟨s.length + 1, out ++ (dash cur ++ cur ++ [10]), s.length + 1, by omega, by omega, by simp, by rw [HD.out]; simp only [bcat']; simp, by simp, by omega, HOL.out, Lib.hid ⟨fun h => by omega, fun _ => by first | exact IN.out.2 rfl | exact IN.out.2 trivial⟩, rfl⟩
          · obtain ⟨g1, g2⟩ := u8_not 45 45 rfl h45
            have HD : Hid (dash cur = []) := Lib.hid (by (show _ = _); unfold dash; rw [HB.out, if_neg (by simpa using h45)])
            clear h45
            go_wp2_with fail
            go_roundg (s.length + 1 - (s.length + 1))
            case measure => omega
            case rel => exact ⟨s.length + 1, out ++ (dash cur ++ cur ++ [10]), s.length + 1, by omega, by omega, by simp, by rw [HD.out]; simp only [bcat']; simp, by simp, by omega, HOL.out, Lib.hid ⟨fun h => by omega, fun _ => by first | exact IN.out.2 rfl | exact IN.out.2 trivial⟩, rfl⟩
        · have HD : Hid (dash cur = []) := Lib.hid (by
            (show _ = _)
            have : cur = [] := List.eq_nil_of_length_eq_zero (by have := HFL.out; omega)
            rw [this]; rfl)
          go_wp2_with fail
          go_roundg (s.length + 1 - (s.length + 1))
          case measure => omega
          case rel => exact ⟨s.length + 1, out ++ (dash cur ++ cur ++ [10]), s.length + 1, by omega, by omega, by simp, by rw [HD.out]; simp only [bcat']; simp, by simp, by omega, HOL.out, Lib.hid ⟨fun h => by omega, fun _ => by first | exact IN.out.2 rfl | exact IN.out.2 trivial⟩, rfl⟩
end Go.Proofs.YtlchcjnbbhpiaaaGreatDoor

namespace Go.Proofs.YtlchcjnbbhpiaaaGreatDoor
open Go.RowKit Go.Shelf Go.Dg

set_option maxRecDepth 100000 in
theorem protect_ref (s : List UInt8) (w : World) (hl : s.length ≤ 100000000) : Calls Tryz.prog 35 #[enS s] w fun e w' => e = .returned (.tuple #[enS (protF s).1, i64 (protF s).2]) ∧ w = w' := by
  have V := Lib.hid (show protF s = if 1048576 < s.length then ([], 5) else if has13 s = true then ([], 6) else (prot s, 0) from rfl)
  obtain ⟨R, hR⟩ : ∃ q, protF s = q := ⟨_, rfl⟩
  rw [hR] at V ⊢
  clear hR
  have hsz : (⟨s.toArray⟩ : ByteArray).size = s.length := by show s.toArray.size = _; simp
  have HH := Lib.hid (has_ref s w (by omega))
  have HP := Lib.hid (protected_any s w hl)
  go_enter Tryz.func35, Tryz.ntmps35
  by_cases h1 : 1048576 < s.length
  · have VB : Hid (R = ([], 5)) := Lib.hid (by (show _ = _); rw [V.out, if_pos h1])
    clear V
    go_wp2_with fail
    go_ret2
    rw [VB.out]
    exact ⟨rfl, rfl⟩
  rw [if_neg h1] at V
  go_wp2_with fail
  refine HH.out.mono ?_; rintro e w1 ⟨rfl, rfl⟩
  cases q : has13 s with
  | true =>
    have VB : Hid (R = ([], 6)) := Lib.hid (by (show _ = _); rw [V.out, q]; rfl)
    clear V q
    go_wp2_with fail
    go_ret2
    rw [VB.out]
    exact ⟨rfl, rfl⟩
  | false =>
    have VB : Hid (R = (prot s, 0)) := Lib.hid (by (show _ = _); rw [V.out, q]; rfl)
    clear V q
    go_wp2_with fail
    refine HP.out.mono ?_; rintro e w2 ⟨rfl, rfl⟩
    go_wp2_with fail
    go_ret2
    rw [VB.out]
    exact ⟨rfl, rfl⟩
theorem restF_long {s : List UInt8} (h : 2097152 < s.length) : restF s = ([], 5) := by unfold restF; rw [if_pos h]
theorem restF_short {s : List UInt8} (h : ¬ 2097152 < s.length) (h2 : s.getLast? ≠ some 10) : restF s = ([], 4) := by unfold restF; rw [if_neg h, if_pos h2]
theorem restF_cr {s : List UInt8} (h : ¬ 2097152 < s.length) (h2 : s.getLast? = some 10) (h3 : has13 s = true) : restF s = ([], 6) := by unfold restF; rw [if_neg h, if_neg (by simpa using h2), if_pos h3]
set_option maxRecDepth 100000 in
set_option maxHeartbeats 8000000 in
theorem restore_ref (s : List UInt8) (w : World) (hl : s.length ≤ 100000000) : Calls Tryz.prog 37 #[enS s] w fun e w' => e = .returned (.tuple #[enS (restF s).1, i64 (restF s).2]) ∧ w = w' := by
  obtain ⟨R, hR⟩ : ∃ q, restF s = q := ⟨_, rfl⟩
  rw [hR]
  have HR := Lib.hid hR
  clear hR
  have hsz : (⟨s.toArray⟩ : ByteArray).size = s.length := by show s.toArray.size = _; simp
  have HH := Lib.hid (has_ref s w (by omega))
  go_enter Tryz.func37, Tryz.ntmps37
  by_cases h1 : 2097152 < s.length
  · have VB : Hid (R = ([], 5)) := Lib.hid (HR.out.symm.trans (restF_long h1))
    go_wp2_with fail
    go_ret2
    rw [VB.out]
    exact ⟨rfl, rfl⟩
  by_cases h0 : s = []
  · subst h0
    have VB : Hid (R = ([], 4)) := Lib.hid (HR.out.symm.trans (restF_short h1 (by simp)))
    go_wp2_with fail
    go_ret2
    rw [VB.out]
    exact ⟨rfl, rfl⟩
  have hne : s.isEmpty = false := by cases s with | nil => exact absurd rfl h0 | cons _ _ => rfl
  have hpos := List.length_pos_iff.2 h0
  have bgl := bget (t := s) (p := s.length - 1) (show s.length - 1 < s.toArray.size by simp; omega) (by omega)
  obtain ⟨c, hc⟩ : ∃ c, s.getD (s.length - 1) 0 = c := ⟨_, rfl⟩
  rw [hc] at bgl
  have HL : Hid (s.getLast? = some c) := Lib.hid (by
    (show _ = _)
    rw [List.getLast?_eq_getElem?, ← hc]
    simp [List.getD, show s.length - 1 < s.length by omega])
  clear hc h0
  by_cases h10 : c = 10
  case neg =>
    obtain ⟨q1, q2⟩ := u8_not 10 10 rfl h10
    have VB : Hid (R = ([], 4)) := Lib.hid (HR.out.symm.trans (restF_short h1 (by rw [HL.out]; simpa using h10)))
    clear h10
    go_wp2_with fail
    go_ret2
    rw [VB.out]
    exact ⟨rfl, rfl⟩
  obtain ⟨q1, q2⟩ := u8_is 10 10 rfl h10
  have HL2 : Hid (s.getLast? = some 10) := Lib.hid (by (show _ = _); rw [HL.out, h10])
  clear h10
  go_wp2_with fail
  refine HH.out.mono ?_; rintro e w1 ⟨rfl, rfl⟩
  cases q : has13 s with
  | true =>
    have VB : Hid (R = ([], 6)) := Lib.hid (HR.out.symm.trans (restF_cr h1 HL2.out q))
    clear q
    go_wp2_with fail
    go_ret2
    rw [VB.out]
    exact ⟨rfl, rfl⟩
  | false =>
  have H13 := Lib.hid q
  clear q bgl q1 q2 HH HL
  go_wp2_with fail
  go_loopg [4, 5, 6, 7, 8] s.length (fun gg ov fv iv _ _ wr => ∃ (k : Nat) (out : List UInt8) (f : Nat), k ≤ s.length ∧ s.length - k ≤ gg ∧ iv = i64 k ∧ ov = enS out ∧ fv = i64 f ∧ f ≤ k ∧ out.length ≤ 1000000000 ∧ Hid (outR (s.take k) = some out ∧ f = frm (s.take k)) ∧ wr = w)
  case atStart => exact ⟨0, [], 0, by omega, by omega, rfl, rfl, rfl, Nat.le_refl _, by simp, Lib.hid ⟨rfl, rfl⟩, rfl⟩
  case round =>
    obtain ⟨k, out, f, hk, hgg, rfl, rfl, rfl, hfk, hol, II, rfl⟩ := hrel
    by_cases hlt : k < s.length
    · have bg := bget (t := s) (p := k) (show k < s.toArray.size by simpa using hlt) hlt
      obtain ⟨c, hc⟩ : ∃ c, s.getD k 0 = c := ⟨_, rfl⟩
      rw [hc] at bg
      have hsk : s[k] = c := by rw [← hc]; simp [List.getD, hlt]
      have HTK : Hid (s.take (k + 1) = s.take k ++ [c]) := Lib.hid (by (show _ = _); rw [List.take_succ_eq_append_getElem hlt, hsk])
      have HSP : Hid (s = s.take k ++ c :: s.drop (k + 1)) := Lib.hid (by (show _ = _); rw [← hsk, ← List.drop_eq_getElem_cons hlt, List.take_append_drop])
      clear hc hsk
      by_cases h10 : c = 10
      case neg =>
        obtain ⟨q1, q2⟩ := u8_not 10 10 rfl h10
        have IN : Hid (outR (s.take (k + 1)) = some out ∧ f = frm (s.take (k + 1))) := Lib.hid (by
          (show _ ∧ _)
          rw [HTK.out, outR_ne _ h10, frm_ne _ h10]; exact II.out)
        clear h10 II
        go_wp2_with fail
        go_roundg (s.length - (k + 1))
        case measure => omega
        case rel => exact ⟨k + 1, out, f, by omega, by omega, by simp, rfl, rfl, by omega, hol, IN, rfl⟩
      case pos =>
        obtain ⟨q1, q2⟩ := u8_is 10 10 rfl h10
        have hk2 : (s.take k).length = k := by rw [List.length_take]; omega
        obtain ⟨cur, hcur⟩ : ∃ q, curL (s.take k) = q := ⟨_, rfl⟩
        have hfl := frm_le (s.take k)
        rw [hcur, ← II.out.2, hk2] at hfl
        have hext : (⟨s.toArray⟩ : ByteArray).extract f k = ⟨cur.toArray⟩ := by rw [ext_mid, II.out.2, cur_eq, hcur]
        have HC := Lib.hid hcur
        have H10 := Lib.hid h10
        have hcl : cur.length ≤ 100000000 := by omega
        have HRS := Lib.hid (restored_any cur wr (by omega))
        clear hcur h10 hk2 hfl
        go_wp2_with fail
        refine HRS.out.mono ?_; rintro e w1 ⟨rfl, rfl⟩
        clear HRS
        unfold unV
        cases hu : unprot cur with
        | none =>
          have VB : Hid (R = ([], 3)) := Lib.hid (HR.out.symm.trans (outR_fail II.out.1 (by rw [HC.out]; exact hu) (by rw [← H10.out]; exact HSP.out) h1 HL2.out H13.out))
          clear hu
          simp only
          go_wp2_with fail
          go_ret2
          rw [VB.out]
          exact ⟨rfl, rfl⟩
        | some p =>
          have hnl := outR_nl II.out.1
          rw [HC.out, hu, Option.map_some, ← II.out.2] at hnl
          have IN2 : Hid (outR (s.take (k + 1)) = some ((if 0 < f then out ++ [10] else out) ++ p) ∧ k + 1 = frm (s.take (k + 1))) := Lib.hid (by
            (show _ ∧ _)
            rw [HTK.out, H10.out, frm_nl, List.length_take, Nat.min_eq_left (by omega)]
            exact ⟨hnl, rfl⟩)
          have hol2 := outR_len IN2.out.1
          have htl := List.length_take_le (k + 1) s
          have hpl := unprot_le hu
          have HOL : Hid (((if 0 < f then out ++ [10] else out) ++ p).length ≤ 1000000000) := Lib.hid (by (show _ ≤ _); omega)
          have hpz : (⟨p.toArray⟩ : ByteArray).size = p.length := by show p.toArray.size = _; simp
          have hoz : (⟨out.toArray⟩ : ByteArray).size = out.length := by show out.toArray.size = _; simp
          have hpl2 : p.length ≤ 100000000 := by omega
          clear hnl hol2 htl hpl hu II hext
          simp only
          by_cases hf0 : 0 < f
          · rw [if_pos hf0] at IN2 HOL
            go_wp2_with fail
            go_roundg (s.length - (k + 1))
            case measure => omega
            case rel => exact ⟨k + 1, out ++ [10] ++ p, k + 1, by omega, by omega, by simp, by simp only [bcat'], by simp, by omega, HOL.out, IN2, rfl⟩
          · rw [if_neg hf0] at IN2 HOL
            go_wp2_with fail
            go_roundg (s.length - (k + 1))
            case measure => omega
            case rel => exact ⟨k + 1, out ++ p, k + 1, by omega, by omega, by simp, by simp only [bcat'], by simp, by omega, HOL.out, IN2, rfl⟩
    · obtain rfl : k = s.length := by omega
      have h := II.out.1
      rw [List.take_length] at h
      have VB : Hid (R = (out, 0)) := Lib.hid (HR.out.symm.trans (outR_end h h1 HL2.out H13.out))
      clear h II
      go_wp2_with fail
      go_ret2
      rw [VB.out]
      exact ⟨rfl, rfl⟩
end Go.Proofs.YtlchcjnbbhpiaaaGreatDoor
