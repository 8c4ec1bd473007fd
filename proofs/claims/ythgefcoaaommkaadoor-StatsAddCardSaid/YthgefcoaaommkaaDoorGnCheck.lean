/- Contracts: isComponent, parts, the closures of Check and Join, Check, Split. -/
import Derived.Test.YthgefcoaaommkaaDoorGnComp
import Derived.Test.YthgefcoaaommkaaDoorGnApp
import Derived.Test.YthgefcoaaommkaaDoorShelf
namespace Go.Proofs.YthgefcoaaommkaaDoor
open Go.RowKit Go.Gn

theorem bytesWorld_below (w : World) (e : TypeId) (s : ByteArray) : Below w.heap.size w (Lib.bytesWorld w e s) :=
  ⟨rfl, rfl, rfl, by rw [Lib.bytesWorld_size]; omega, fun j hj => Lib.bytesWorld_at_old w e s j hj⟩
theorem bytesWorld_bytes (w : World) (e : TypeId) (s : List UInt8) : ∀ (j : Nat) x, s[j]? = some x → (Lib.bytesWorld w e ⟨s.toArray⟩).cell? ⟨w.heap.size, j, none⟩ = some (.int .u8 x.toNat) := fun j x hj => by
  obtain ⟨hl, hx⟩ := List.getElem?_eq_some_iff.1 hj
  rw [Lib.bytesWorld_cell w e ⟨s.toArray⟩ j (show j < s.toArray.size by simpa using hl)]
  simp [hl, hx]
theorem any_not_all {α : Type} (p : α → Bool) (l : List α) : (!l.any fun c => !p c) = l.all p := by
  induction l with
  | nil => rfl
  | cons a l ih => simp only [List.any_cons, List.all_cons, Bool.not_or, Bool.not_not, ih]

set_option maxRecDepth 100000 in
set_option maxHeartbeats 1000000 in
theorem isComponent_any (s : List UInt8) (w : World) (hl : s.length ≤ 1000000000) : Calls Tryd.prog 69 #[enS s] w fun e w' => e = .returned (.bool (comp s)) ∧ Below w.heap.size w w' := by
  by_cases h0 : s = []
  · subst h0
    have V : Hid (comp [] = false) := by (show comp [] = false); rfl
    go_enter Tryd.func69, Tryd.ntmps69
    go_wp2
    go_ret
    exact ⟨ret_bool V.out.symm, Below.refl _ _⟩
  · have hne : (!s.isEmpty) = true := by cases s with | nil => exact absurd rfl h0 | cons _ _ => rfl
    have hne2 : s.isEmpty = false := by cases s with | nil => exact absurd rfl h0 | cons _ _ => rfl
    have hpos : 0 < s.length := List.length_pos_iff.2 h0
    by_cases h20 : 20 < s.length
    · have V : Hid (comp s = false) := by (show comp s = false); unfold comp; rw [show decide (s.length ≤ 20) = false by simp; omega]; simp
      go_enter Tryd.func69, Tryd.ntmps69
      go_wp2
      go_ret
      exact ⟨ret_bool V.out.symm, Below.refl _ _⟩
    · have bg := bget (t := s) (p := 0) (show 0 < s.toArray.size by simpa using hpos) hpos
      obtain ⟨c, hc⟩ : ∃ c, s.getD 0 0 = c := ⟨_, rfl⟩
      rw [hc] at bg
      have HC := Lib.hid hc; clear hc
      have h1 := isLower_any c w
      cases hq : isLow c with
      | false =>
        have V : Hid (comp s = false) := by (show comp s = false); unfold comp; rw [HC.out, hq]; simp
        rw [hq] at h1
        clear hq HC
        go_enter Tryd.func69, Tryd.ntmps69
        go_wp2_with (go_at_call 80; refine h1.mono ?_; rintro e w1 ⟨rfl, rfl⟩)
        go_ret
        exact ⟨ret_bool V.out.symm, Below.refl _ _⟩
      | true =>
        have V : Hid (comp s = !s.any fun c => !okB c) := by
          show comp s = _
          rw [any_not_all]; unfold comp; rw [HC.out, hq, show decide (s.length ≤ 20) = true by simp; omega, show decide (1 ≤ s.length) = true by simp; omega]; rfl
        rw [hq] at h1
        clear hq HC
        have hconv := Lib.run_convert_string_bytes (P := Tryd.prog) w 9 81 5 ⟨s.toArray⟩ Tryd.underlying9 Tryd.underlying81 Tryd.underlying5
        have hcf := contFunc_byte w.heap.size (grownCap w s.length 0 5) s (Lib.bytesWorld w 5 ⟨s.toArray⟩) hl (bytesWorld_bytes w 5 s)
        have hb := bytesWorld_below w 5 ⟨s.toArray⟩
        generalize (s.any fun c => !okB c) = r at *
        go_enter Tryd.func69, Tryd.ntmps69
        go_wp2_with (go_at_call 80; refine h1.mono ?_; rintro e w1 ⟨rfl, rfl⟩)
        refine hcf.mono ?_; rintro e w1 ⟨rfl, rfl⟩
        go_wp2
        go_ret
        exact ⟨ret_bool V.out.symm, hb⟩

/-- strings.Split at one byte. -/
theorem split_eq (c : UInt8) (s : List UInt8) : Lib.countB ⟨s.toArray⟩ ⟨#[c]⟩ + 1 = (parts c s).length ∧ (Lib.splitB ⟨#[c]⟩ 0 (Lib.countB ⟨s.toArray⟩ ⟨#[c]⟩) ⟨s.toArray⟩).map Value.string = (parts c s).map enS := by
  have hd := Lib.splitB_data ⟨#[c]⟩ 0 (Lib.countB ⟨s.toArray⟩ ⟨#[c]⟩) ⟨s.toArray⟩
  have hs : Lib.splitK [c] 0 (Lib.countB ⟨s.toArray⟩ ⟨#[c]⟩) s = parts c s := by
    rw [← split_parts]; rfl
  have hd' : (Lib.splitB ⟨#[c]⟩ 0 (Lib.countB ⟨s.toArray⟩ ⟨#[c]⟩) ⟨s.toArray⟩).map (·.data.toList) = parts c s := by
    rw [hd, ← hs]
  refine ⟨?_, ?_⟩
  · have := Lib.splitB_all ⟨#[c]⟩ (Nat.le_refl 1) 0 _ ⟨s.toArray⟩ rfl
    rw [← this, ← hd', List.length_map]
  · rw [← hd', List.map_map]
    rfl
theorem split_any (c : UInt8) (s : List UInt8) (w : World) (hE : Env w) (hl : s.length ≤ 1000000000) :
    Calls Tryd.prog 78 #[enS s, .string ⟨#[c]⟩] w fun e w' => e = .returned (.slice (some ⟨w.heap.size, 0, none⟩) (parts c s).length (parts c s).length) ∧ w' = w.alloc (.cells ((parts c s).map enS).toArray 9) := by
  obtain ⟨m, hm⟩ := hE
  have h := Tryd.strings_Split ⟨s.toArray⟩ ⟨#[c]⟩ m w (show s.toArray.size < _ by simp; omega) hm (Nat.le_refl 1)
  rw [(split_eq c s).1, (split_eq c s).2] at h
  exact h

set_option maxHeartbeats 400000 in
theorem parts_any (s : List UInt8) (w : World) (hE : Env w) (hl : s.length ≤ 1000000000) :
    Calls Tryd.prog 66 #[enS s] w fun e w' => e = .returned (.slice (some ⟨w.heap.size, 0, none⟩) (parts 46 s).length (parts 46 s).length) ∧ w' = w.alloc (.cells ((parts 46 s).map enS).toArray 9) := by
  have h := split_any 46 s w hE hl
  generalize parts 46 s = ps at *
  go_enter Tryd.func66, Tryd.ntmps66
  go_wp2_with fail
  refine h.mono ?_; rintro e w1 ⟨rfl, rfl⟩
  go_wp2_with fail
  go_ret
  exact ⟨rfl, rfl⟩

set_option maxHeartbeats 400000 in
theorem check1_any (s : List UInt8) (w : World) (hl : s.length ≤ 1000000000) : Calls Tryd.prog 68 #[enS s] w fun e w' => e = .returned (.bool (!comp s)) ∧ Below w.heap.size w w' := by
  have h := isComponent_any s w hl
  generalize comp s = r at *
  go_enter Tryd.func68, Tryd.ntmps68
  go_wp2_with fail
  refine h.mono ?_; rintro e w1 ⟨rfl, b1⟩
  go_wp2_with fail
  go_ret
  exact ⟨rfl, b1⟩

set_option maxRecDepth 100000 in
set_option maxHeartbeats 1000000 in
theorem check_any (s : List UInt8) (w : World) (hE : Env w) (hl : s.length ≤ 1000000000) : Calls Tryd.prog 52 #[enS s] w fun e w' => e = .returned (.int .i64 (check s)) ∧ Below w.heap.size w w' := by
  by_cases h80 : 80 < s.length
  · have V : Hid (check s = 5) := by (show check s = 5); unfold check; rw [if_pos h80]
    go_enter Tryd.func52, Tryd.ntmps52
    go_wp2
    go_ret
    exact ⟨ret_int (by rw [V.out]; rfl), Below.refl _ _⟩
  · have hp := parts_any s w hE hl
    have hb := below_new w (.cells ((parts 46 s).map enS).toArray 9)
    have hn := parts_length_le 46 s
    have hcf := contFunc_str 68 (enters_of Tryd.func68 (by kernel_rfl) rfl) (fun p => !comp p) (some ⟨w.heap.size, 0, none⟩) (parts 46 s).length (parts 46 s) (w.alloc (.cells ((parts 46 s).map enS).toArray 9)) (by omega) (Rd.new w _ 9)
      (fun x hx W _ => check1_any x W (by have := parts_le 46 s x hx; omega))
    have V : Hid (check s = if (parts 46 s).any (fun p => !comp p) then 12 else if 10 < (parts 46 s).length then 9 else 0) := by (show check s = _); unfold check; rw [if_neg h80]
    generalize (parts 46 s).any (fun p => !comp p) = r at *
    generalize parts 46 s = ps at *
    cases r with
    | true =>
      go_enter Tryd.func52, Tryd.ntmps52
      go_wp2_with fail
      refine hp.mono ?_; rintro e w1 ⟨rfl, rfl⟩
      go_wp2_with fail
      refine hcf.mono ?_; rintro e w1 ⟨rfl, b1⟩
      go_wp2_with fail
      go_ret
      exact ⟨ret_int (by rw [V.out]; rfl), hb.tr b1⟩
    | false =>
      by_cases h10 : 10 < ps.length
      · go_enter Tryd.func52, Tryd.ntmps52
        go_wp2_with fail
        refine hp.mono ?_; rintro e w1 ⟨rfl, rfl⟩
        go_wp2_with fail
        refine hcf.mono ?_; rintro e w1 ⟨rfl, b1⟩
        go_wp2_with fail
        go_ret
        exact ⟨ret_int (by rw [V.out, if_neg Bool.false_ne_true, if_pos h10]; rfl), hb.tr b1⟩
      · go_enter Tryd.func52, Tryd.ntmps52
        go_wp2_with fail
        refine hp.mono ?_; rintro e w1 ⟨rfl, rfl⟩
        go_wp2_with fail
        refine hcf.mono ?_; rintro e w1 ⟨rfl, b1⟩
        go_wp2_with fail
        go_ret
        exact ⟨ret_int (by rw [V.out, if_neg Bool.false_ne_true, if_neg h10]; rfl), hb.tr b1⟩
end Go.Proofs.YthgefcoaaommkaaDoor
