/- Contracts: Split, Parent, Within; the reference's Within. -/
import Derived.Test.YtcagooijkecmoaaDoorGnSame
import Derived.Lib.LastIndexByte
namespace Go.Proofs.YtcagooijkecmoaaDoor
open Go.RowKit Go.Gn

theorem check_ok {s : List UInt8} (h : check s = 0) (w : World) (hE : Env w) (hl : s.length ≤ 1000000000) : Calls Tryd.prog 29 #[enS s] w fun e w' => e = .returned (.int .i64 0) ∧ Below w.heap.size w w' := by
  have := check_any s w hE hl
  rw [h] at this
  exact this
theorem refCheck_ok {s : List UInt8} (h : check s = 0) (w : World) (hl : s.length ≤ 100000000) : Calls Tryd.prog 23 #[enS s] w fun e w' => e = .returned (.int .i64 0) ∧ Below w.heap.size w w' := by
  have := refCheck_any s w hl
  rw [h] at this
  exact this

/-- The call returns a slice that reads as xs and a number. -/
def Gives2 (w : World) (xs : List (List UInt8)) (n : Int) (e : Ending) (w' : World) : Prop :=
  ∃ A c, e = .returned (.tuple #[.slice A xs.length c, .int .i64 n]) ∧ Rd w' A xs ∧ xs.length ≤ c ∧ Below w.heap.size w w'
/-- What Split returns. -/
def splitS (s : List UInt8) : List (List UInt8) := if check s = 0 then parts 46 s else []

set_option maxRecDepth 100000 in
set_option maxHeartbeats 1000000 in
theorem gsplit_any (s : List UInt8) (w : World) (hE : Env w) (hl : s.length ≤ 1000000000) : Calls Tryd.prog 27 #[enS s] w (Gives2 w (splitS s) (check s)) := by
  by_cases h0 : check s = 0
  · have h1 := check_ok h0 w hE hl
    have V : Hid (splitS s = parts 46 s) := by (show splitS s = _); unfold splitS; rw [if_pos h0]
    have hp := fun W (b : Below w.heap.size w W) => parts_any s W (hE.below b) hl
    rw [h0]
    clear h0
    rw [V.out]
    generalize parts 46 s = ps at *
    have HP := Lib.hid hp; clear hp
    go_enter Tryd.func27, Tryd.ntmps27
    go_wp2_with fail
    refine h1.mono ?_; rintro e w1 ⟨rfl, b1⟩
    go_wp2_with fail
    refine (HP.out w1 b1).mono ?_; rintro e w2 ⟨rfl, rfl⟩
    go_wp2_with fail
    go_ret2
    exact ⟨_, _, rfl, Rd.new w1 ps 9, Nat.le_refl _, b1.tr (below_new _ _)⟩
  · have h1 := check_any s w hE hl
    have V : Hid (splitS s = []) := by (show splitS s = _); unfold splitS; rw [if_neg h0]
    have hne : ((check s : Int) != 0) = true := by simp; omega
    rw [V.out]
    generalize check s = r at *
    clear h0
    go_enter Tryd.func27, Tryd.ntmps27
    go_wp2_with fail
    refine h1.mono ?_; rintro e w1 ⟨rfl, b1⟩
    go_wp2_with fail
    go_ret2
    exact ⟨none, 0, rfl, Rd.nil, by simp, b1⟩

theorem parts_append (c : UInt8) (q : List UInt8) : ∀ p, parts c (p ++ c :: q) = parts c p ++ parts c q
  | [] => by simp [parts]
  | b :: p => by
    have ih := parts_append c q p
    obtain ⟨x, r, hx⟩ := List.exists_cons_of_ne_nil (parts_ne_nil c p)
    by_cases hb : b = c
    · rw [hb, List.cons_append, parts_cons_eq, parts_cons_eq, ih]; rfl
    · rw [List.cons_append, parts_cons_ne hb, parts_cons_ne hb, ih, hx]; rfl
/-- The last dot of a text: none, and there is one part; or what precedes it is the text of all parts but the last. -/
theorem lastDot (s : List UInt8) : (Lib.lastIndexByte ⟨s.toArray⟩ 46 = -1 ∧ (parts 46 s).length = 1) ∨
    (∃ i : Nat, i < s.length ∧ Lib.lastIndexByte ⟨s.toArray⟩ 46 = i ∧ 1 < (parts 46 s).length ∧ s.take i = text 46 (parts 46 s).dropLast) := by
  have get : ∀ j, j < s.length → ((⟨s.toArray⟩ : ByteArray).data[j]!) = s.getD j 0 := fun j hj => by simp [hj]
  rcases Lib.lastIndexByte_spec ⟨s.toArray⟩ 46 with ⟨h1, h2⟩ | ⟨i, hi, h1, h2, h3⟩
  · refine .inl ⟨h1, ?_⟩
    rw [parts_plain 46 s]
    · rfl
    · intro hm
      obtain ⟨j, hj, e⟩ := List.getElem_of_mem hm
      have := h2 j (show j < s.toArray.size by simpa using hj)
      rw [get j hj] at this
      simp [hj, e] at this
  · have hi' : i < s.length := by
      have : i < s.toArray.size := hi
      simpa using this
    refine .inr ⟨i, hi', h1, ?_⟩
    rw [get i hi'] at h2
    have e1 : s[i] = 46 := by
      have : (s.getD i 0).toNat = (46 : UInt8).toNat := by simp at h2 ⊢; omega
      have := UInt8.toNat_inj.1 this
      simpa [hi'] using this
    have es : s = s.take i ++ 46 :: s.drop (i + 1) := by
      rw [← e1]; simp
    have hq : (46 : UInt8) ∉ s.drop (i + 1) := fun hm => by
      obtain ⟨j, hj, e⟩ := List.getElem_of_mem hm
      rw [List.getElem_drop] at e
      simp at hj
      have := h3 (i + 1 + j) (by omega) (show i + 1 + j < s.toArray.size by simp; omega)
      rw [get _ (by omega)] at this
      simp [show i + 1 + j < s.length by omega, e] at this
    have ep : parts 46 s = parts 46 (s.take i) ++ [s.drop (i + 1)] := by
      have := parts_append 46 (s.drop (i + 1)) (s.take i)
      rw [← es, parts_plain 46 _ hq] at this
      exact this
    have := parts_pos 46 (s.take i)
    rw [ep]
    refine ⟨by simp; omega, ?_⟩
    rw [List.dropLast_concat, text_parts]
/-- What Parent returns. -/
def parentB (s : List UInt8) : Bool := decide (check s = 0) && decide (1 < (parts 46 s).length)
def parentS (s : List UInt8) : List UInt8 := if parentB s then text 46 (parts 46 s).dropLast else []
theorem ext0 (s : List UInt8) (i : Nat) : (⟨s.toArray⟩ : ByteArray).extract 0 i = ⟨(s.take i).toArray⟩ := by
  apply ByteArray.ext
  rw [ByteArray.data_extract]
  apply Array.toList_inj.1
  simp

set_option maxRecDepth 100000 in
set_option maxHeartbeats 1000000 in
theorem parent_any (s : List UInt8) (w : World) (hE : Env w) (hl : s.length ≤ 1000000000) : Calls Tryd.prog 28 #[enS s] w fun e w' => e = .returned (.tuple #[enS (parentS s), .bool (parentB s)]) ∧ Below w.heap.size w w' := by
  have hd := Tryd.strings_LastIndexByte ⟨s.toArray⟩ 46 (show s.toArray.size < _ by simp; omega) w
  by_cases h0 : check s = 0
  · have h1 := check_ok h0 w hE hl
    rcases lastDot s with ⟨d1, d2⟩ | ⟨i, hi, d1, d2, d3⟩
    · have VB : Hid (parentB s = false) := by (show parentB s = false); unfold parentB; rw [decide_eq_false (show ¬ 1 < (parts 46 s).length by omega)]; simp
      have VS : Hid (parentS s = []) := by (show parentS s = []); unfold parentS; rw [VB.out, if_neg Bool.false_ne_true]
      rw [d1] at hd
      clear h0 d1 d2 hE
      go_enter Tryd.func28, Tryd.ntmps28
      go_wp2_with fail
      refine hd.mono ?_; rintro e w1 ⟨rfl, rfl⟩
      go_wp2_with fail
      refine h1.mono ?_; rintro e w1 ⟨rfl, b1⟩
      go_wp2_with fail
      go_ret2
      exact ⟨by rw [VB.out, VS.out]; rfl, b1⟩
    · have VB : Hid (parentB s = true) := by (show parentB s = true); unfold parentB; rw [h0, decide_eq_true d2]; rfl
      have VS : Hid (parentS s = s.take i) := by (show parentS s = _); unfold parentS; rw [VB.out, if_pos rfl, d3]
      have hx := ext0 s i
      rw [d1] at hd
      clear h0 d1 d2 d3 hE
      have hi2 : (i : Int) ≤ s.length := by omega
      go_enter Tryd.func28, Tryd.ntmps28
      go_wp2_with fail
      refine hd.mono ?_; rintro e w1 ⟨rfl, rfl⟩
      go_wp2_with fail
      refine h1.mono ?_; rintro e w1 ⟨rfl, b1⟩
      go_wp2_with fail
      go_ret2
      exact ⟨by rw [VB.out, VS.out]; rfl, b1⟩
  · have h1 := check_any s w hE hl
    have VB : Hid (parentB s = false) := by (show parentB s = false); unfold parentB; rw [decide_eq_false h0]; rfl
    have VS : Hid (parentS s = []) := by (show parentS s = []); unfold parentS; rw [VB.out, if_neg Bool.false_ne_true]
    have hne : ((check s : Int) != 0) = true := by simp; omega
    generalize check s = r at *
    generalize Lib.lastIndexByte ⟨s.toArray⟩ 46 = d at *
    clear h0 hE
    go_enter Tryd.func28, Tryd.ntmps28
    go_wp2_with fail
    refine hd.mono ?_; rintro e w1 ⟨rfl, rfl⟩
    go_wp2_with fail
    refine h1.mono ?_; rintro e w1 ⟨rfl, b1⟩
    go_wp2_with fail
    go_ret2
    exact ⟨by rw [VB.out, VS.out]; rfl, b1⟩

theorem hasPrefix_any (a p : List UInt8) (W : World) : Calls Tryd.prog 48 #[enS a, enS p] W fun e w' => e = .returned (.bool (Lib.hasPrefix a p)) ∧ w' = W := by
  have h := Tryd.strings_HasPrefix ⟨a.toArray⟩ ⟨p.toArray⟩ W
  have e : Lib.hasPrefix (⟨a.toArray⟩ : ByteArray).data.toList (⟨p.toArray⟩ : ByteArray).data.toList = Lib.hasPrefix a p := by simp only []
  rw [e] at h
  exact h
/-- The code's test of a hierarchy. -/
theorem within_code {a h : List UInt8} (ha : check a = 0) (hh : check h = 0) : within a h = ((a == h) || (h ++ [46]).isPrefixOf a) := by
  rw [Bool.eq_iff_iff, Gn.within_iff, ← Gn.dot_prefix]
  simp [ha, hh]

set_option maxRecDepth 100000 in
set_option maxHeartbeats 1000000 in
theorem within_any (a h : List UInt8) (w : World) (hE : Env w) (la : a.length ≤ 1000000000) (lh : h.length ≤ 1000000000) : Calls Tryd.prog 22 #[enS a, enS h] w fun e w' => e = .returned (.bool (within a h)) ∧ Below w.heap.size w w' := by
  by_cases h0 : check a = 0
  · have h1 := check_ok h0 w hE la
    by_cases k0 : check h = 0
    · have HK := Lib.hid (fun W (b : Below w.heap.size w W) => check_ok k0 W (hE.below b) lh)
      have hV := within_code h0 k0
      have hp := hasPrefix_any a (h ++ [46])
      have hc := bcat h [46]
      clear h0 k0 hE
      by_cases hah : a = h
      · subst hah
        have V : Hid (within a a = true) := by (show within a a = true); rw [hV]; simp
        clear hV hp hc
        go_enter Tryd.func22, Tryd.ntmps22
        go_wp2_with fail
        refine h1.mono ?_; rintro e w1 ⟨rfl, b1⟩
        go_wp2_with fail
        refine (HK.out w1 b1).mono ?_; rintro e w2 ⟨rfl, b2⟩
        go_wp2_with fail
        go_ret
        exact ⟨ret_bool V.out.symm, b1.tr b2⟩
      · have e1 : (a == h) = false := by simpa using hah
        have V : Hid (within a h = Lib.hasPrefix a (h ++ [46])) := by (show within a h = _); rw [hV, e1, Bool.false_or]; rfl
        clear hV hah
        generalize Lib.hasPrefix a (h ++ [46]) = r at *
        have HP := Lib.hid hp; clear hp
        go_enter Tryd.func22, Tryd.ntmps22
        go_wp2_with fail
        refine h1.mono ?_; rintro e w1 ⟨rfl, b1⟩
        go_wp2_with fail
        refine (HK.out w1 b1).mono ?_; rintro e w2 ⟨rfl, b2⟩
        go_wp2_with fail
        refine (HP.out w2).mono ?_; rintro e w3 ⟨rfl, rfl⟩
        go_wp2_with fail
        go_ret
        exact ⟨ret_bool V.out.symm, b1.tr b2⟩
    · have HK := Lib.hid (fun W (b : Below w.heap.size w W) => check_any h W (hE.below b) lh)
      have V : Hid (within a h = false) := by (show within a h = false); unfold within; rw [decide_eq_false k0]; simp
      have hne : ((check h : Int) != 0) = true := by simp; omega
      clear h0 k0 hE
      generalize check h = r at *
      go_enter Tryd.func22, Tryd.ntmps22
      go_wp2_with fail
      refine h1.mono ?_; rintro e w1 ⟨rfl, b1⟩
      go_wp2_with fail
      refine (HK.out w1 b1).mono ?_; rintro e w2 ⟨rfl, b2⟩
      go_wp2_with fail
      go_ret
      exact ⟨ret_bool V.out.symm, b1.tr b2⟩
  · have h1 := check_any a w hE la
    have V : Hid (within a h = false) := by (show within a h = false); unfold within; rw [decide_eq_false h0]; rfl
    have hne : ((check a : Int) != 0) = true := by simp; omega
    clear h0 hE
    generalize check a = r at *
    go_enter Tryd.func22, Tryd.ntmps22
    go_wp2_with fail
    refine h1.mono ?_; rintro e w1 ⟨rfl, b1⟩
    go_wp2_with fail
    go_ret
    exact ⟨ret_bool V.out.symm, b1⟩
end Go.Proofs.YtcagooijkecmoaaDoor
