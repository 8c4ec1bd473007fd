/- Contracts: cmp.Compare at texts, slices.Compare at texts, Compare of the code and of the reference. -/
import Derived.Test.YtcagooijkecmoaaDoorGnCheck
import Derived.Test.YtcagooijkecmoaaDoorGnRef3
namespace Go.Proofs.YtcagooijkecmoaaDoor
open Go.RowKit Go.Gn

set_option maxHeartbeats 400000 in
theorem isNaN_str (a : List UInt8) (w : World) : Calls Tryd.prog 79 #[enS a] w fun e w' => e = .returned (.bool false) ∧ w = w' := by
  go_enter Tryd.func79, Tryd.ntmps79
  go_wp2
  go_ret
  exact ⟨by simp, rfl⟩

theorem bless_scmp : ∀ a b : List UInt8, Op.bytesLess a b = decide (scmp a b < 0)
  | [], [] => rfl
  | [], _ :: _ => rfl
  | _ :: _, [] => rfl
  | a :: x, b :: y => by
    have ih := bless_scmp x y
    have z := bcmp_lin.zero a b
    unfold Op.bytesLess
    rw [ih]
    show _ = decide (lex bcmp (a :: x) (b :: y) < 0)
    unfold lex
    split
    · rename_i e
      obtain rfl := z.1 e
      simp [UInt8.lt_irrefl, scmp]
      rfl
    · rename_i e
      have hne : a ≠ b := fun h => e (z.2 h)
      have : (a == b) = false := by simpa using hne
      rw [this, Bool.false_and, Bool.or_false]
      unfold bcmp
      split
      · rename_i h; simp [h]
      · rename_i h; rw [decide_eq_false h]; split <;> rfl
/-- The order of two texts, as the code tests it. -/
theorem scmp_cases (a b : List UInt8) :
    (scmp a b = -1 ∧ Op.bytesLess a b = true ∧ (a == b) = false) ∨ (scmp a b = 0 ∧ Op.bytesLess a b = false ∧ (a == b) = true ∧ a = b) ∨ (scmp a b = 1 ∧ Op.bytesLess a b = false ∧ (a == b) = false) := by
  rw [bless_scmp]
  have h1 := scmp_lin.lo a b
  have h2 := scmp_lin.hi a b
  have h3 := scmp_lin.zero a b
  have e : scmp a b = -1 ∨ scmp a b = 0 ∨ scmp a b = 1 := by omega
  rcases e with e | e | e
  · refine .inl ⟨e, by rw [e]; rfl, ?_⟩
    simp; intro h; have := h3.2 h; omega
  · refine .inr (.inl ⟨e, by rw [e]; rfl, by simpa using h3.1 e, h3.1 e⟩)
  · refine .inr (.inr ⟨e, by rw [e]; rfl, ?_⟩)
    simp; intro h; have := h3.2 h; omega

set_option maxHeartbeats 1000000 in
theorem cmpStr_any (a b : List UInt8) (w : World) : Calls Tryd.prog 61 #[enS a, enS b] w fun e w' => e = .returned (.int .i64 (scmp a b)) ∧ w = w' := by
  rcases scmp_cases a b with ⟨h1, h2, h3⟩ | ⟨h1, h2, h3, rfl⟩ | ⟨h1, h2, h3⟩
  · have V := Lib.hid h1; clear h1
    go_enter Tryd.func61, Tryd.ntmps61
    go_wp2_with (go_at_call 79; refine (isNaN_str _ _).mono ?_; rintro e w1 ⟨rfl, rfl⟩)
    go_ret
    exact ⟨ret_int (by rw [V.out]), rfl⟩
  · have V := Lib.hid h1; clear h1
    go_enter Tryd.func61, Tryd.ntmps61
    go_wp2_with (go_at_call 79; refine (isNaN_str _ _).mono ?_; rintro e w1 ⟨rfl, rfl⟩)
    go_ret
    exact ⟨ret_int (by rw [V.out]), rfl⟩
  · have V := Lib.hid h1; clear h1
    go_enter Tryd.func61, Tryd.ntmps61
    go_wp2_with (go_at_call 79; refine (isNaN_str _ _).mono ?_; rintro e w1 ⟨rfl, rfl⟩)
    go_ret
    exact ⟨ret_int (by rw [V.out]), rfl⟩

/-- A comparison of lists, element by element. -/
theorem lex_at {α : Type} {c : α → α → Int} (hl : Lin c) : ∀ (x y : List α) (k : Nat) (a b : α), x.take k = y.take k → x[k]? = some a → y[k]? = some b → c a b ≠ 0 → lex c x y = c a b
  | [], _, k, a, b, _, h, _, _ => by simp at h
  | _ :: _, [], k, a, b, _, _, h, _ => by simp at h
  | p :: x, q :: y, k, a, b, e, h1, h2, h3 => by
    cases k with
    | zero =>
      simp at h1 h2
      subst h1 h2
      unfold lex; rw [if_neg h3]
    | succ k =>
      simp at e h1 h2
      unfold lex
      rw [if_pos ((hl.zero p q).2 e.1)]
      exact lex_at hl x y k a b e.2 h1 h2 h3
theorem lex_left {α : Type} {c : α → α → Int} (hl : Lin c) : ∀ (x y : List α), x = y.take x.length → lex c x y = if x.length < y.length then -1 else 0
  | [], [], _ => rfl
  | [], _ :: _, _ => by simp [lex]
  | p :: x, [], h => by simp at h
  | p :: x, q :: y, h => by
    simp at h
    obtain ⟨h1, h2⟩ := h
    unfold lex
    rw [if_pos ((hl.zero p q).2 h1), lex_left hl x y h2]
    simp
theorem lex_right {α : Type} {c : α → α → Int} (hl : Lin c) (x y : List α) (h : y = x.take y.length) (hlt : y.length < x.length) : lex c x y = 1 := by
  have := (lex_lin hl).anti y x
  rw [this, lex_left hl y x h, if_pos hlt]; rfl

set_option maxRecDepth 100000 in
set_option maxHeartbeats 2000000 in
/-- slices.Compare at texts. -/
theorem cmpSlices_any (A B : Option Addr) (c d : Nat) (xs ys : List (List UInt8)) (w : World) (hA : Rd w A xs) (hB : Rd w B ys) (hx : xs.length ≤ 1000000000) (hy : ys.length ≤ 1000000000) :
    Calls Tryd.prog 40 #[.slice A xs.length c, .slice B ys.length d] w fun e w' => e = .returned (.int .i64 (lex scmp xs ys)) ∧ w = w' := by
  have HA := Lib.hid hA; clear hA
  have HB := Lib.hid hB; clear hB
  go_enter Tryd.func40, Tryd.ntmps40
  go_wp2
  go_loopg [5, 6, 7, 8, 11] xs.length (fun gg _ _ _ _ iv wr => ∃ k : Nat, k ≤ xs.length ∧ k ≤ ys.length ∧ xs.length - k ≤ gg ∧ iv = .int .i64 k ∧ w = wr ∧ Hid (xs.take k = ys.take k))
  case atStart => exact ⟨0, by omega, by omega, by omega, rfl, rfl, rfl⟩
  case round =>
    obtain ⟨k, hk, hk2, hg, rfl, rfl, T⟩ := hrel
    by_cases hlt : k < xs.length
    · obtain ⟨b, o, x, rfl, _, hxk, hcell⟩ := HA.out.at_ hlt
      have HX := Lib.hid hxk; clear hxk
      by_cases hlt2 : k < ys.length
      · obtain ⟨b2, o2, y, rfl, _, hyk, hcell2⟩ := HB.out.at_ hlt2
        have HY := Lib.hid hyk; clear hyk
        have hc := cmpStr_any x y w
        by_cases hz : scmp x y = 0
        · rw [hz] at hc
          have hxy : x = y := (scmp_lin.zero x y).1 hz
          clear hz
          subst hxy
          go_wp2_with (go_at_call 61; refine hc.mono ?_; rintro e w1 ⟨rfl, rfl⟩)
          go_roundg (xs.length - (k + 1))
          case measure => omega
          case rel =>
            refine ⟨k + 1, by omega, by omega, by omega, by go_num, rfl, ?_⟩
            show xs.take (k + 1) = ys.take (k + 1)
            obtain ⟨l1, e1⟩ := List.getElem?_eq_some_iff.1 HX.out
            obtain ⟨l2, e2⟩ := List.getElem?_eq_some_iff.1 HY.out
            rw [List.take_succ_eq_append_getElem l1, List.take_succ_eq_append_getElem l2, T.out, e1, e2]
        · have hne : (scmp x y != 0) = true := by simpa using hz
          have V : Hid (lex scmp xs ys = scmp x y) := lex_at scmp_lin xs ys k x y T.out HX.out HY.out hz
          generalize scmp x y = r at *
          clear hz
          go_wp2_with (go_at_call 61; refine hc.mono ?_; rintro e w1 ⟨rfl, rfl⟩)
          go_ret
          exact ⟨ret_int (by rw [V.out]), rfl⟩
      · obtain rfl : k = ys.length := by omega
        rw [List.take_length] at T
        have V : Hid (lex scmp xs ys = 1) := lex_right scmp_lin xs ys T.out.symm hlt
        go_wp2
        go_ret
        exact ⟨ret_int (by rw [V.out]), rfl⟩
    · obtain rfl : k = xs.length := by omega
      rw [List.take_length] at T
      have V : Hid (lex scmp xs ys = if xs.length < ys.length then -1 else 0) := lex_left scmp_lin xs ys T.out
      by_cases h2 : xs.length < ys.length
      · go_wp2
        go_ret
        exact ⟨ret_int (by rw [V.out, if_pos h2]), rfl⟩
      · go_wp2
        go_ret
        exact ⟨ret_int (by rw [V.out, if_neg h2]), rfl⟩

set_option maxRecDepth 100000 in
set_option maxHeartbeats 1000000 in
theorem compare_any (a b : List UInt8) (w : World) (hE : Env w) (ha : a.length ≤ 100000000) (hb : b.length ≤ 100000000) :
    Calls Tryd.prog 15 #[enS a, enS b] w fun e w' => e = .returned (.int .i64 (gcmp a b)) ∧ w' = (w.alloc (.cells ((parts 46 a).map enS).toArray 9)).alloc (.cells ((parts 46 b).map enS).toArray 9) := by
  have la := parts_length_le 46 a
  have lb := parts_length_le 46 b
  have b1 := below_new w (.cells ((parts 46 a).map enS).toArray 9)
  have h1 := parts_any a w hE (by omega)
  have h2 := parts_any b _ (hE.below b1) (by omega)
  have h3 := cmpSlices_any (some ⟨w.heap.size, 0, none⟩) (some ⟨(w.alloc (.cells ((parts 46 a).map enS).toArray 9)).heap.size, 0, none⟩) (parts 46 a).length (parts 46 b).length (parts 46 a) (parts 46 b) _ ((Rd.new w (parts 46 a) 9).below (below_new _ _)) (Rd.new _ (parts 46 b) 9) (by omega) (by omega)
  have hs : (w.alloc (.cells ((parts 46 a).map enS).toArray 9)).heap.size = w.heap.size + 1 := by simp
  rw [hs] at h2 h3
  clear hs
  have V : Hid (gcmp a b = lex scmp (parts 46 a) (parts 46 b)) := rfl
  generalize gcmp a b = r at *
  generalize parts 46 a = xs at *
  generalize parts 46 b = ys at *
  clear b1 hE
  go_enter Tryd.func15, Tryd.ntmps15
  go_wp2_with fail
  refine h1.mono ?_; rintro e w1 ⟨rfl, rfl⟩
  go_wp2_with fail
  refine h2.mono ?_; rintro e w1 ⟨rfl, rfl⟩
  go_wp2_with fail
  refine h3.mono ?_; rintro e w1 ⟨rfl, rfl⟩
  go_wp2_with fail
  go_ret
  exact ⟨ret_int (by rw [V.out]), rfl⟩
end Go.Proofs.YtcagooijkecmoaaDoor
