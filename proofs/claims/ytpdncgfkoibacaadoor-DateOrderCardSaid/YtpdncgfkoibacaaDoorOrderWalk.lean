/- The walk of DateOrder: for every two numbers the law returns true. -/
import Derived.Test.YtpdncgfkoibacaaDoorParseAny
import Derived.Test.YtpdncgfkoibacaaDoorRefFrom
import Derived.Test.YtpdncgfkoibacaaDoorOrder
namespace Go.Proofs.YtpdncgfkoibacaaDoor
open Go.RowKit
open Cal

set_option maxRecDepth 100000 in
set_option maxHeartbeats 2000000 in
theorem dateOrder_no (a b : Int) (w : World) (ht : Tab w) (hv : vld a = false ∨ (vld a = true ∧ vld b = false)) :
    Calls Tryd.prog 7 #[.int .i64 a, .int .i64 b] w fun e w' => e = .returned (.bool true) ∧ Below w.heap.size w w' := by
  have HT := Lib.hid ht; clear ht
  rcases hv with hv | ⟨hv, hu⟩
  · cases hu : vld b with
    | false =>
      go_enter Tryd.func7, Tryd.ntmps7
      go_wp2_with fail
      refine (known_any _ HT.out).mono ?_; rintro e w1 ⟨rfl, b1⟩
      go_wp2_with fail
      refine (toCivil_no a _ hv).mono ?_; rintro e w2 ⟨rfl, b2⟩
      have c2 := b1.trans (b2.mono b1.size); clear b1 b2
      go_wp2_with fail
      refine (toCivil_no b _ hu).mono ?_; rintro e w3 ⟨rfl, b3⟩
      have c2' := c2.alloc c2.size (.cells #[.int .i64 0, .int .i64 0, .int .i64 0, .int .i64 0, .int .i64 0] 24)
      have c3 := c2'.trans (b3.mono c2'.size); clear c2 b3 c2'
      go_wp2_with fail
      refine (refValid_any _ _).mono ?_; rintro e w4 ⟨rfl, rfl⟩
      go_wp2_with fail
      go_ret
      exact ⟨rfl, c3.alloc c3.size _⟩
    | true =>
      have v := vld_true hu
      go_enter Tryd.func7, Tryd.ntmps7
      go_wp2_with fail
      refine (known_any _ HT.out).mono ?_; rintro e w1 ⟨rfl, b1⟩
      go_wp2_with fail
      refine (toCivil_no a _ hv).mono ?_; rintro e w2 ⟨rfl, b2⟩
      have c2 := b1.trans (b2.mono b1.size); clear b1 b2
      go_wp2_with fail
      refine (toCivil_yes b _ v.1 v.2).mono ?_; rintro e w3 ⟨rfl, b3⟩
      have c2' := c2.alloc c2.size (.cells #[.int .i64 0, .int .i64 0, .int .i64 0, .int .i64 0, .int .i64 0] 24)
      have c3 := c2'.trans (b3.mono c2'.size); clear c2 b3 c2'
      go_wp2_with fail
      refine (refValid_any _ _).mono ?_; rintro e w4 ⟨rfl, rfl⟩
      go_wp2_with fail
      go_ret
      exact ⟨rfl, c3.alloc c3.size _⟩
  · have v := vld_true hv
    go_enter Tryd.func7, Tryd.ntmps7
    go_wp2_with fail
    refine (known_any _ HT.out).mono ?_; rintro e w1 ⟨rfl, b1⟩
    go_wp2_with fail
    refine (toCivil_yes a _ v.1 v.2).mono ?_; rintro e w2 ⟨rfl, b2⟩
    have c2 := b1.trans (b2.mono b1.size); clear b1 b2
    go_wp2_with fail
    refine (toCivil_no b _ hu).mono ?_; rintro e w3 ⟨rfl, b3⟩
    have c2' := c2.alloc c2.size (.cells #[.int .i64 (civY (a / 1440)), .int .i64 (civM (a / 1440)), .int .i64 (civD (a / 1440)), .int .i64 (a % 1440 / 60), .int .i64 (a % 60)] 24)
    have c3 := c2'.trans (b3.mono c2'.size); clear c2 b3 c2'
    go_wp2_with fail
    refine (refValid_any _ _).mono ?_; rintro e w4 ⟨rfl, rfl⟩
    go_wp2_with fail
    refine (refValid_any _ _).mono ?_; rintro e w4 ⟨rfl, rfl⟩
    go_wp2_with fail
    go_ret
    exact ⟨rfl, c3.alloc c3.size _⟩

theorem five_cells {w : World} {b : Nat} (X : Nat → Int) {t : TypeId} (h : w.heap[b]? = some (.cells #[.int .i64 (X 0), .int .i64 (X 1), .int .i64 (X 2), .int .i64 (X 3), .int .i64 (X 4)] t (0, 0))) (k : Nat) (hk : k < 5) :
    w.cell? ⟨b, k, none⟩ = some (.int .i64 (X k)) := by
  rw [blk_cell h]
  have hk' : k = 0 ∨ k = 1 ∨ k = 2 ∨ k = 3 ∨ k = 4 := by omega
  rcases hk' with rfl | rfl | rfl | rfl | rfl <;> rfl

set_option maxRecDepth 100000 in
set_option maxHeartbeats 4000000 in
theorem dateOrder_case (a b : Int) (X Y : Nat → Int) (w : World) (ht : Tab w)
    (h1 : ∀ w : World, Calls Tryd.prog 13 #[.int .i64 a] w fun e w' => e = .returned (.tuple #[.agg #[.int .i64 (X 0), .int .i64 (X 1), .int .i64 (X 2), .int .i64 (X 3), .int .i64 (X 4)], .int .i64 0]) ∧ Below w.heap.size w w')
    (h2 : ∀ w : World, Calls Tryd.prog 13 #[.int .i64 b] w fun e w' => e = .returned (.tuple #[.agg #[.int .i64 (Y 0), .int .i64 (Y 1), .int .i64 (Y 2), .int .i64 (Y 3), .int .i64 (Y 4)], .int .i64 0]) ∧ Below w.heap.size w w')
    (hcmp : ∀ k : Nat, k < 5 → (∀ j, j < k → X j = Y j) → X k ≠ Y k → (decide (a < b) == decide (X k < Y k)) = true)
    (heq : (∀ j : Nat, j < 5 → X j = Y j) → (a == b) = true) :
    Calls Tryd.prog 7 #[.int .i64 a, .int .i64 b] w fun e w' => e = .returned (.bool true) ∧ Below w.heap.size w w' := by
  have H1 := Lib.hid h1; clear h1
  have H2 := Lib.hid h2; clear h2
  have HC := Lib.hid hcmp; clear hcmp
  have HE := Lib.hid heq; clear heq
  have HT := Lib.hid ht; clear ht
  go_enter Tryd.func7, Tryd.ntmps7
  go_wp2_with fail
  refine (known_any _ HT.out).mono ?_; rintro e w1 ⟨rfl, b1⟩
  go_wp2_with fail
  refine (H1.out _).mono ?_; rintro e w2 ⟨rfl, b2⟩
  have c2 := b1.trans (b2.mono b1.size); clear b1 b2
  go_wp2_with fail
  refine (H2.out _).mono ?_; rintro e w3 ⟨rfl, b3⟩
  have c2' := c2.alloc c2.size (.cells #[.int .i64 (X 0), .int .i64 (X 1), .int .i64 (X 2), .int .i64 (X 3), .int .i64 (X 4)] 24)
  have c3 := c2'.trans (b3.mono c2'.size)
  have K3 := blk_below b3 (blk_new w2 _)
  have k0 : w3.cell? ⟨w2.heap.size, 0, none⟩ = some (.int .i64 (X 0)) := blk_cell K3 0
  have k1 : w3.cell? ⟨w2.heap.size, 1, none⟩ = some (.int .i64 (X 1)) := blk_cell K3 1
  have k2 : w3.cell? ⟨w2.heap.size, 2, none⟩ = some (.int .i64 (X 2)) := blk_cell K3 2
  have k3 : w3.cell? ⟨w2.heap.size, 3, none⟩ = some (.int .i64 (X 3)) := blk_cell K3 3
  have k4 : w3.cell? ⟨w2.heap.size, 4, none⟩ = some (.int .i64 (X 4)) := blk_cell K3 4
  have hz := blk_lt K3
  clear K3 b3 c2 c2'
  go_wp2_with fail
  go_loopw [11] (fun i wr => ∃ k : Nat, k ≤ 5 ∧ i = .int .i64 k ∧ Below w.heap.size w wr ∧ Hid (wr.heap[w3.heap.size + 1]? = some (.cells #[.int .i64 (X 0), .int .i64 (X 1), .int .i64 (X 2), .int .i64 (X 3), .int .i64 (X 4)] 3 (0, 0))) ∧ Hid (wr.heap[w3.heap.size + 1 + 1]? = some (.cells #[.int .i64 (Y 0), .int .i64 (Y 1), .int .i64 (Y 2), .int .i64 (Y 3), .int .i64 (Y 4)] 3 (0, 0))) ∧ Hid (∀ j, j < k → X j = Y j)) (fun i _ => 5 - (intOf i).toNat)
  case atStart =>
    refine ⟨0, by omega, rfl, ?_, ?_, ?_, fun j hj => absurd hj (by omega)⟩
    · exact ((c3.alloc c3.size _).alloc (by have := c3.size; simp; omega) _).alloc (by have := c3.size; simp; omega) _
    · exact blk_old _ (by simpa using blk_new (w3.alloc _) _)
    · have h := blk_new ((w3.alloc (.cells #[.int .i64 (Y 0), .int .i64 (Y 1), .int .i64 (Y 2), .int .i64 (Y 3), .int .i64 (Y 4)] 24)).alloc (.cells #[.int .i64 (X 0), .int .i64 (X 1), .int .i64 (X 2), .int .i64 (X 3), .int .i64 (X 4)] 3)) (.cells #[.int .i64 (Y 0), .int .i64 (Y 1), .int .i64 (Y 2), .int .i64 (Y 3), .int .i64 (Y 4)] 3)
      have e : ((w3.alloc (.cells #[.int .i64 (Y 0), .int .i64 (Y 1), .int .i64 (Y 2), .int .i64 (Y 3), .int .i64 (Y 4)] 24)).alloc (.cells #[.int .i64 (X 0), .int .i64 (X 1), .int .i64 (X 2), .int .i64 (X 3), .int .i64 (X 4)] 3)).heap.size = w3.heap.size + 1 + 1 := by simp
      rw [e] at h
      exact h
  case round =>
    obtain ⟨k, hk, rfl, hB, BX, BY, A⟩ := hrel
    clear k0 k1 k2 k3 k4 hz c3
    by_cases hlt : k < 5
    · have hlt' : (k : Int) < 5 := by omega
      have cx := five_cells X BX.out k hlt
      have cy := five_cells Y BY.out k hlt
      by_cases hne : X k = Y k
      · have he : (X k != Y k) = false := by simp [hne]
        have HN := Lib.hid hne; clear hne
        go_wp2_with fail
        go_quiet (fail)
        go_wp2_with fail
        go_roundw
        case rel =>
          refine ⟨k + 1, by omega, by go_num, Below.drewN _ hB, BX.out, BY.out, fun j hj => ?_⟩
          rcases Nat.lt_succ_iff_lt_or_eq.1 hj with h | h
          · exact A.out j h
          · subst h; exact HN.out
        case measure => simp [intOf]; omega
      · have he : (X k != Y k) = true := by simp [hne]
        have hcm := Lib.hid (HC.out k hlt A.out hne)
        clear hne
        go_wp2_with fail
        go_quiet (fail)
        go_wp2_with fail
        go_quiet (fail)
        go_wp2_with fail
        go_ret
        exact ⟨ret_bool hcm.out, Below.drewN _ (Below.drewN _ hB)⟩
    · obtain rfl : k = 5 := by omega
      have heq := HE.out A.out
      clear hlt
      go_wp2_with fail
      go_ret
      exact ⟨rfl, hB⟩

theorem dateOrder_walk (a : Int) (_wa : (Lit.int .i64 a).wf = true) (b : Int) (_wb : (Lit.int .i64 b).wf = true) (w : World) (ht : Tab w) : Calls Tryd.prog 7 #[.int .i64 a, .int .i64 b] w fun e w' => e = .returned (.bool true) ∧ Below w.heap.size w w' := by
  cases hv : vld a with
  | false => exact dateOrder_no a b w ht (.inl hv)
  | true =>
    cases hu : vld b with
    | false => exact dateOrder_no a b w ht (.inr ⟨hv, hu⟩)
    | true =>
      have va := vld_true hv
      have vb := vld_true hu
      exact dateOrder_case a b (Cal.part a) (Cal.part b) w ht (fun w => toCivil_yes a w va.1 va.2) (fun w => toCivil_yes b w vb.1 vb.2) (fun k hk he hn => part_cmp va.1 va.2 vb.1 vb.2 hk he hn) (fun he => by simpa using part_eq va.1 va.2 vb.1 vb.2 he)
end Go.Proofs.YtpdncgfkoibacaaDoor
