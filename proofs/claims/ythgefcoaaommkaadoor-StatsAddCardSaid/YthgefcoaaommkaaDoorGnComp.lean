/- Contracts: isLower, isComponent and their closure; slices.ContainsFunc at bytes and at texts; parts; Check. -/
import Derived.Test.YthgefcoaaommkaaDoorGnBase
import Derived.Test.YthgefcoaaommkaaDoorGnName

import Derived.Lib.ConvBytes
import Derived.Shelf.Abstract
namespace Go.Proofs.YthgefcoaaommkaaDoor
open Go.RowKit Go.Gn

set_option maxHeartbeats 400000 in
theorem isLower_any (c : UInt8) (w : World) : Calls Tryd.prog 80 #[.int .u8 c.toNat] w fun e w' => e = .returned (.bool (isLow c)) ∧ w = w' := by
  have hc := c.toNat_lt
  by_cases a0 : 97 ≤ c.toNat <;> by_cases a1 : c.toNat ≤ 122
  all_goals
    first
      | (have V : Hid (isLow c = true) := by (show isLow c = true); simp only [isLow, Bool.and_eq_true, decide_eq_true_eq]; omega)
      | (have V : Hid (isLow c = false) := by (show isLow c = false); simp only [isLow, Bool.and_eq_false_iff, decide_eq_false_iff_not]; omega)
    generalize c.toNat = n at *
    go_enter Tryd.func80, Tryd.ntmps80
    go_wp2
    all_goals first | (exfalso; omega) | skip
    all_goals
      go_ret
      exact ⟨ret_bool (by first | (rw [V.out]; done) | (rw [V.out]; simp; done) | (rw [V.out]; simp; omega)), rfl⟩

set_option maxHeartbeats 1000000 in
theorem notOk_any (c : UInt8) (w : World) : Calls Tryd.prog 82 #[.int .u8 c.toNat] w fun e w' => e = .returned (.bool (!okB c)) ∧ w = w' := by
  have hc := c.toNat_lt
  cases hl : isLow c with
  | true =>
    have V : Hid ((!okB c) = false) := by (show (!okB c) = false); rw [okB_low hl]; rfl
    have h1 := isLower_any c w
    rw [hl] at h1
    generalize c.toNat = n at *
    clear hl
    go_enter Tryd.func82, Tryd.ntmps82
    go_wp2_with (go_at_call 80; refine h1.mono ?_; rintro e w1 ⟨rfl, rfl⟩)
    go_ret
    exact ⟨ret_bool (by rw [V.out]), rfl⟩
  | false =>
    have V : Hid ((!okB c) = decide ((c.toNat < 48 ∨ 57 < c.toNat) ∧ c.toNat ≠ 45 ∧ c.toNat ≠ 43 ∧ c.toNat ≠ 95)) := by
      show (!okB c) = _
      rw [Bool.eq_iff_iff]
      simp [okB, hl]
      omega
    have h1 := isLower_any c w
    rw [hl] at h1
    generalize c.toNat = n at *
    clear hl
    by_cases b0 : n < 48
    · have e1 : ¬ 57 < n := by omega
      by_cases b2 : n = 45
      · subst b2
        go_enter Tryd.func82, Tryd.ntmps82
        go_wp2_with (go_at_call 80; refine h1.mono ?_; rintro e w1 ⟨rfl, rfl⟩)
        go_ret
        exact ⟨ret_bool (by rw [V.out]; decide), rfl⟩
      · by_cases b3 : n = 43
        · subst b3
          go_enter Tryd.func82, Tryd.ntmps82
          go_wp2_with (go_at_call 80; refine h1.mono ?_; rintro e w1 ⟨rfl, rfl⟩)
          go_ret
          exact ⟨ret_bool (by rw [V.out]; decide), rfl⟩
        · have c2 : ((n : Int) != 45) = true := by simp; omega
          have c3 : ((n : Int) != 43) = true := by simp; omega
          have c4 : ((n : Int) != 95) = true := by simp; omega
          have c1 : (n : Int) < 48 := by omega
          have VV : Hid ((!okB c) = true) := by (show (!okB c) = true); rw [V.out]; simp; omega
          clear V b2 b3 b0
          go_enter Tryd.func82, Tryd.ntmps82
          go_wp2_with (go_at_call 80; refine h1.mono ?_; rintro e w1 ⟨rfl, rfl⟩)
          go_ret
          exact ⟨ret_bool (by rw [VV.out]), rfl⟩
    · by_cases b1 : 57 < n
      · by_cases b4 : n = 95
        · subst b4
          go_enter Tryd.func82, Tryd.ntmps82
          go_wp2_with (go_at_call 80; refine h1.mono ?_; rintro e w1 ⟨rfl, rfl⟩)
          go_ret
          exact ⟨ret_bool (by rw [V.out]; decide), rfl⟩
        · have c2 : ((n : Int) != 45) = true := by simp; omega
          have c3 : ((n : Int) != 43) = true := by simp; omega
          have c4 : ((n : Int) != 95) = true := by simp; omega
          have c1 : (57 : Int) < n := by omega
          have c0 : ¬ (n : Int) < 48 := by omega
          have VV : Hid ((!okB c) = true) := by (show (!okB c) = true); rw [V.out]; simp; omega
          clear V b4 b1 b0
          go_enter Tryd.func82, Tryd.ntmps82
          go_wp2_with (go_at_call 80; refine h1.mono ?_; rintro e w1 ⟨rfl, rfl⟩)
          go_ret
          exact ⟨ret_bool (by rw [VV.out]), rfl⟩
      · have c1 : ¬ (57 : Int) < n := by omega
        have c0 : ¬ (n : Int) < 48 := by omega
        have VV : Hid ((!okB c) = false) := by (show (!okB c) = false); rw [V.out]; simp; omega
        clear V b1 b0
        go_enter Tryd.func82, Tryd.ntmps82
        go_wp2_with (go_at_call 80; refine h1.mono ?_; rintro e w1 ⟨rfl, rfl⟩)
        go_ret
        exact ⟨ret_bool (by rw [VV.out]), rfl⟩

/-- The place of the first element of which p holds, or -1. -/
def idxP {α : Type} (p : α → Bool) (xs : List α) : Int := match xs.findIdx? p with | some i => i | none => -1
theorem idxP_hit {α : Type} {p : α → Bool} {xs : List α} {k : Nat} {x : α} (hk : xs[k]? = some x) (hp : p x = true) (hno : ∀ j y, j < k → xs[j]? = some y → p y = false) : idxP p xs = k := by
  have e : xs.findIdx? p = some k := by
    obtain ⟨hl, hx⟩ := List.getElem?_eq_some_iff.1 hk
    rw [List.findIdx?_eq_some_iff_getElem]
    refine ⟨hl, by rw [hx]; exact hp, fun j hj => ?_⟩
    have := hno j _ hj (List.getElem?_eq_getElem (by omega))
    simp [this]
  unfold idxP; rw [e]
theorem idxP_miss {α : Type} {p : α → Bool} {xs : List α} (hno : ∀ (j : Nat) y, xs[j]? = some y → p y = false) : idxP p xs = -1 := by
  have e : xs.findIdx? p = none := by
    rw [List.findIdx?_eq_none_iff]
    intro x hx
    obtain ⟨j, hj, rfl⟩ := List.getElem_of_mem hx
    exact hno j _ (List.getElem?_eq_getElem hj)
  unfold idxP; rw [e]
theorem idxP_any {α : Type} (p : α → Bool) (xs : List α) : decide (0 ≤ idxP p xs) = xs.any p := by
  unfold idxP
  cases h : xs.findIdx? p with
  | none =>
    rw [List.findIdx?_eq_none_iff] at h
    have : xs.any p = false := by rw [List.any_eq_false]; intro x hx; simp [h x hx]
    rw [this]; rfl
  | some i =>
    obtain ⟨hl, hx, _⟩ := List.findIdx?_eq_some_iff_getElem.1 h
    have : xs.any p = true := List.any_eq_true.2 ⟨_, List.getElem_mem hl, hx⟩
    rw [this]; simp
theorem idxP_rng {α : Type} (p : α → Bool) (xs : List α) : -1 ≤ idxP p xs ∧ idxP p xs < xs.length + 1 := by
  unfold idxP
  cases h : xs.findIdx? p with
  | none => simp only; omega
  | some i =>
    obtain ⟨hl, _⟩ := List.findIdx?_eq_some_iff_getElem.1 h
    simp only; omega

set_option maxRecDepth 100000 in
set_option maxHeartbeats 1000000 in
/-- slices.IndexFunc at texts, at a function value that may lay blocks. -/
theorem idxFunc_str (g : Nat) (eg : ∀ args w, (callFunc g args).run Tryd.prog w = .ok (.enter g args) w) (p : List UInt8 → Bool) (A : Option Addr) (c : Nat) (xs : List (List UInt8)) (w : World) (hl : xs.length ≤ 1000000000)
    (h : Rd w A xs) (hp : ∀ x ∈ xs, ∀ W, Below w.heap.size w W → Calls Tryd.prog g #[enS x] W fun e w' => e = .returned (.bool (p x)) ∧ Below W.heap.size W w') :
    Calls Tryd.prog 79 #[.slice A xs.length c, .func (.func g) #[] #[]] w fun e w' => e = .returned (.int .i64 (idxP p xs)) ∧ Below w.heap.size w w' := by
  have HP := Lib.hid hp; clear hp
  have HR := Lib.hid h; clear h
  go_enter Tryd.func79, Tryd.ntmps79
  go_wp2
  go_loopg [5, 8] xs.length (fun gg _ s8 wr => ∃ kk : Nat, kk ≤ xs.length ∧ xs.length - kk ≤ gg ∧ s8 = .int .i64 kk ∧ Below w.heap.size w wr ∧ Hid (∀ j y, j < kk → xs[j]? = some y → p y = false))
  case atStart => exact ⟨0, Nat.zero_le _, by omega, rfl, Below.refl _ _, fun j y hj => absurd hj (Nat.not_lt_zero _)⟩
  case round =>
    obtain ⟨kk, hkk, hg, rfl, hB, A0⟩ := hrel
    by_cases hlt : kk < xs.length
    · obtain ⟨b, o, x, rfl, _, hx, hcell⟩ := (HR.out.below hB).at_ hlt
      have hcall := HP.out x (List.mem_of_getElem? hx) wr hB
      have HX := Lib.hid hx; clear hx
      cases hq : p x with
      | true =>
        rw [hq] at hcall
        have HQ := Lib.hid hq; clear hq
        go_wp2_with (go_at_fn g; refine hcall.mono ?_; rintro e w1 ⟨rfl, b1⟩)
        go_ret
        exact ⟨ret_int (by rw [idxP_hit HX.out HQ.out A0.out]), hB.tr b1⟩
      | false =>
        rw [hq] at hcall
        have HQ := Lib.hid hq; clear hq
        go_wp2_with (go_at_fn g; refine hcall.mono ?_; rintro e w1 ⟨rfl, b1⟩)
        go_roundg (xs.length - (kk + 1))
        case measure => omega
        case rel =>
          refine ⟨kk + 1, by omega, by omega, by go_num, hB.tr b1, fun j y hj hy => ?_⟩
          rcases Nat.lt_succ_iff_lt_or_eq.1 hj with h | h
          · exact A0.out j y h hy
          · subst h; rw [HX.out] at hy; cases hy; exact HQ.out
    · obtain rfl : kk = xs.length := by omega
      go_wp2
      go_ret
      exact ⟨ret_int (by rw [idxP_miss (fun j y hy => A0.out j y (List.getElem?_eq_some_iff.1 hy).1 hy)]), hB⟩

set_option maxHeartbeats 400000 in
theorem contFunc_str (g : Nat) (eg : ∀ args w, (callFunc g args).run Tryd.prog w = .ok (.enter g args) w) (p : List UInt8 → Bool) (A : Option Addr) (c : Nat) (xs : List (List UInt8)) (w : World) (hl : xs.length ≤ 1000000000)
    (h : Rd w A xs) (hp : ∀ x ∈ xs, ∀ W, Below w.heap.size w W → Calls Tryd.prog g #[enS x] W fun e w' => e = .returned (.bool (p x)) ∧ Below W.heap.size W w') :
    Calls Tryd.prog 67 #[.slice A xs.length c, .func (.func g) #[] #[]] w fun e w' => e = .returned (.bool (xs.any p)) ∧ Below w.heap.size w w' := by
  have hi := idxFunc_str g eg p A c xs w hl h hp
  have ha := idxP_any p xs
  have HA := Lib.hid ha; clear ha
  clear h hp
  generalize idxP p xs = i at *
  go_enter Tryd.func67, Tryd.ntmps67
  go_wp2_with (go_at_call 79; refine hi.mono ?_; rintro e w1 ⟨rfl, b1⟩)
  go_ret
  exact ⟨ret_bool (by rw [← HA.out]), b1⟩

set_option maxRecDepth 100000 in
set_option maxHeartbeats 1000000 in
/-- slices.ContainsFunc at bytes with isComponent's closure. -/
theorem idxFunc_byte (b cap : Nat) (s : List UInt8) (w : World) (hl : s.length ≤ 1000000000)
    (hc : ∀ (j : Nat) x, s[j]? = some x → w.cell? ⟨b, j, none⟩ = some (.int .u8 x.toNat)) :
    Calls Tryd.prog 87 #[.slice (some ⟨b, 0, none⟩) s.length cap, .func (.func 82) #[] #[]] w fun e w' => e = .returned (.int .i64 (idxP (fun c => !okB c) s)) ∧ w = w' := by
  have HR := Lib.hid hc; clear hc
  go_enter Tryd.func87, Tryd.ntmps87
  go_wp2
  go_loopg [5, 8] s.length (fun gg _ s8 wr => ∃ kk : Nat, kk ≤ s.length ∧ s.length - kk ≤ gg ∧ s8 = .int .i64 kk ∧ w = wr ∧ Hid (∀ j y, j < kk → s[j]? = some y → (!okB y) = false))
  case atStart => exact ⟨0, Nat.zero_le _, by omega, rfl, rfl, fun j y hj => absurd hj (Nat.not_lt_zero _)⟩
  case round =>
    obtain ⟨kk, hkk, hg, rfl, rfl, A0⟩ := hrel
    by_cases hlt : kk < s.length
    · obtain ⟨x, hx⟩ : ∃ x, s[kk]? = some x := ⟨_, List.getElem?_eq_getElem hlt⟩
      have hcell := HR.out kk x hx
      have HX := Lib.hid hx; clear hx
      have hcall := notOk_any x w
      cases hq : (!okB x) with
      | true =>
        rw [hq] at hcall
        have HQ := Lib.hid hq; clear hq
        generalize x.toNat = n at *
        go_wp2_with (go_at_call 82; refine hcall.mono ?_; rintro e w1 ⟨rfl, rfl⟩)
        go_ret
        exact ⟨ret_int (by rw [idxP_hit (p := fun c => !okB c) HX.out HQ.out A0.out]), rfl⟩
      | false =>
        rw [hq] at hcall
        have HQ := Lib.hid hq; clear hq
        generalize x.toNat = n at *
        go_wp2_with (go_at_call 82; refine hcall.mono ?_; rintro e w1 ⟨rfl, rfl⟩)
        go_roundg (s.length - (kk + 1))
        case measure => omega
        case rel =>
          refine ⟨kk + 1, by omega, by omega, by go_num, rfl, fun j y hj hy => ?_⟩
          rcases Nat.lt_succ_iff_lt_or_eq.1 hj with h | h
          · exact A0.out j y h hy
          · subst h; rw [HX.out] at hy; cases hy; exact HQ.out
    · obtain rfl : kk = s.length := by omega
      go_wp2
      go_ret
      exact ⟨ret_int (by rw [idxP_miss (p := fun c => !okB c) (fun j y hy => A0.out j y (List.getElem?_eq_some_iff.1 hy).1 hy)]), rfl⟩

set_option maxHeartbeats 400000 in
theorem contFunc_byte (b cap : Nat) (s : List UInt8) (w : World) (hl : s.length ≤ 1000000000)
    (hc : ∀ (j : Nat) x, s[j]? = some x → w.cell? ⟨b, j, none⟩ = some (.int .u8 x.toNat)) :
    Calls Tryd.prog 81 #[.slice (some ⟨b, 0, none⟩) s.length cap, .func (.func 82) #[] #[]] w fun e w' => e = .returned (.bool (s.any (fun c => !okB c))) ∧ w = w' := by
  have hi := idxFunc_byte b cap s w hl hc
  have ha := idxP_any (fun c => !okB c) s
  have HA := Lib.hid ha; clear ha hc
  generalize idxP (fun c => !okB c) s = i at *
  go_enter Tryd.func81, Tryd.ntmps81
  go_wp2_with (go_at_call 87; refine hi.mono ?_; rintro e w1 ⟨rfl, rfl⟩)
  go_ret
  exact ⟨ret_bool (by rw [← HA.out]), rfl⟩
end Go.Proofs.YthgefcoaaommkaaDoor
