/- Contracts of lower, index, digit, fail and check of the reference of package date. -/
import Derived.Test.YtpdncgfkoibacaaDoorNameFn
import Derived.Test.YtpdncgfkoibacaaDoorPad
namespace Go.Proofs.YtpdncgfkoibacaaDoor
open Go.RowKit

def low (c : UInt8) : UInt8 := if 65 ≤ c.toNat ∧ c.toNat ≤ 90 then c + 32 else c
def lowL (l : List UInt8) : List UInt8 := l.map low
theorem low_up {c : UInt8} (h1 : 65 ≤ c.toNat) (h2 : c.toNat ≤ 90) : (low c).toNat = c.toNat + 32 := by
  unfold low; rw [if_pos ⟨h1, h2⟩, UInt8.toNat_add]; simp; omega
theorem low_id {c : UInt8} (h : c.toNat < 65 ∨ 90 < c.toNat) : low c = c := by unfold low; rw [if_neg (by omega)]
theorem cap_nat (c : UInt8) : (cap c).toNat = if 97 ≤ c.toNat ∧ c.toNat ≤ 122 then c.toNat - 32 else c.toNat := by
  by_cases h : 97 ≤ c.toNat ∧ c.toNat ≤ 122
  · rw [if_pos h]; have := cap_low h.1 h.2; omega
  · rw [if_neg h]; unfold cap; rw [if_neg h]
theorem low_nat (c : UInt8) : (low c).toNat = if 65 ≤ c.toNat ∧ c.toNat ≤ 90 then c.toNat + 32 else c.toNat := by
  by_cases h : 65 ≤ c.toNat ∧ c.toNat ≤ 90
  · rw [if_pos h]; exact low_up h.1 h.2
  · rw [if_neg h]; unfold low; rw [if_neg h]
theorem low_cap1 (a b : UInt8) : low a = low b ↔ cap a = cap b := by
  rw [← UInt8.toNat_inj, ← UInt8.toNat_inj, cap_nat, cap_nat, low_nat, low_nat]
  split <;> split <;> split <;> split <;> omega
theorem low_cap : ∀ (a b : List UInt8), lowL a = lowL b ↔ capL a = capL b
  | [], [] => by simp [lowL, capL]
  | [], _ :: _ => by simp [lowL, capL]
  | _ :: _, [] => by simp [lowL, capL]
  | x :: a, y :: b => by
    have ih := low_cap a b
    simp only [lowL, capL, List.map_cons, List.cons.injEq] at ih ⊢
    rw [low_cap1, ih]
theorem low_cap_beq (a b : List UInt8) : (lowL a == lowL b) = (capL a == capL b) := by
  rw [Bool.eq_iff_iff]; simp [low_cap]
theorem lowL_snoc (l : List UInt8) (k : Nat) (h : k < l.length) : lowL (l.take (k + 1)) = lowL (l.take k) ++ [low (l.getD k 0)] := by
  unfold lowL
  rw [List.take_succ_eq_append_getElem h, List.map_append]
  simp [h]

set_option maxRecDepth 100000 in
set_option maxHeartbeats 1000000 in
theorem lower_any (l : List UInt8) (w : World) (hl : l.length ≤ 1000) :
    Calls Tryd.prog 69 #[.string ⟨l.toArray⟩] w fun e w' => e = .returned (.string ⟨(lowL l).toArray⟩) ∧ Below w.heap.size w w' := by
  go_enter Tryd.func69, Tryd.ntmps69
  go_wp2
  go_loopw [3, 4] (fun s i wr => ∃ k : Nat, k ≤ l.length ∧ i = .int .i64 k ∧ s = .string ⟨(lowL (l.take k)).toArray⟩ ∧ Below w.heap.size w wr) (fun _ i _ => l.length - (intOf i).toNat)
  case atStart => exact ⟨0, by omega, rfl, rfl, Below.refl _ _⟩
  case round =>
    obtain ⟨k, hk, rfl, rfl, hB⟩ := hrel
    have hlen : (lowL (l.take k)).length ≤ 1000 := by simp [lowL]; omega
    by_cases hlt : k < l.length
    · have hsn := lowL_snoc l k hlt
      have bg := bget (t := l) (p := k) (show k < l.toArray.size by simpa using hlt) hlt
      unfold at0 at bg
      obtain ⟨c, hc⟩ : ∃ c, l.getD k 0 = c := ⟨_, rfl⟩
      rw [hc] at hsn bg
      clear hc
      have HS := Lib.hid hsn; clear hsn
      have hb := c.toNat_lt
      have hlo := low_nat c
      by_cases h1 : 65 ≤ c.toNat ∧ c.toNat ≤ 90
      · rw [if_pos h1] at hlo
        have hcv := conv_one wr ((c.toNat : Int) + 32) (by omega) (by omega)
        have e1 : UInt8.ofNat ((c.toNat : Int) + 32).toNat = low c := by
          rw [← UInt8.toNat_inj, hlo, UInt8.toNat_ofNat']; omega
        rw [e1] at hcv
        clear hlo e1
        have h2 : (65 : Int) ≤ (c.toNat : Int) := by omega
        have h3 : (c.toNat : Int) ≤ 90 := by omega
        clear h1
        go_wp2_with fail
        go_roundw
        case rel => exact ⟨k + 1, by omega, by go_num, by rw [HS.out]; exact str_congr (bcat _ [low c]), hB.alloc hB.size _⟩
        case measure => simp [intOf]; omega
      · rw [if_neg h1] at hlo
        have hcv := conv_one wr (c.toNat : Int) (by omega) (by omega)
        have e1 : UInt8.ofNat (c.toNat : Int).toNat = low c := by
          rw [← UInt8.toNat_inj, hlo, UInt8.toNat_ofNat']; omega
        rw [e1] at hcv
        clear hlo e1
        have h2 : (c.toNat : Int) < 65 ∨ ((65 : Int) ≤ (c.toNat : Int) ∧ (90 : Int) < (c.toNat : Int)) := by omega
        clear h1
        rcases h2 with h2 | ⟨h2, h3⟩
        all_goals
          go_wp2_with fail
          go_roundw
          case rel => exact ⟨k + 1, by omega, by go_num, by rw [HS.out]; exact str_congr (bcat _ [low c]), hB.alloc hB.size _⟩
          case measure => simp [intOf]; omega
    · obtain rfl : k = l.length := by omega
      rw [List.take_length] at hlen ⊢
      go_wp2_with fail
      go_ret
      exact ⟨rfl, hB⟩

set_option maxRecDepth 100000 in
set_option maxHeartbeats 1000000 in
theorem index_any (names : List (List UInt8)) (x : List UInt8) (nb : Nat) (w : World) (hnn : names.length ≤ 100) (hn : ∀ i, i < names.length → (names.getD i []).length ≤ 1000) (hx : x.length ≤ 1000)
    (hc : ∀ i, i < names.length → w.cell? ⟨nb, i, none⟩ = some (.string ⟨(names.getD i []).toArray⟩)) :
    Calls Tryd.prog 56 #[.slice (some ⟨nb, 0, none⟩) names.length names.length, .string ⟨x.toArray⟩] w fun e w' => e = .returned (.int .i64 (idxOr (find3 names x))) ∧ Below w.heap.size w w' := by
  have HC := Lib.hid hc; clear hc
  have HN := Lib.hid hn; clear hn
  go_enter Tryd.func56, Tryd.ntmps56
  go_wp2_with fail
  go_loopw [5] (fun i wr => ∃ k : Nat, k ≤ names.length ∧ i = .int .i64 k ∧ Below w.heap.size w wr ∧ Hid (∀ i, i < k → (capL (names.getD i []) == capL x) = false)) (fun i _ => names.length - (intOf i).toNat)
  case atStart => exact ⟨0, by omega, rfl, Below.refl _ _, fun i hi => absurd hi (by omega)⟩
  case round =>
    obtain ⟨k, hk, rfl, hB, A⟩ := hrel
    by_cases hlt : k < names.length
    · have c1 : wr.cell? ⟨nb, k, none⟩ = some (.string ⟨(names.getD k []).toArray⟩) := Below.cellv hB (HC.out k hlt)
      have hnk := HN.out k hlt
      generalize hng : names.getD k [] = nk at *
      have NG := Lib.hid hng; clear hng
      cases hq : (capL nk == capL x) with
      | true =>
        have HQ := Lib.hid hq; clear hq
        have hq2 : lowL nk = lowL x := by have := HQ.out; rw [← low_cap_beq] at this; simpa using this
        have HL := Lib.hid hq2; clear hq2
        go_wp2_with fail
        refine (lower_any nk _ hnk).mono ?_; rintro e w1 ⟨rfl, b1⟩
        rw [HL.out]
        go_wp2_with fail
        refine (lower_any x _ hx).mono ?_; rintro e w2 ⟨rfl, b2⟩
        have c2 := b1.trans (b2.mono b1.size); clear b1 b2
        go_wp2_with fail
        go_ret
        exact ⟨by unfold find3; rw [findIdx_snoc _ names k hlt A.out (by rw [NG.out]; exact HQ.out)]; rfl, hB.trans (c2.mono hB.size)⟩
      | false =>
        have HQ := Lib.hid hq; clear hq
        have hq2 : (lowL nk == lowL x) = false := by rw [low_cap_beq]; exact HQ.out
        generalize hl1 : lowL nk = l1 at *
        generalize hl2 : lowL x = l2 at *
        have HL1 := Lib.hid hl1; clear hl1
        have HL2 := Lib.hid hl2; clear hl2
        go_wp2_with fail
        refine (lower_any nk _ hnk).mono ?_; rintro e w1 ⟨rfl, b1⟩
        rw [HL1.out]
        go_wp2_with fail
        refine (lower_any x _ hx).mono ?_; rintro e w2 ⟨rfl, b2⟩
        rw [HL2.out]
        have c2 := b1.trans (b2.mono b1.size); clear b1 b2
        go_wp2_with fail
        go_roundw
        case rel =>
          refine ⟨k + 1, by omega, by go_num, hB.trans (c2.mono hB.size), fun i hi => ?_⟩
          rcases Nat.lt_succ_iff_lt_or_eq.1 hi with h | h
          · exact A.out i h
          · subst h; rw [NG.out]; exact HQ.out
        case measure => simp [intOf]; omega
    · obtain rfl : k = names.length := by omega
      go_wp2_with fail
      go_ret
      exact ⟨by unfold find3; rw [findIdx_none _ names A.out]; rfl, hB⟩

set_option maxHeartbeats 400000 in
theorem refDigit_any (c : UInt8) (w : World) : Calls Tryd.prog 50 #[.int .u8 c.toNat] w fun e w' => e = .returned (.bool (isDig c)) ∧ w = w' := by
  have hc := c.toNat_lt
  by_cases a0 : 48 ≤ c.toNat <;> by_cases a1 : c.toNat ≤ 57
  all_goals
    first
      | (have V : Hid (isDig c = true) := by (show isDig c = true); simp only [isDig, Bool.and_eq_true, decide_eq_true_eq]; omega)
      | (have V : Hid (isDig c = false) := by (show isDig c = false); simp only [isDig, Bool.and_eq_false_iff, decide_eq_false_iff_not]; omega)
    generalize c.toNat = n at *
    go_enter Tryd.func50, Tryd.ntmps50
    go_wp2
    all_goals first | (exfalso; omega) | skip
    all_goals
      go_ret
      exact ⟨ret_bool (by first | (rw [V.out]; done) | (rw [V.out]; simp; done) | (rw [V.out]; simp; omega)), rfl⟩

set_option maxHeartbeats 1000000 in
theorem refFail_any (t : ByteArray) (s : St) (p e : Nat) (w : World) :
    Calls Tryd.prog 51 #[.agg #[.string t, .int .i64 s.p, .int .i64 s.e], .int .i64 p, .int .i64 e] w fun r w' => r = .returned (.agg #[.string t, .int .i64 (failAt s p e).p, .int .i64 (failAt s p e).e]) ∧ Below w.heap.size w w' := by
  obtain ⟨sp, se⟩ := s
  by_cases h : se = 0
  · subst h
    go_enter Tryd.func51, Tryd.ntmps51
    go_wp2
    exact bodyPost_ret (v := .agg #[.string t, .int .i64 p, .int .i64 e]) (by simp [results, Tryd.results51, go_sem]) rfl ⟨rfl, ((Below.refl _ _).alloc (Nat.le_refl _) _).alloc (by simp) _⟩
  · have h1 : ((se : Int) == 0) = false := by simp; omega
    have hf : failAt ⟨sp, se⟩ p e = ⟨sp, se⟩ := by unfold failAt; rw [if_neg h]
    rw [hf]
    clear h hf
    go_enter Tryd.func51, Tryd.ntmps51
    go_wp2
    exact bodyPost_ret (v := .agg #[.string t, .int .i64 sp, .int .i64 se]) (by simp [results, Tryd.results51, go_sem]) rfl ⟨rfl, ((Below.refl _ _).alloc (Nat.le_refl _) _).alloc (by simp) _⟩

set_option maxHeartbeats 1000000 in
theorem refCheck_any (t : ByteArray) (s : St) (ok : Bool) (p e : Nat) (w : World) :
    Calls Tryd.prog 52 #[.agg #[.string t, .int .i64 s.p, .int .i64 s.e], .bool ok, .int .i64 p, .int .i64 e] w fun r w' => r = .returned (.agg #[.string t, .int .i64 (if ok then s else failAt s p e).p, .int .i64 (if ok then s else failAt s p e).e]) ∧ Below w.heap.size w w' := by
  cases ok with
  | true =>
    simp only [if_true]
    go_enter Tryd.func52, Tryd.ntmps52
    go_wp2
    exact bodyPost_ret (v := .agg #[.string t, .int .i64 s.p, .int .i64 s.e]) (by simp [results, Tryd.results52, go_sem]) rfl ⟨rfl, ((Below.refl _ _).alloc (Nat.le_refl _) _).alloc (by simp) _⟩
  | false =>
    simp only [Bool.false_eq_true, if_false]
    go_enter Tryd.func52, Tryd.ntmps52
    go_wp2_with fail
    refine (refFail_any t s p e _).mono ?_; rintro r w1 ⟨rfl, b1⟩
    obtain ⟨hc, hf⟩ := bcell b1
    have hz := b1.size
    simp at hz
    go_wp2_with fail
    have hB : Below w.heap.size w w1 := ((((Below.refl _ _).alloc (Nat.le_refl _) _).alloc (by simp) _).trans (b1.mono (by simp; omega)))
    exact bodyPost_ret (v := .agg #[.string t, .int .i64 (failAt s p e).p, .int .i64 (failAt s p e).e]) (by simp [results, Tryd.results52, go_sem, hc]) rfl ⟨rfl, ((hB.setCell (by simp) _).setCell (by simp) _).setCell (by simp) _⟩
end Go.Proofs.YtpdncgfkoibacaaDoor
