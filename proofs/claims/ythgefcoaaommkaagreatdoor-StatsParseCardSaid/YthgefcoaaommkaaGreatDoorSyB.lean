/- Contract: the model's kind of a word. -/
import Derived.Test.YthgefcoaaommkaaGreatDoorSyA
import Derived.Test.YthgefcoaaommkaaGreatDoorZd
import Derived.Test.YthgefcoaaommkaaGreatDoorZe
import Derived.Test.YthgefcoaaommkaaGreatDoorZc
import Derived.Test.YthgefcoaaommkaaGreatDoorZb
import Derived.Test.YthgefcoaaommkaaGreatDoorZa
namespace Go.Proofs.YthgefcoaaommkaaGreatDoor
open Go.RowKit Go.Gn Go.Sr Go.Maps Go.Nr

def WL : List (List UInt8) := [[100, 97, 121], [103, 114, 111, 117, 112], [115, 105, 116, 101], [97, 117, 116, 104, 111, 114], [115, 105, 122, 101]]
theorem kindW_at {j : Nat} {s : List UInt8} (h : WL[j]? = some s) : kindW s = j := by
  have hl := (List.getElem?_eq_some_iff.1 h).1
  have hl : j < 5 := hl
  rcases (by omega : j = 0 ∨ j = 1 ∨ j = 2 ∨ j = 3 ∨ j = 4) with rfl | rfl | rfl | rfl | rfl <;> (simp only [WL, List.getElem?_cons_zero, List.getElem?_cons_succ, Option.some.injEq] at h; subst h; decide)
theorem kindW_no {s : List UInt8} (h : ∀ x ∈ WL, x ≠ s) : kindW s = -1 := by
  unfold kindW
  rw [if_neg (fun e => h (wordT 0) (by decide) e.symm), if_neg (fun e => h (wordT 1) (by decide) e.symm), if_neg (fun e => h (wordT 2) (by decide) e.symm), if_neg (fun e => h (wordT 3) (by decide) e.symm), if_neg (fun e => h (wordT 4) (by decide) e.symm)]
set_option maxRecDepth 100000 in
set_option maxHeartbeats 2000000 in
theorem kind_any (s : List UInt8) (w : World) : Calls Tryz.prog 73 #[enS s] w fun e w' => e = .returned (i64 (kindW s)) ∧ Below w.heap.size w w' := by
  have X : Hid (RdC (w.alloc (.cells #[.string ⟨#[100, 97, 121]⟩, .string ⟨#[103, 114, 111, 117, 112]⟩, .string ⟨#[115, 105, 116, 101]⟩, .string ⟨#[97, 117, 116, 104, 111, 114]⟩, .string ⟨#[115, 105, 122, 101]⟩] 9)) (some ⟨w.heap.size, 0, none⟩) (WL.map enS)) := Lib.hid (rdC_new w (WL.map enS) 9)
  have B := Lib.hid (below_new w (.cells #[.string ⟨#[100, 97, 121]⟩, .string ⟨#[103, 114, 111, 117, 112]⟩, .string ⟨#[115, 105, 116, 101]⟩, .string ⟨#[97, 117, 116, 104, 111, 114]⟩, .string ⟨#[115, 105, 122, 101]⟩] 9))
  have KA := Lib.hid (fun (j : Nat) (h : WL[j]? = some s) => kindW_at h)
  have KN := Lib.hid (kindW_no (s := s))
  have hWL : WL.length = 5 := rfl
  go_enter Tryz.func73, Tryz.ntmps73
  go_wp2_with fail
  generalize w.alloc (.cells #[.string ⟨#[100, 97, 121]⟩, .string ⟨#[103, 114, 111, 117, 112]⟩, .string ⟨#[115, 105, 116, 101]⟩, .string ⟨#[97, 117, 116, 104, 111, 114]⟩, .string ⟨#[115, 105, 122, 101]⟩] 9) = w2 at *
  go_loopg [4] 5 (fun gg iv wr => ∃ j : Nat, j ≤ 5 ∧ 5 - j ≤ gg ∧ iv = i64 j ∧ Hid (∀ x ∈ WL.take j, x ≠ s) ∧ wr = w2)
  case atStart => exact ⟨0, by omega, by omega, rfl, Lib.hid (by simp), rfl⟩
  case round =>
    obtain ⟨j, hj, hgj, rfl, HN, rfl⟩ := hrel
    by_cases hlt : j < 5
    · obtain ⟨x, hx⟩ : ∃ x, WL[j]? = some x := ⟨_, List.getElem?_eq_getElem (by omega)⟩
      obtain ⟨b3, o3, hA, hcx⟩ := RdC.cell X.out (j := j) (v := enS x) (by rw [List.getElem?_map, hx]; rfl)
      cases hA
      rw [Nat.zero_add] at hcx
      by_cases hxs : x = s
      · have V : Hid (kindW s = j) := Lib.hid (KA.out j (by rw [hx, hxs]))
        have hb : (x == s) = true := by simpa using hxs
        clear hx hxs
        go_wp2_with fail
        go_ret
        exact ⟨by rw [V.out]; rfl, B.out⟩
      · have hb : (x == s) = false := by simpa using hxs
        have HN2 : Hid (∀ x ∈ WL.take (j + 1), x ≠ s) := Lib.hid fun z hz => by
          rw [take_snoc hx, List.mem_append, List.mem_singleton] at hz
          exact hz.elim (HN.out z) (fun e => by rw [e]; exact hxs)
        clear hx hxs
        go_wp2_with fail
        go_roundg (5 - (j + 1))
        case measure => omega
        case rel => exact ⟨j + 1, by omega, by omega, by go_num, HN2, rfl⟩
    · obtain rfl : j = 5 := by omega
      have V : Hid (kindW s = -1) := Lib.hid (KN.out fun x hx => HN.out x (by rw [← hWL, List.take_length]; exact hx))
      go_wp2_with fail
      go_ret
      exact ⟨by rw [V.out]; rfl, B.out⟩

def rwV (x : Rw) : Value := .agg #[i64 x.sort, enS x.name, i64 x.first, i64 x.c.1, i64 x.c.2]
end Go.Proofs.YthgefcoaaommkaaGreatDoor
