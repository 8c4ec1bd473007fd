/- Contracts of the reference's Sort: names put in one by one. -/
import Derived.Test.YtcagooijkecmoaaDoorGnKids2
import Derived.Test.YtcagooijkecmoaaDoorGnIns
namespace Go.Proofs.YtcagooijkecmoaaDoor
open Go.RowKit Go.Gn

theorem refInsert_any (A : Option Addr) (c : Nat) (xs : List (List UInt8)) (s : List UInt8) (w : World) (hr : Rd w A xs) (hok : SlOk A c xs) (hn0 : xs.length ≤ 100000000) (hx : Hid (∀ x ∈ xs, x.length ≤ 1000000)) (ls : s.length ≤ 1000000) :
    Calls Tryd.prog 45 #[.slice A xs.length c, enS s] w (GivesL w (ins gcmp s xs)) :=
  refInsert_of (fun a b W ha hb => refCompare_any a b W (by omega) (by omega)) A c xs s w hr hok hn0 hx ls
/-- A slice and an error's number. -/
def Gives2L (w : World) (xs : List (List UInt8)) (n : Int) (e : Ending) (w' : World) : Prop :=
  ∃ A c, e = .returned (.tuple #[.slice A xs.length c, .int .i64 n]) ∧ Rd w' A xs ∧ SlOk A c xs ∧ Below w.heap.size w w'
theorem SlOk.nil : SlOk none 0 [] := .inl ⟨rfl, rfl, rfl⟩

set_option maxRecDepth 100000 in
set_option maxHeartbeats 4000000 in
theorem refSort_any (A : Option Addr) (c : Nat) (xs : List (List UInt8)) (w : World) (hr : Rd w A xs) (hn : xs.length ≤ 1000000000) (hl : ∀ x ∈ xs, x.length ≤ 1000000) :
    Calls Tryd.prog 18 #[.slice A xs.length c] w (Gives2L w (sortS xs) (sortE xs)) := by
  have HR := Lib.hid hr; clear hr
  have HL := Lib.hid hl; clear hl
  obtain ⟨SE, hSE⟩ : ∃ n, sortE xs = n := ⟨_, rfl⟩
  obtain ⟨SS, hSS⟩ : ∃ n, sortS xs = n := ⟨_, rfl⟩
  rw [hSE, hSS]
  have VE := Lib.hid hSE; clear hSE
  have VS := Lib.hid hSS; clear hSS
  by_cases h40 : 4096 < xs.length
  · have e1 : Hid (SE = 9) := by (show SE = 9); rw [← VE.out]; unfold sortE; rw [if_pos h40]
    have e2 : Hid (SS = []) := by (show SS = []); rw [← VS.out]; unfold sortS; rw [VE.out, e1.out, if_neg (by decide)]
    rw [e1.out, e2.out]
    go_enter Tryd.func18, Tryd.ntmps18
    go_wp2
    go_ret2
    exact ⟨none, 0, rfl, Rd.nil, SlOk.nil, Below.refl _ _⟩
  · have V : Hid (SE = errOf xs) := by (show SE = _); rw [← VE.out]; unfold sortE; rw [if_neg h40]
    go_enter Tryd.func18, Tryd.ntmps18
    go_wp2
    go_loopg [4, 5, 6] xs.length (fun gg ov iv _ wr => ∃ (k : Nat) (B : Option Addr) (d : Nat) (out : List (List UInt8)), k ≤ xs.length ∧ xs.length - k ≤ gg ∧ iv = .int .i64 k ∧ ov = .slice B out.length d ∧ Hid (Rd wr B out ∧ SlOk B d out ∧ insAll gcmp (xs.take k) = out) ∧ Below w.heap.size w wr ∧ Hid (SE = errOf (xs.drop k)))
    case atStart => exact ⟨0, none, 0, [], by omega, by omega, rfl, rfl, ⟨Rd.nil, SlOk.nil, rfl⟩, Below.refl _ _, V⟩
    case round =>
      obtain ⟨k, B, d, out, hk, hg, rfl, rfl, O, hB, T⟩ := hrel
      by_cases hlt : k < xs.length
      · obtain ⟨b, o, x, rfl, _, hxk, hcell⟩ := (HR.out.below hB).at_ hlt
        have hst := errOf_at hxk
        have HX := Lib.hid hxk; clear hxk
        have hlx := HL.out x (List.mem_of_getElem? HX.out)
        by_cases hz : check x = 0
        · rw [if_neg (by omega)] at hst
          have h1 := refCheck_ok hz wr (by omega)
          clear hz
          have HS := Lib.hid hst; clear hst
          have hcell2 : Hid (∀ W, Below wr.heap.size wr W → W.cell? ⟨b, o + k, none⟩ = some (enS x)) := fun W hW => hW.cellv hcell
          have hol : out.length ≤ k := by
            have := insAll_length gcmp (xs.take k)
            rw [O.out.2.2, List.length_take] at this
            omega
          have hox : Hid (∀ y ∈ out, y.length ≤ 1000000) := fun y hy => by
            rw [← O.out.2.2, mem_insAll gcmp_lin] at hy
            exact HL.out y (List.mem_of_mem_take hy)
          have HI : Hid (∀ W, Below wr.heap.size wr W → Calls Tryd.prog 45 #[.slice B out.length d, enS x] W (GivesL W (ins gcmp x out))) := fun W hW =>
            refInsert_any B d out x W (O.out.1.below hW) O.out.2.1 (by omega) hox hlx
          have hsn : Hid (insAll gcmp (xs.take (k + 1)) = ins gcmp x out) := by
            show insAll gcmp (xs.take (k + 1)) = _
            obtain ⟨hl1, hx1⟩ := List.getElem?_eq_some_iff.1 HX.out
            rw [List.take_succ_eq_append_getElem hl1, insAll_snoc, O.out.2.2, hx1]
          go_wp2_with fail
          refine h1.mono ?_; rintro e w2 ⟨rfl, b2⟩
          have hcl := hcell2.out w2 b2
          go_wp2_with fail
          refine (HI.out w2 b2).mono ?_; rintro e w3 ⟨A3, c3, rfl, hr3, hs3, b3⟩
          have HO3 : Hid (Rd w3 A3 (ins gcmp x out) ∧ SlOk A3 c3 (ins gcmp x out)) := ⟨hr3, hs3⟩
          clear hr3 hs3 hcl
          go_wp2_with fail
          go_roundg (xs.length - (k + 1))
          case measure => omega
          case rel => exact ⟨k + 1, A3, c3, _, by omega, by omega, by go_num, rfl, ⟨HO3.out.1, HO3.out.2, hsn.out⟩, hB.tr (b2.tr b3), (T.out.trans HS.out)⟩
        · rw [if_pos (by omega)] at hst
          have h1 := refCheck_any x wr (by omega)
          have hne : ((check x : Int) != 0) = true := by simp; omega
          have e1 : Hid (SE = check x) := T.out.trans hst
          have e2 : Hid (SS = []) := by (show SS = []); rw [← VS.out]; unfold sortS; rw [VE.out, e1.out, if_neg hz]
          rw [e2.out]
          clear hst hz
          rw [e1.out]
          generalize check x = r at *
          go_wp2_with fail
          refine h1.mono ?_; rintro e w2 ⟨rfl, b2⟩
          go_wp2_with fail
          go_ret2
          exact ⟨none, 0, rfl, Rd.nil, SlOk.nil, hB.tr b2⟩
      · obtain rfl : k = xs.length := by omega
        have E : Hid (SE = 0) := by
          have := T.out
          rw [List.drop_length] at this
          exact this
        have hSS : Hid (SS = out) := by
          show SS = _
          have h3 := O.out.2.2
          rw [List.take_length] at h3
          rw [← VS.out]; unfold sortS; rw [VE.out, E.out, if_pos rfl, h3]
        go_wp2_with fail
        go_ret2
        rw [hSS.out, E.out]
        exact ⟨B, d, rfl, O.out.1, O.out.2.1, hB⟩
end Go.Proofs.YtcagooijkecmoaaDoor
