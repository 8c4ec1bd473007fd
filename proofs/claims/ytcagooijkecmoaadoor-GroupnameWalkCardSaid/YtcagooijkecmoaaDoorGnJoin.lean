/- Contracts: the reference's CheckList; Join of the code and of the reference; Common. -/
import Derived.Test.YtcagooijkecmoaaDoorGnList
namespace Go.Proofs.YtcagooijkecmoaaDoor
open Go.RowKit Go.Gn

set_option maxRecDepth 100000 in
set_option maxHeartbeats 4000000 in
theorem refCheckList_any (A : Option Addr) (c : Nat) (xs : List (List UInt8)) (w : World) (hr : Rd w A xs) (hn : xs.length ≤ 1000000000) (hl : ∀ x ∈ xs, x.length ≤ 100000000) :
    Calls Tryd.prog 38 #[.slice A xs.length c] w fun e w' => e = .returned (.int .i64 (checkL xs)) ∧ Below w.heap.size w w' := by
  have HR := Lib.hid hr; clear hr
  have HL := Lib.hid hl; clear hl
  by_cases h20 : 20 < xs.length
  · have V : Hid (checkL xs = 9) := by (show checkL xs = 9); unfold checkL; rw [if_pos h20]
    go_enter Tryd.func38, Tryd.ntmps38
    go_wp2
    go_ret
    exact ⟨ret_int (by rw [V.out]; rfl), Below.refl _ _⟩
  · have V : Hid (checkL xs = clGo [] xs) := by (show checkL xs = _); unfold checkL; rw [if_neg h20]
    go_enter Tryd.func38, Tryd.ntmps38
    go_wp2
    go_loopg [3, 4, 5] xs.length (fun gg iv _ _ wr => ∃ k : Nat, k ≤ xs.length ∧ xs.length - k ≤ gg ∧ iv = .int .i64 k ∧ Below w.heap.size w wr ∧ Hid (checkL xs = clGo (xs.take k) (xs.drop k)))
    case atStart => exact ⟨0, by omega, by omega, rfl, Below.refl _ _, V⟩
    case round =>
      obtain ⟨k, hk, hg, rfl, hB, T⟩ := hrel
      by_cases hlt : k < xs.length
      · obtain ⟨b, o, x, rfl, _, hxk, hcell⟩ := (HR.out.below hB).at_ hlt
        have hst := clGo_at hxk
        have HX := Lib.hid hxk; clear hxk
        have hlx := HL.out x (List.mem_of_getElem? HX.out)
        by_cases hz : check x = 0
        · rw [if_neg (by omega)] at hst
          have h1 := refCheck_ok hz wr hlx
          clear hz
          have HS := Lib.hid hst; clear hst
          go_wp2_with fail
          refine h1.mono ?_; rintro e w2 ⟨rfl, b2⟩
          have hB2 := hB.tr b2
          clear b2 hB hcell
          have hcell : w2.cell? ⟨b, o + k, none⟩ = some (enS x) := by
            obtain ⟨b', o', x', e1, _, e2, e3⟩ := (HR.out.below hB2).at_ hlt
            cases e1
            rw [HX.out] at e2; cases e2
            exact e3
          go_wp2_with fail
          go_loopg [5] k (fun g2 jv wq => ∃ j n : Nat, j ≤ k ∧ k - j ≤ g2 ∧ jv = .int .i64 j ∧ wq = w2.drewN n ∧ Hid (∀ i y, i < j → xs[i]? = some y → y ≠ x))
          case atStart => exact ⟨0, 0, by omega, by omega, rfl, rfl, fun i y hi => absurd hi (by omega)⟩
          case round =>
            obtain ⟨j, n, hj, hg2, rfl, rfl, T2⟩ := hrel
            by_cases hjk : j < k
            · obtain ⟨b', o', y, e1, _, hyj, hcell2⟩ := (HR.out.below hB2).at_ (show j < xs.length by omega)
              cases e1
              have HY := Lib.hid hyj; clear hyj
              have hjx : j < xs.length := by omega
              by_cases hyx : y = x
              · subst hyx
                have HM : Hid (y ∈ xs.take k) := by
                  show y ∈ xs.take k
                  rw [List.mem_take_iff_getElem]
                  obtain ⟨l1, e1⟩ := List.getElem?_eq_some_iff.1 HY.out
                  exact ⟨j, by omega, e1⟩
                go_wp2_with fail
                go_quiet (fail)
                go_wp2_with fail
                go_ret
                exact ⟨ret_int (by rw [T.out, HS.out, if_pos HM.out]; rfl), (hB2.drewN _).drewN _⟩
              · have e1 : (y == x) = false := by simpa using hyx
                have NE := Lib.hid hyx; clear hyx
                go_wp2_with fail
                go_quiet (fail)
                go_wp2_with fail
                go_roundg (k - (j + 1))
                case measure => omega
                case rel =>
                  refine ⟨j + 1, _, by omega, by omega, by go_num, rfl, fun i z hi hz => ?_⟩
                  rcases Nat.lt_succ_iff_lt_or_eq.1 hi with h | h
                  · exact T2.out i z h hz
                  · subst h; rw [HY.out] at hz; cases hz; exact NE.out
            · obtain rfl : j = k := by omega
              have HM : Hid (x ∉ xs.take j) := fun hm => by
                obtain ⟨i, hi, e⟩ := List.getElem_of_mem hm
                rw [List.getElem_take] at e
                rw [List.length_take] at hi
                exact T2.out i x (by omega) (by rw [List.getElem?_eq_getElem (by omega), e]) rfl
              go_wp2_with fail
              go_roundg (xs.length - (j + 1))
              case measure => omega
              case rel => exact ⟨j + 1, by omega, by omega, by go_num, hB2.drewN _, T.out.trans (HS.out.trans (if_neg HM.out))⟩
        · rw [if_pos (by omega)] at hst
          have h1 := refCheck_any x wr hlx
          have hne : ((check x : Int) != 0) = true := by simp; omega
          have HS := Lib.hid hst; clear hst hz
          generalize check x = r at *
          go_wp2_with fail
          refine h1.mono ?_; rintro e w2 ⟨rfl, b2⟩
          go_wp2_with fail
          go_ret
          exact ⟨ret_int (by rw [T.out, HS.out]), hB.tr b2⟩
      · obtain rfl : k = xs.length := by omega
        have E : Hid (checkL xs = 0) := by
          have := T.out
          rw [List.drop_length] at this
          exact this
        go_wp2_with fail
        go_ret
        exact ⟨ret_int (by rw [E.out]; rfl), hB⟩

/-- What Join returns. -/
def joinE (l : List (List UInt8)) : Nat := if l.length = 0 then 12 else if l.any (fun p => !comp p) then 12 else check (text 46 l)
def joinS (l : List (List UInt8)) : List UInt8 := if joinE l = 0 then text 46 l else []
theorem comps_of_any {l : List (List UInt8)} (h : l.any (fun p => !comp p) = false) : ∀ x ∈ l, comp x = true := fun x hx => by
  have := List.any_eq_false.1 h x hx
  simpa using this
theorem text_len_comps {l : List (List UInt8)} (h : l.any (fun p => !comp p) = false) (hn : l.length ≤ 1000000) : (text 46 l).length ≤ 100000000 := by
  have := text_len_bound 46 20 l (fun x hx => ((comp_iff x).1 (comps_of_any h x hx)).2.1)
  omega

set_option maxHeartbeats 400000 in
theorem join1_any (s : List UInt8) (w : World) (hl : s.length ≤ 1000000000) : Calls Tryd.prog 57 #[enS s] w fun e w' => e = .returned (.bool (!comp s)) ∧ Below w.heap.size w w' := by
  have h := isComponent_any s w hl
  generalize comp s = r at *
  go_enter Tryd.func57, Tryd.ntmps57
  go_wp2_with fail
  refine h.mono ?_; rintro e w1 ⟨rfl, b1⟩
  go_wp2_with fail
  go_ret
  exact ⟨rfl, b1⟩

set_option maxRecDepth 100000 in
set_option maxHeartbeats 2000000 in
theorem gjoin_any (A : Option Addr) (c : Nat) (xs : List (List UInt8)) (w : World) (hE : Env w) (hr : Rd w A xs) (hc : xs.length ≤ c) (hn : xs.length ≤ 1000000) (hl : ∀ x ∈ xs, x.length ≤ 1000000000) :
    Calls Tryd.prog 31 #[.slice A xs.length c] w fun e w' => e = .returned (.tuple #[enS (joinS xs), .int .i64 (joinE xs)]) ∧ Below w.heap.size w w' := by
  by_cases h0 : xs.length = 0
  · have VE : Hid (joinE xs = 12) := by (show joinE xs = 12); unfold joinE; rw [if_pos h0]
    have VS : Hid (joinS xs = []) := by (show joinS xs = []); unfold joinS; rw [VE.out, if_neg (by decide)]
    rw [VE.out, VS.out]
    go_enter Tryd.func31, Tryd.ntmps31
    go_wp2
    go_ret2
    exact ⟨rfl, Below.refl _ _⟩
  · have h1 := contFunc_str 57 (enters_of Tryd.func57 (by kernel_rfl) rfl) (fun p => !comp p) A c xs w (by omega) hr (fun x hx W _ => join1_any x W (hl x hx))
    have h00 : ((xs.length : Int) == 0) = false := by simp; intro e; exact h0 (by rw [e]; rfl)
    have h02 : (xs.length == 0) = false := by simp; intro e; exact h0 (by rw [e]; rfl)
    cases hq : xs.any (fun p => !comp p) with
    | true =>
      have VE : Hid (joinE xs = 12) := by (show joinE xs = 12); unfold joinE; rw [if_neg h0, hq, if_pos rfl]
      have VS : Hid (joinS xs = []) := by (show joinS xs = []); unfold joinS; rw [VE.out, if_neg (by decide)]
      rw [VE.out, VS.out]
      rw [hq] at h1
      clear hq h0 hr hl
      go_enter Tryd.func31, Tryd.ntmps31
      go_wp2_with fail
      refine h1.mono ?_; rintro e w1 ⟨rfl, b1⟩
      go_wp2_with fail
      go_ret2
      exact ⟨rfl, b1⟩
    | false =>
      have VE : Hid (joinE xs = check (text 46 xs)) := by (show joinE xs = _); unfold joinE; rw [if_neg h0, hq, if_neg Bool.false_ne_true]
      have lt := text_len_comps hq hn
      have HJ := Lib.hid (fun W (hb : Below w.heap.size w W) => join_any A c xs 46 W (hr.below hb) (by omega) hc (by omega))
      have HC := Lib.hid (fun W (hb : Below w.heap.size w W) => check_any (text 46 xs) W (hE.below hb) (by omega))
      rw [hq] at h1
      rw [VE.out]
      by_cases hz : check (text 46 xs) = 0
      · have VS : Hid (joinS xs = text 46 xs) := by (show joinS xs = _); unfold joinS; rw [VE.out, if_pos hz]
        rw [VS.out, hz]
        rw [hz] at HC
        clear hz hq h0 hr hl VE VS
        generalize text 46 xs = tx at *
        go_enter Tryd.func31, Tryd.ntmps31
        go_wp2_with fail
        refine h1.mono ?_; rintro e w1 ⟨rfl, b1⟩
        go_wp2_with fail
        refine (HJ.out w1 b1).mono ?_; rintro e w2 ⟨rfl, b2⟩
        have b12 := b1.tr b2
        go_wp2_with fail
        refine (HC.out w2 b12).mono ?_; rintro e w3 ⟨rfl, b3⟩
        go_wp2_with fail
        go_ret2
        exact ⟨rfl, b12.tr b3⟩
      · have VS : Hid (joinS xs = []) := by (show joinS xs = _); unfold joinS; rw [VE.out, if_neg hz]
        rw [VS.out]
        have hne : ((check (text 46 xs) : Int) != 0) = true := by simp; omega
        clear hz hq h0 hr hl VE VS
        generalize check (text 46 xs) = r at *
        generalize text 46 xs = tx at *
        go_enter Tryd.func31, Tryd.ntmps31
        go_wp2_with fail
        refine h1.mono ?_; rintro e w1 ⟨rfl, b1⟩
        go_wp2_with fail
        refine (HJ.out w1 b1).mono ?_; rintro e w2 ⟨rfl, b2⟩
        have b12 := b1.tr b2
        go_wp2_with fail
        refine (HC.out w2 b12).mono ?_; rintro e w3 ⟨rfl, b3⟩
        go_wp2_with fail
        go_ret2
        exact ⟨rfl, b12.tr b3⟩

set_option maxRecDepth 100000 in
set_option maxHeartbeats 2000000 in
theorem refJoin_any (A : Option Addr) (c : Nat) (xs : List (List UInt8)) (w : World) (hr : Rd w A xs) (hn : xs.length ≤ 1000000) (hl : ∀ x ∈ xs, x.length ≤ 1000000000) :
    Calls Tryd.prog 33 #[.slice A xs.length c] w fun e w' => e = .returned (.tuple #[enS (joinS xs), .int .i64 (joinE xs)]) ∧ Below w.heap.size w w' := by
  have HR := Lib.hid hr; clear hr
  have HL := Lib.hid hl; clear hl
  obtain ⟨JE, hJE⟩ : ∃ n, joinE xs = n := ⟨_, rfl⟩
  obtain ⟨JS, hJS⟩ : ∃ n, joinS xs = n := ⟨_, rfl⟩
  rw [hJE, hJS]
  have VE := Lib.hid hJE; clear hJE
  have VS := Lib.hid hJS; clear hJS
  go_enter Tryd.func33, Tryd.ntmps33
  go_wp2
  go_loopg [4] xs.length (fun gg iv wr => ∃ k : Nat, k ≤ xs.length ∧ xs.length - k ≤ gg ∧ iv = .int .i64 k ∧ w = wr ∧ Hid ((xs.take k).all comp = true))
  case atStart => exact ⟨0, by omega, by omega, rfl, rfl, rfl⟩
  case round =>
    obtain ⟨k, hk, hg, rfl, rfl, T⟩ := hrel
    by_cases hlt : k < xs.length
    · obtain ⟨b, o, x, rfl, _, hxk, hcell⟩ := HR.out.at_ hlt
      have hsn := take_all_snoc comp xs k [] hlt
      have hgx : xs.getD k [] = x := by rw [List.getD_eq_getElem?_getD, hxk]; rfl
      rw [hgx] at hsn
      have HX := Lib.hid hxk; clear hxk
      have HS := Lib.hid hsn; clear hsn hgx
      have hcomp := refComponent_any x w (HL.out x (List.mem_of_getElem? HX.out))
      cases hq : comp x with
      | true =>
        rw [hq] at hcomp
        have HQ := Lib.hid hq; clear hq
        go_wp2_with fail
        refine hcomp.mono ?_; rintro e w2 ⟨rfl, rfl⟩
        go_wp2_with fail
        go_roundg (xs.length - (k + 1))
        case measure => omega
        case rel => exact ⟨k + 1, by omega, by omega, by go_num, rfl, (show (xs.take (k + 1)).all comp = true by rw [HS.out, T.out, HQ.out]; rfl)⟩
      | false =>
        rw [hq] at hcomp
        have HQ := Lib.hid hq; clear hq
        go_wp2_with fail
        refine hcomp.mono ?_; rintro e w2 ⟨rfl, rfl⟩
        go_wp2_with fail
        go_ret2
        have e1 : joinE xs = 12 := by
          unfold joinE
          rw [if_neg (by omega), if_pos]
          exact List.any_eq_true.2 ⟨x, List.mem_of_getElem? HX.out, by rw [HQ.out]; rfl⟩
        have e2 : joinS xs = [] := by unfold joinS; rw [e1, if_neg (by decide)]
        exact ⟨by rw [← VE.out, ← VS.out, e1, e2]; rfl, Below.refl _ _⟩
    · obtain rfl : k = xs.length := by omega
      rw [List.take_length] at T
      have hany : xs.any (fun p => !comp p) = false := by
        rw [List.any_eq_false]
        intro x hx
        rw [List.all_eq_true.1 T.out x hx]; simp
      by_cases h0 : xs.length = 0
      · have e1 : Hid (joinE xs = 12) := by (show joinE xs = 12); unfold joinE; rw [if_pos h0]
        have e2 : Hid (joinS xs = []) := by (show joinS xs = []); unfold joinS; rw [e1.out, if_neg (by decide)]
        have h00 : ((xs.length : Int) == 0) = true := by rw [h0]; rfl
        have h02 : (xs.length == 0) = true := by simpa using h0
        clear h0 hany
        go_wp2_with fail
        go_ret2
        exact ⟨by rw [← VE.out, ← VS.out, e1.out, e2.out]; rfl, Below.refl _ _⟩
      · have h00 : ((xs.length : Int) == 0) = false := by simp; intro e; exact h0 (by rw [e]; rfl)
        have h02 : (xs.length == 0) = false := by simp; intro e; exact h0 (by rw [e]; rfl)
        have WE : Hid (joinE xs = check (text 46 xs)) := by (show joinE xs = _); unfold joinE; rw [if_neg h0, hany, if_neg Bool.false_ne_true]
        have lt := text_len_comps hany hn
        have hj := refText_any 46 A c xs w HR.out (by omega) (by omega)
        have hc := refCheck_any (text 46 xs) w lt
        by_cases hz : check (text 46 xs) = 0
        · have WS : Hid (joinS xs = text 46 xs) := by (show joinS xs = _); unfold joinS; rw [WE.out, if_pos hz]
          rw [hz] at hc WE
          clear hz hany h0
          generalize text 46 xs = tx at *
          go_wp2_with fail
          refine hj.mono ?_; rintro e w2 ⟨rfl, rfl⟩
          go_wp2_with fail
          refine hc.mono ?_; rintro e w3 ⟨rfl, b3⟩
          go_wp2_with fail
          go_ret2
          exact ⟨by rw [← VE.out, ← VS.out, WE.out, WS.out]; rfl, b3⟩
        · have WS : Hid (joinS xs = []) := by (show joinS xs = _); unfold joinS; rw [WE.out, if_neg hz]
          have hne : ((check (text 46 xs) : Int) != 0) = true := by simp; omega
          clear hz hany h0
          generalize check (text 46 xs) = r at *
          generalize text 46 xs = tx at *
          go_wp2_with fail
          refine hj.mono ?_; rintro e w2 ⟨rfl, rfl⟩
          go_wp2_with fail
          refine hc.mono ?_; rintro e w3 ⟨rfl, b3⟩
          go_wp2_with fail
          go_ret2
          exact ⟨by rw [← VE.out, ← VS.out, WE.out, WS.out]; rfl, b3⟩
end Go.Proofs.YtcagooijkecmoaaDoor
