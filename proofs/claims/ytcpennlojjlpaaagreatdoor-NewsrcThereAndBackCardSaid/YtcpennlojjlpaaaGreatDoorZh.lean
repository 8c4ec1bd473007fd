/- Contract: the reference's Normal.
   Contracts: the reference's From, Minus.
   Contract: the reference's Or.
   Contracts: the reference's Both, Minus.
   Contracts: the reference's decimal, Text.
   Contracts: the reference's number, the package's parseNumber. -/
import Derived.Test.YtcpennlojjlpaaaGreatDoorZg
import Derived.Test.YtcpennlojjlpaaaGreatDoorZb
namespace Go.Proofs.YtcpennlojjlpaaaGreatDoor
open Go.RowKit Go.Nr Go.Gn

theorem flat_set : ∀ (l : List Rg) (k : Nat) (r : Rg), k < l.length → ((flat l).set (k * 2) (i64 r.1)).set (k * 2 + 1) (i64 r.2) = flat (l.set k r)
  | [], _, _, h => by simp at h
  | a :: l, 0, r, _ => by rw [flat_cons]; simp [flat_cons]
  | a :: l, k + 1, r, h => by
    rw [flat_cons, show (k + 1) * 2 + 1 = (k * 2 + 1) + 1 + 1 by omega, show (k + 1) * 2 = k * 2 + 1 + 1 by omega]
    simp only [List.set_cons_succ, flat_cons]
    rw [flat_set l k r (by simpa using h)]
/-- The cells of a row of the call's own, and where it lies. -/
theorem own_rd {w : World} {base c k : Nat} {e : TypeId} {A : Option Addr} {l : List Rg} (h : w.ownsRow base e 2 (.slice A l.length c) l.length (flat l)) (hk : k < l.length) : ∃ g r, A = some ⟨g, 0, none⟩ ∧ base ≤ g ∧ l[k]? = some r ∧ w.cell? ⟨g, k * 2, none⟩ = some (i64 r.1) ∧ w.cell? ⟨g, k * 2 + 1, none⟩ = some (i64 r.2) ∧ w.frozen? ⟨g, k * 2, none⟩ = false ∧ w.frozen? ⟨g, k * 2 + 1, none⟩ = false := by
  rcases h.2 with ⟨e1, h0⟩ | ⟨g, cap, cur, e1, hb, _⟩
  · omega
  · cases e1
    have hx : l[k]? = some l[k] := List.getElem?_eq_getElem hk
    obtain ⟨f1, f2⟩ := flat_at l k _ hx
    exact ⟨g, l[k], rfl, hb, hx, (own_cell h f1).1, (own_cell h f2).1, (own_cell h f1).2.1, (own_cell h f2).2.1⟩
/-- A pair stored into a row of the call's own. -/
theorem own_put {w : World} {base g c k : Nat} {e : TypeId} {l : List Rg} {r : Rg} (h : w.ownsRow base e 2 (.slice (some ⟨g, 0, none⟩) l.length c) l.length (flat l)) (hk : k < l.length) : ((w.setCell ⟨g, k * 2, none⟩ (i64 r.1)).setCell ⟨g, k * 2 + 1, none⟩ (i64 r.2)).ownsRow base e 2 (.slice (some ⟨g, 0, none⟩) l.length c) l.length (flat (l.set k r)) := by
  rw [← flat_set l k r hk]
  exact own_set (own_set h)

theorem own_rdn {w : World} {base c k n : Nat} {e : TypeId} {A : Option Addr} {l : List Rg} (h : w.ownsRow base e 2 (.slice A n c) n (flat l)) (hn : l.length = n) (hk : k < n) : ∃ g r, A = some ⟨g, 0, none⟩ ∧ base ≤ g ∧ l[k]? = some r ∧ w.cell? ⟨g, k * 2, none⟩ = some (i64 r.1) ∧ w.cell? ⟨g, k * 2 + 1, none⟩ = some (i64 r.2) ∧ w.frozen? ⟨g, k * 2, none⟩ = false ∧ w.frozen? ⟨g, k * 2 + 1, none⟩ = false := by
  subst hn; exact own_rd h hk
theorem own_putn {w : World} {base g c k n : Nat} {e : TypeId} {l : List Rg} {r : Rg} (h : w.ownsRow base e 2 (.slice (some ⟨g, 0, none⟩) n c) n (flat l)) (hn : l.length = n) (hk : k < n) : ((w.setCell ⟨g, k * 2, none⟩ (i64 r.1)).setCell ⟨g, k * 2 + 1, none⟩ (i64 r.2)).ownsRow base e 2 (.slice (some ⟨g, 0, none⟩) n c) n (flat (l.set k r)) := by
  subst hn; exact own_put h hk

set_option maxRecDepth 100000 in
set_option maxHeartbeats 8000000 in
theorem refNormal_any (A : Option Addr) (c : Nat) (l : List Rg) (w : World) (hr : RdR w A l) (hn : l.length ≤ 1000000) (hrng : ∀ r ∈ l, 0 ≤ r.2 ∧ r.2 ≤ M) :
    Calls Tryz.prog 18 #[.slice A l.length c] w (GivesRow 37 w.heap.size w (norm l)) := by
  obtain ⟨i0, hi, hz0, hz1, hz2⟩ := info_parts rg_info
  have HR := Lib.hid hr; clear hr
  have HG := Lib.hid hrng; clear hrng
  obtain ⟨NL, hNL⟩ : ∃ q, norm l = q := ⟨_, rfl⟩
  rw [hNL]
  have V := Lib.hid hNL
  clear hNL
  go_enter Tryz.func18, Tryz.ntmps18
  go_wp2_with fail
  go_loopg [3, 4] l.length (fun gg sv iv wr => ∃ (i : Nat) (B : Option Addr) (d : Nat) (s : List Rg), i ≤ l.length ∧ l.length - i ≤ gg ∧ iv = .int .i64 i ∧ sv = .slice B s.length d ∧ Hid (wr.ownsRow w.heap.size 37 2 (.slice B s.length d) s.length (flat s)) ∧ Hid (s = sorted (l.take i)) ∧ s.length = i ∧ Below w.heap.size w wr)
  case atStart => exact ⟨0, none, 0, [], by omega, by omega, rfl, rfl, own2_nil _ _ _ _, rfl, rfl, Below.refl _ _⟩
  case round =>
    obtain ⟨i, B, d, s, hii, hgi, rfl, rfl, O, S, rfl, hB⟩ := hrel
    by_cases hlt : s.length < l.length
    · obtain ⟨b, o, x, rfl, hbl, hxi, hw1, hw2⟩ := HR.out.at_ hlt
      obtain ⟨x1, x2⟩ := x
      simp only at hw1 hw2
      have HX := Lib.hid hxi
      have HW1 := Lib.hid hw1
      have HW2 := Lib.hid hw2
      clear hxi hw1 hw2
      go_wp2_with fail
      go_loopg [5] s.length (fun gg av wq => ∃ (a : Nat), a ≤ s.length ∧ a ≤ gg ∧ av = .int .i64 a ∧ Below w.heap.size w wq ∧ Hid (wq.ownsRow w.heap.size 37 2 (.slice B s.length d) s.length (flat s)) ∧ Hid (∀ (j : Nat) (q : Rg), a ≤ j → s[j]? = some q → x1 < q.1))
      case atStart => exact ⟨s.length, by omega, by omega, rfl, hB, O, fun j q hj hq => by have := (List.getElem?_eq_some_iff.1 hq).1; omega⟩
      case round =>
        obtain ⟨a, ha, hga, rfl, hBq, Oq, D⟩ := hrel
        have hc1 := Below.cellv hBq HW1.out
        by_cases ha0 : 0 < a
        · obtain ⟨m, rfl⟩ : ∃ m, a = m + 1 := ⟨a - 1, by omega⟩
          obtain ⟨g, q, rfl, hgb, hq, hq1, hq2, _, _⟩ := own_rd Oq.out (show m < s.length by omega)
          have hi0 : (0 : Int) < ((m + 1 : Nat) : Int) := by omega
          have hmi : (0 : Int) ≤ (m : Int) := by omega
          obtain ⟨q1, q2⟩ := q
          simp only at hq1 hq2
          have HQ := Lib.hid hq
          by_cases hlt2 : x1 < q1
          · clear hq hq2
            go_wp2_with fail
            go_quiet (fail)
            go_wp2_with fail
            go_roundg m
            case measure => omega
            case rel =>
              refine ⟨m, by omega, by omega, by go_num, hBq.drewN _, own_below Oq.out ((Below.refl _ _).drewN _), fun j q hj hq => ?_⟩
              rcases Nat.lt_or_ge m j with h' | h'
              · exact D.out j q (by omega) hq
              · obtain rfl : j = m := by omega
                rw [HQ.out] at hq; cases hq; exact hlt2
          · clear hq hq2
            go_wp2_with fail
            go_quiet (fail)
            have hszq := hBq.size
            go_wp2_with (at_builtin; refine wpList_append_own _ rfl _ _ 22 rfl w.heap.size 37 i0 (.agg #[i64 0, i64 0]) 2 16 Tryz.underlying22 hi hz0 hz1 hz2 rfl (by decide) (.slice (some ⟨g, 0, none⟩) s.length d) s.length (flat s) rfl (own_below (own_below Oq.out ((Below.refl _ _).drewN _)) (below_new _ _)) ⟨wr.heap.size, 0, none⟩ 1 1 [i64 0, i64 0] rfl rfl ?c1 ?c2 ?c3 ?c4 ?c5 ?_)
            case c1 =>
              intro j u hj
              rw [addr_addN, new_cell _ _ _ _ _ (by simp)]
              simpa using hj
            case c2 => intro u hu; simp at hu; rcases hu with rfl | rfl <;> rfl
            case c3 => unfold maxLen; omega
            case c4 => omega
            case c5 => simp; omega
            intro v' w2 hown2 hg2 _
            obtain ⟨A3, c3, rfl⟩ := own2_slice hown2
            have b2 := own_grown_below (own_below (own_below Oq.out ((Below.refl _ _).drewN nq)) (below_new _ (.cells #[i64 0, i64 0] 37))) (by simp; omega) hg2
            have hB2 := ((hBq.drewN nq).alloc hszq (.cells #[i64 0, i64 0] 37)).trans b2
            rw [show flat s ++ [i64 0, i64 0] = flat (rowK s s.length (0, 0)) by rw [rowK_end, flat_append, flat_one]] at hown2
            have HO2 := Lib.hid hown2
            clear hown2 hg2 b2 hBq Oq hszq hB O
            go_wp2_with fail
            go_loopg [6] s.length (fun gg kv wz => ∃ (k : Nat) (y : Rg), m + 1 ≤ k ∧ k ≤ s.length ∧ k ≤ gg ∧ kv = .int .i64 k ∧ Hid (wz.ownsRow w.heap.size 37 2 (.slice A3 (s.length + 1) c3) (s.length + 1) (flat (rowK s k y))) ∧ Below w.heap.size w wz)
            case atStart => exact ⟨s.length, (0, 0), by omega, by omega, by omega, by go_num, HO2.out, hB2⟩
            case round =>
              obtain ⟨k, y, hka, hks, hkg, rfl, Oz, hBz⟩ := hrel
              by_cases hk : m + 1 < k
              · obtain ⟨k, rfl⟩ : ∃ k', k = k' + 1 := ⟨k - 1, by omega⟩
                have hrl := rowK_length (s := s) (k := k + 1) hks y
                obtain ⟨g3, r, rfl, hg3, hr, hr1, hr2, _, _⟩ := own_rdn Oz.out hrl (show k < s.length + 1 by omega)
                obtain ⟨g4, r4, e4, _, _, hs1, hs2, hf1, hf2⟩ := own_rdn Oz.out hrl (show k + 1 < s.length + 1 by omega)
                cases e4
                rw [rowK_pred hks] at hr
                have HRS := Lib.hid (rowK_step hr y)
                have HPUT := Lib.hid (own_putn (r := r) Oz.out hrl (show k + 1 < s.length + 1 by omega))
                rw [HRS.out] at HPUT
                obtain ⟨r1, r2⟩ := r
                simp only at hr1 hr2 HPUT
                have HB := Lib.hid ((hBz.setCell (p := ⟨g3, (k + 1) * 2, none⟩) hg3 (i64 r1)).setCell (p := ⟨g3, (k + 1) * 2 + 1, none⟩) hg3 (i64 r2))
                clear hr Oz hBz HRS
                go_wp2_with fail
                go_roundg k
                case measure => omega
                case rel => exact ⟨k, (r1, r2), by omega, by omega, by omega, by go_num, HPUT.out, HB.out⟩
              · obtain rfl : k = m + 1 := by omega
                have hrl := rowK_length (s := s) (k := m + 1) hks y
                obtain ⟨g3, r, rfl, hg3, _, hs1, hs2, hf1, hf2⟩ := own_rdn Oz.out hrl (show m + 1 < s.length + 1 by omega)
                have hy1 := Below.cellv hBz HW1.out
                have hy2 := Below.cellv hBz HW2.out
                have HPUT := Lib.hid (own_putn (r := (x1, x2)) Oz.out hrl (show m + 1 < s.length + 1 by omega))
                rw [rowK_self hks] at HPUT
                simp only at HPUT
                have HB := Lib.hid ((hBz.setCell (p := ⟨g3, (m + 1) * 2, none⟩) hg3 (i64 x1)).setCell (p := ⟨g3, (m + 1) * 2 + 1, none⟩) hg3 (i64 x2))
                have hrl2 := rowK_length (s := s) (k := m + 1) hks (x1, x2)
                have hS : Hid (rowK s (m + 1) (x1, x2) = sorted (l.take (s.length + 1))) := by
                  show rowK s (m + 1) (x1, x2) = _
                  obtain ⟨hl1, hl2⟩ := List.getElem?_eq_some_iff.1 HX.out
                  have hsrt : s.Pairwise (fun a b => a.1 ≤ b.1) := by rw [S.out]; exact (sorted_spec _).1
                  rw [List.take_succ_eq_append_getElem hl1, hl2, sorted_snoc, ← S.out]
                  exact rowK_put hks hsrt D.out (fun q hq0 hq => by rw [show m + 1 - 1 = m by omega, HQ.out] at hq; cases hq; show q1 ≤ x1; omega)
                clear Oz hBz
                go_wp2_with fail
                go_roundg (l.length - (s.length + 1))
                case measure => omega
                case rel => exact ⟨s.length + 1, _, c3, rowK s (m + 1) (x1, x2), by omega, by omega, by go_num, by rw [hrl2], by rw [hrl2]; exact HPUT.out, hS, hrl2, HB.out⟩
        · obtain rfl : a = 0 := by omega
          go_wp2_with fail
          go_quiet (fail)
          have hszq := hBq.size
          go_wp2_with (at_builtin; refine wpList_append_own _ rfl _ _ 22 rfl w.heap.size 37 i0 (.agg #[i64 0, i64 0]) 2 16 Tryz.underlying22 hi hz0 hz1 hz2 rfl (by decide) _ s.length (flat s) rfl (own_below (own_below Oq.out ((Below.refl _ _).drewN _)) (below_new _ _)) ⟨wr.heap.size, 0, none⟩ 1 1 [i64 0, i64 0] rfl rfl ?c1 ?c2 ?c3 ?c4 ?c5 ?_)
          case c1 =>
            intro j u hj
            rw [addr_addN, new_cell _ _ _ _ _ (by simp)]
            simpa using hj
          case c2 => intro u hu; simp at hu; rcases hu with rfl | rfl <;> rfl
          case c3 => unfold maxLen; omega
          case c4 => omega
          case c5 => simp; omega
          intro v' w2 hown2 hg2 _
          obtain ⟨A3, c3, rfl⟩ := own2_slice hown2
          have b2 := own_grown_below (own_below (own_below Oq.out ((Below.refl _ _).drewN nq)) (below_new _ (.cells #[i64 0, i64 0] 37))) (by simp; omega) hg2
          have hB2 := ((hBq.drewN nq).alloc hszq (.cells #[i64 0, i64 0] 37)).trans b2
          rw [show flat s ++ [i64 0, i64 0] = flat (rowK s s.length (0, 0)) by rw [rowK_end, flat_append, flat_one]] at hown2
          have HO2 := Lib.hid hown2
          clear hown2 hg2 b2 hBq Oq hszq hB O
          go_wp2_with fail
          go_loopg [6] s.length (fun gg kv wz => ∃ (k : Nat) (y : Rg), 0 ≤ k ∧ k ≤ s.length ∧ k ≤ gg ∧ kv = .int .i64 k ∧ Hid (wz.ownsRow w.heap.size 37 2 (.slice A3 (s.length + 1) c3) (s.length + 1) (flat (rowK s k y))) ∧ Below w.heap.size w wz)
          case atStart => exact ⟨s.length, (0, 0), by omega, by omega, by omega, by go_num, HO2.out, hB2⟩
          case round =>
            obtain ⟨k, y, hka, hks, hkg, rfl, Oz, hBz⟩ := hrel
            by_cases hk : 0 < k
            · obtain ⟨k, rfl⟩ : ∃ k', k = k' + 1 := ⟨k - 1, by omega⟩
              have hrl := rowK_length (s := s) (k := k + 1) hks y
              obtain ⟨g3, r, rfl, hg3, hr, hr1, hr2, _, _⟩ := own_rdn Oz.out hrl (show k < s.length + 1 by omega)
              obtain ⟨g4, r4, e4, _, _, hs1, hs2, hf1, hf2⟩ := own_rdn Oz.out hrl (show k + 1 < s.length + 1 by omega)
              cases e4
              rw [rowK_pred hks] at hr
              have HRS := Lib.hid (rowK_step hr y)
              have HPUT := Lib.hid (own_putn (r := r) Oz.out hrl (show k + 1 < s.length + 1 by omega))
              rw [HRS.out] at HPUT
              obtain ⟨r1, r2⟩ := r
              simp only at hr1 hr2 HPUT
              have HB := Lib.hid ((hBz.setCell (p := ⟨g3, (k + 1) * 2, none⟩) hg3 (i64 r1)).setCell (p := ⟨g3, (k + 1) * 2 + 1, none⟩) hg3 (i64 r2))
              clear hr Oz hBz HRS
              go_wp2_with fail
              go_roundg k
              case measure => omega
              case rel => exact ⟨k, (r1, r2), by omega, by omega, by omega, by go_num, HPUT.out, HB.out⟩
            · obtain rfl : k = 0 := by omega
              have hrl := rowK_length (s := s) (k := 0) hks y
              obtain ⟨g3, r, rfl, hg3, _, hs1, hs2, hf1, hf2⟩ := own_rdn Oz.out hrl (show 0 < s.length + 1 by omega)
              have hy1 := Below.cellv hBz HW1.out
              have hy2 := Below.cellv hBz HW2.out
              have HPUT := Lib.hid (own_putn (r := (x1, x2)) Oz.out hrl (show 0 < s.length + 1 by omega))
              rw [rowK_self hks] at HPUT
              simp only at HPUT
              have HB := Lib.hid ((hBz.setCell (p := ⟨g3, (0) * 2, none⟩) hg3 (i64 x1)).setCell (p := ⟨g3, (0) * 2 + 1, none⟩) hg3 (i64 x2))
              have hrl2 := rowK_length (s := s) (k := 0) hks (x1, x2)
              have hS : Hid (rowK s (0) (x1, x2) = sorted (l.take (s.length + 1))) := by
                show rowK s (0) (x1, x2) = _
                obtain ⟨hl1, hl2⟩ := List.getElem?_eq_some_iff.1 HX.out
                have hsrt : s.Pairwise (fun a b => a.1 ≤ b.1) := by rw [S.out]; exact (sorted_spec _).1
                rw [List.take_succ_eq_append_getElem hl1, hl2, sorted_snoc, ← S.out]
                exact rowK_put hks hsrt D.out (fun q hq0 hq => by omega)
              clear Oz hBz
              go_wp2_with fail
              go_roundg (l.length - (s.length + 1))
              case measure => omega
              case rel => exact ⟨s.length + 1, _, c3, rowK s (0) (x1, x2), by omega, by omega, by go_num, by rw [hrl2], by rw [hrl2]; exact HPUT.out, hS, hrl2, HB.out⟩
    · have SS : Hid (s = sorted l) := by
        show s = _
        have := S.out
        rw [show s.length = l.length by omega, List.take_length] at this
        exact this
      have HRS := Lib.hid (RdR.of_own O.out).1
      have hlS : s.length ≤ 1000000 := by omega
      have HRG : Hid (∀ r ∈ s, 0 ≤ r.2 ∧ r.2 ≤ 1099511627776) := fun r hr => by
        rw [SS.out] at hr
        have := HG.out r ((sorted_spec l).2 r |>.1 hr)
        rw [M_eq] at this
        exact this
      have hsw := hB.size
      clear O S
      go_wp2_with fail
      generalize wr = u1 at *
      go_loopg [7, 8] s.length (fun gg ov jv wq => ∃ (j : Nat) (C : Option Addr) (f : Nat) (q : List Rg), j ≤ s.length ∧ s.length - j ≤ gg ∧ jv = .int .i64 j ∧ ov = .slice C q.length f ∧ Hid (wq.ownsRow u1.heap.size 37 2 (.slice C q.length f) q.length (flat q)) ∧ Hid (q = merge (s.take j)) ∧ q.length ≤ j ∧ Below u1.heap.size u1 wq)
      case atStart => exact ⟨0, none, 0, [], by omega, by omega, rfl, rfl, own2_nil _ _ _ _, rfl, by simp, Below.refl _ _⟩
      case round =>
        obtain ⟨j, C, f, q, hjs, hgj, rfl, rfl, Oq, Q, hqj, hBq⟩ := hrel
        by_cases hlt4 : j < s.length
        · obtain ⟨b4, o4, x, e4, hb4, hxj, hx1, hx2⟩ := HRS.out.at_ hlt4
          subst e4
          have hmt := merge_take hxj
          rw [← Q.out] at hmt
          have hrx := HRG.out x (List.mem_of_getElem? hxj)
          have hrq : ∀ z ∈ q, 0 ≤ z.2 ∧ z.2 ≤ 1099511627776 := by
            rw [Q.out]
            exact merge_snd (P := fun z => 0 ≤ z ∧ z ≤ 1099511627776) s j HRG.out
          obtain ⟨x1, x2⟩ := x
          simp only at hx1 hx2 hrx
          have hc1 := Below.cellv hBq hx1
          have hc2 := Below.cellv hBq hx2
          have HC1 := Lib.hid hx1
          have HC2 := Lib.hid hx2
          clear hxj hx1 hx2 Q
          rcases List.eq_nil_or_concat q with rfl | ⟨p, z, rfl⟩
          · have HMT := Lib.hid hmt
            rw [app_nil] at HMT
            clear hmt
            go_wp2_with fail
            go_quiet (fail)
            have hszq := hBq.size
            go_wp2_with (at_builtin; refine wpList_append_own _ rfl _ _ 22 rfl u1.heap.size 37 i0 (.agg #[i64 0, i64 0]) 2 16 Tryz.underlying22 hi hz0 hz1 hz2 rfl (by decide) (.slice C 0 f) 0 (flat []) rfl (own_below (own_below Oq.out ((Below.refl _ _).drewN nq)) (below_new _ _)) ⟨wr.heap.size, 0, none⟩ 1 1 [i64 x1, i64 x2] rfl rfl ?c1 ?c2 ?c3 ?c4 ?c5 ?_)
            case c1 =>
              intro j u hj
              rw [addr_addN, new_cell _ _ _ _ _ (by simp)]
              simpa using hj
            case c2 => intro u hu; simp at hu; rcases hu with rfl | rfl <;> rfl
            case c3 => unfold maxLen; omega
            case c4 => omega
            case c5 => simp; omega
            intro v' w2 hown2 hg2 _
            obtain ⟨A3, c3, rfl⟩ := own2_slice hown2
            have b2 := own_grown_below (own_below (own_below Oq.out ((Below.refl _ _).drewN nq)) (below_new _ (.cells #[i64 x1, i64 x2] 37))) (by simp; omega) hg2
            have hB2 := ((hBq.drewN nq).alloc hszq (.cells #[i64 x1, i64 x2] 37)).trans b2
            rw [show flat [] ++ [i64 x1, i64 x2] = flat ([] ++ [(x1, x2)]) by rw [flat_append, flat_one]] at hown2
            have HO2 := Lib.hid hown2
            clear hown2 hg2 b2 hBq Oq hszq
            go_wp2_with fail
            go_roundg (s.length - (j + 1))
            case measure => omega
            case rel => exact ⟨j + 1, A3, c3, [] ++ [(x1, x2)], by omega, by omega, by go_num, by simp, by simpa using HO2, Lib.hid HMT.out.symm, by simp, hB2⟩
          · rw [List.concat_eq_append] at *
            have HMT := Lib.hid hmt
            rw [app_snoc] at HMT
            clear hmt
            have hpl : (p ++ [z]).length = p.length + 1 := by simp
            rw [hpl] at Oq hqj ⊢
            obtain ⟨g, r, rfl, hgb, hrz, hz1', hz2', _, hfz⟩ := own_rdn Oq.out hpl (show p.length < p.length + 1 by omega)
            obtain rfl : z = r := by simpa using hrz
            obtain ⟨z1, z2⟩ := z
            have hz := hrq (z1, z2) (by simp)
            simp only at hz1' hz2' HMT hz
            have hp0 : (0 : Int) ≤ (p.length : Int) := by omega
            clear hrq hrz
            by_cases hjn : x1 ≤ z2 + 1
            · rw [if_pos hjn] at HMT
              go_wp2_with fail
              go_quiet (fail)
              go_wp2_with fail
              refine wp_region_calm 17 (by kernel_rfl) (by kernel_rfl) ?_
              simp only [List.take_succ_cons, List.take_zero, List.drop_succ_cons, List.drop_zero]
              have k1' : ((wr.drewN nq).drew).cell? ⟨g, p.length * 2 + 1, none⟩ = some (i64 z2) := hz2'
              have k2' : ((wr.drewN nq).drew).cell? ⟨b4, o4 + j * 2 + 1, none⟩ = some (i64 x2) := hc2
              have k3' : ((wr.drewN nq).drew).frozen? ⟨g, p.length * 2 + 1, none⟩ = false := hfz
              have hownd : ((wr.drewN nq).drew).ownsRow u1.heap.size _ 2 _ _ _ := own_below Oq.out ((Below.refl _ _).drewN nq).drew
              have hBd : Below u1.heap.size u1 (wr.drewN nq).drew := (hBq.drewN nq).drew
              have HO2 := Lib.hid hownd
              have HB2 := Lib.hid hBd
              clear hz1' hz2' hc1 hc2 hfz Oq hBq hownd hBd
              generalize (wr.drewN nq).drew = wd at *
              have k1 := One.cell k1'
              have k2 := One.cell k2'
              haveI nonE := one_nonempty wd
              repeat go_big_quiet_step (fail)
              refine wpQuiet_nil ?_
              clear k1 k2 nonE
              go_wp2_with fail
              go_roundg (s.length - (j + 1))
              case measure => omega
              case rel =>
                have e1 : (p ++ [(z1, max z2 x2)]).length = p.length + 1 := by simp
                have h := (HO2.out.stored (p.length * 2 + 1) (i64 (max z2 x2))).1
                rw [flat_set_last] at h
                exact ⟨j + 1, _, f, p ++ [(z1, max z2 x2)], by omega, by omega, by go_num, by rw [e1], by rw [e1]; exact h, Lib.hid HMT.out.symm, by omega, HB2.out.setCell (p := ⟨g, p.length * 2 + 1, none⟩) hgb _⟩
            · rw [if_neg hjn] at HMT
              go_wp2_with fail
              go_quiet (fail)
              have hszq := hBq.size
              go_wp2_with (at_builtin; refine wpList_append_own _ rfl _ _ 22 rfl u1.heap.size 37 i0 (.agg #[i64 0, i64 0]) 2 16 Tryz.underlying22 hi hz0 hz1 hz2 rfl (by decide) (.slice (some ⟨g, 0, none⟩) (p.length + 1) f) (p.length + 1) (flat (p ++ [(z1, z2)])) rfl (own_below (own_below Oq.out ((Below.refl _ _).drewN nq)) (below_new _ _)) ⟨wr.heap.size, 0, none⟩ 1 1 [i64 x1, i64 x2] rfl rfl ?c1 ?c2 ?c3 ?c4 ?c5 ?_)
              case c1 =>
                intro j u hj
                rw [addr_addN, new_cell _ _ _ _ _ (by simp)]
                simpa using hj
              case c2 => intro u hu; simp at hu; rcases hu with rfl | rfl <;> rfl
              case c3 => unfold maxLen; omega
              case c4 => omega
              case c5 => simp; omega
              intro v' w2 hown2 hg2 _
              obtain ⟨A3, c3, rfl⟩ := own2_slice hown2
              have b2 := own_grown_below (own_below (own_below Oq.out ((Below.refl _ _).drewN nq)) (below_new _ (.cells #[i64 x1, i64 x2] 37))) (by simp; omega) hg2
              have hB2 := ((hBq.drewN nq).alloc hszq (.cells #[i64 x1, i64 x2] 37)).trans b2
              rw [show flat (p ++ [(z1, z2)]) ++ [i64 x1, i64 x2] = flat (p ++ [(z1, z2)] ++ [(x1, x2)]) by rw [flat_append _ [(x1, x2)], flat_one]] at hown2
              have HO2 := Lib.hid hown2
              have hl3 : (p ++ [(z1, z2)] ++ [(x1, x2)]).length = p.length + 1 + 1 := by simp
              clear hown2 hg2 b2 hBq Oq hszq
              go_wp2_with fail
              go_roundg (s.length - (j + 1))
              case measure => omega
              case rel => exact ⟨j + 1, A3, c3, p ++ [(z1, z2)] ++ [(x1, x2)], by omega, by omega, by go_num, by rw [hl3], by rw [hl3]; exact HO2.out, Lib.hid HMT.out.symm, by omega, hB2⟩
        · obtain rfl : j = s.length := by omega
          have hqN : Hid (q = NL) := by
            show q = _
            rw [Q.out, List.take_length, SS.out, ← V.out]; rfl
          go_wp2_with fail
          go_ret
          rw [← hqN.out]
          exact ⟨C, f, rfl, own_any Oq.out hsw, hB.trans (hBq.mono hsw)⟩
end Go.Proofs.YtcpennlojjlpaaaGreatDoor

namespace Go.Proofs.YtcpennlojjlpaaaGreatDoor
open Go.RowKit Go.Nr Go.Gn

/-- Ranges of the reference and an error. -/
def GivesRg (w : World) (S : List Rg) (er : Int) (e : Ending) (w' : World) : Prop :=
  ∃ A c, e = .returned (.tuple #[.slice A S.length c, i64 er]) ∧ RdR w' A S ∧ (∀ a, A = some a → Ty w' a.block 37) ∧ Below w.heap.size w w'
set_option maxRecDepth 100000 in
set_option maxHeartbeats 4000000 in
theorem refFrom_any (A : Option Addr) (c : Nat) (l : List Rg) (w : World) (hr : RdR w A l) (hn : l.length ≤ 4096) :
    Calls Tryz.prog 38 #[.slice A l.length c] w (GivesRg w (fromS l) (fromE l)) := by
  have HR := Lib.hid hr; clear hr
  obtain ⟨SE, hSE⟩ : ∃ n, fromE l = n := ⟨_, rfl⟩
  obtain ⟨SS, hSS⟩ : ∃ n, fromS l = n := ⟨_, rfl⟩
  rw [hSE, hSS]
  have VE := Lib.hid hSE
  have VS := Lib.hid hSS
  clear hSE hSS
  go_enter Tryz.func38, Tryz.ntmps38
  go_wp2_with fail
  go_loopg [4] l.length (fun gg iv wr => ∃ k : Nat, k ≤ l.length ∧ l.length - k ≤ gg ∧ iv = .int .i64 k ∧ Hid ((l.take k).all okB = true) ∧ Below w.heap.size w wr)
  case atStart => exact ⟨0, by omega, by omega, rfl, rfl, Below.refl _ _⟩
  case round =>
    obtain ⟨k, hk, hg, rfl, O, hB⟩ := hrel
    by_cases hlt : k < l.length
    · obtain ⟨b, o, x, rfl, _, hxk, hc1, hc2⟩ := (HR.out.below hB).at_ hlt
      have hts := all_take_succ hxk okB
      rw [O.out] at hts
      have HTS := Lib.hid hts
      have HX := Lib.hid hxk
      clear hts hxk
      obtain ⟨x1, x2⟩ := x
      simp only at hc1 hc2
      have hv := refValid_any x1 x2 wr
      cases hok : okB (x1, x2) with
      | true =>
        rw [hok] at hv HTS
        clear hok
        go_wp2_with fail
        refine hv.mono ?_; rintro e w1 ⟨rfl, b1⟩
        clear hv
        go_wp2_with fail
        go_roundg (l.length - (k + 1))
        case measure => omega
        case rel => exact ⟨k + 1, by omega, by omega, by go_num, Lib.hid (by rw [HTS.out]; rfl), hB.tr b1⟩
      | false =>
        rw [hok] at hv
        have e1 : Hid (SE = 2) := by (show SE = 2); rw [← VE.out]; unfold fromE; rw [if_neg (by rw [all_false_at HX.out hok]; exact Bool.false_ne_true)]
        have e2 : Hid (SS = []) := by (show SS = []); rw [← VS.out]; unfold fromS; rw [if_neg (by rw [all_false_at HX.out hok]; exact Bool.false_ne_true)]
        clear hok
        go_wp2_with fail
        refine hv.mono ?_; rintro e w1 ⟨rfl, b1⟩
        clear hv
        go_wp2_with fail
        go_ret2
        rw [e2.out, e1.out]
        exact ⟨none, 0, rfl, RdR.nil, (fun a h => by cases h), hB.tr b1⟩
    · obtain rfl : k = l.length := by omega
      have hall := O.out
      rw [List.take_length] at hall
      have e1 : Hid (SE = 0) := by (show SE = 0); rw [← VE.out]; unfold fromE; rw [if_pos hall]
      have e2 : Hid (SS = norm l) := by (show SS = norm l); rw [← VS.out]; unfold fromS; rw [if_pos hall]
      have hno := refNormal_any A c l wr (HR.out.below hB) (by omega) (fun r hr => by
        have := (okB_iff r).1 (List.all_eq_true.1 hall r hr)
        obtain ⟨z1, z2, z3⟩ := this
        exact ⟨by omega, z3⟩)
      have hnl := norm_length l
      clear hall O
      generalize norm l = nl at *
      go_wp2_with fail
      refine hno.mono ?_; rintro e w2 ⟨A2, c2, rfl, hown2, b2⟩
      clear hno
      have hlm := refLimited_any A2 nl.length c2 w2 (by omega)
      have HO2 := Lib.hid hown2
      have HB2 := Lib.hid (hB.tr b2)
      clear hown2 b2
      go_wp2_with fail
      refine hlm.mono ?_; rintro e w3 ⟨rfl, rfl⟩
      clear hlm
      go_wp2_with fail
      go_ret2
      rw [e2.out, e1.out]
      exact ⟨A2, c2, rfl, (RdR.of_own HO2.out).1, (fun a ha => (own_new HO2.out (Nat.le_refl _) a ha).2), HB2.out⟩
end Go.Proofs.YtcpennlojjlpaaaGreatDoor

namespace Go.Proofs.YtcpennlojjlpaaaGreatDoor
open Go.RowKit Go.Nr Go.Gn

set_option maxRecDepth 100000 in
set_option maxHeartbeats 2000000 in
theorem refOr_any (A B : Option Addr) (c d : Nat) (a b : List Rg) (w : World) (ha : RdR w A a) (hb : RdR w B b) (hn : a.length + b.length ≤ 1000000) (hra : ∀ r ∈ a, 0 ≤ r.2 ∧ r.2 ≤ M) (hrb : ∀ r ∈ b, 0 ≤ r.2 ∧ r.2 ≤ M) :
    Calls Tryz.prog 26 #[.slice A a.length c, .slice B b.length d] w (GivesRow 37 w.heap.size w (orS a b)) := by
  obtain ⟨i0, hi, hz0, hz1, hz2⟩ := info_parts rg_info
  have HA := Lib.hid ha
  have HB := Lib.hid hb
  have HR : Hid (∀ r ∈ a ++ b, 0 ≤ r.2 ∧ r.2 ≤ M) := fun r hr => (List.mem_append.1 hr).elim (hra r) (hrb r)
  clear ha hb hra hrb
  obtain ⟨T, hT⟩ : ∃ q, orS a b = q := ⟨_, rfl⟩
  have V : Hid (norm (a ++ b) = T) := hT
  rw [hT]
  clear hT
  go_enter Tryz.func26, Tryz.ntmps26
  go_wp2_with (at_builtin; refine wpList_appC Tryz.underlying22 hi hz0 hz1 hz2 rfl (by decide) _ rfl _ _ rfl w.heap.size _ 0 [] (own2_empty w w.heap.size 2 37 (Nat.le_refl _)) rfl A a.length c (flat a) (flat_length a) (HA.out.below (below_new _ _)).cells rfl (flat_one' a) (by omega) (by decide) (by simp) ?_)
  intro v' w2 hown hg2 hb2
  obtain ⟨A2, c2, rfl⟩ := own2_slice hown
  have hB2 := (below_new w (.cells #[] 37)).trans hb2
  have hsz2 := hB2.size
  have HO := Lib.hid hown
  have HB2 := Lib.hid hB2
  clear hown hg2 hb2 hB2
  go_wp2_with (at_builtin; refine wpList_appC Tryz.underlying22 hi hz0 hz1 hz2 rfl (by decide) _ rfl _ _ rfl w.heap.size (.slice A2 a.length c2) a.length (flat a) HO.out rfl B b.length d (flat b) (flat_length b) (HB.out.below HB2.out).cells rfl (flat_one' b) (by omega) (by decide) hsz2 ?_)
  intro v3 w3 hown hg3 hb3
  obtain ⟨A3, c3, rfl⟩ := own2_slice hown
  have hl : (a ++ b).length = a.length + b.length := List.length_append
  rw [← flat_append] at hown
  generalize a ++ b = ab at *
  rw [← hl] at hown hn ⊢
  have hrd := (RdR.of_own hown).1
  have hno := refNormal_any A3 c3 ab w3 hrd hn HR.out
  rw [V.out] at hno
  have hB3 := Lib.hid (HB2.out.trans hb3)
  clear hown hg3 hb3 hrd hl
  go_wp2_with fail
  refine hno.mono ?_; rintro e w4 ⟨A4, c4, rfl, hown4, b4⟩
  have HO4 := Lib.hid hown4
  clear hno hown4
  go_wp2_with fail
  go_ret
  exact ⟨A4, c4, rfl, own_any HO4.out hB3.out.size, hB3.out.tr b4⟩
end Go.Proofs.YtcpennlojjlpaaaGreatDoor

namespace Go.Nr
/-- What a range has in common with ranges. -/
def both1 (r : Rg) (b : List Rg) : List Rg := b.filterMap fun s => if max r.1 s.1 ≤ min r.2 s.2 then some (max r.1 s.1, min r.2 s.2) else none
theorem bothL_take {a : List Rg} {i : Nat} {r : Rg} (h : a[i]? = some r) (b : List Rg) : bothL (a.take (i + 1)) b = bothL (a.take i) b ++ both1 r b := by
  obtain ⟨hl, hx⟩ := List.getElem?_eq_some_iff.1 h
  rw [List.take_succ_eq_append_getElem hl, hx]
  simp [bothL, both1]
theorem both1_take {b : List Rg} {k : Nat} {s : Rg} (h : b[k]? = some s) (r : Rg) : both1 r (b.take (k + 1)) = both1 r (b.take k) ++ (if max r.1 s.1 ≤ min r.2 s.2 then [(max r.1 s.1, min r.2 s.2)] else []) := by
  obtain ⟨hl, hx⟩ := List.getElem?_eq_some_iff.1 h
  rw [List.take_succ_eq_append_getElem hl, hx]
  unfold both1
  rw [List.filterMap_append]
  congr 1
  by_cases hc : max r.1 s.1 ≤ min r.2 s.2
  · rw [if_pos hc, List.filterMap_cons_some (by rw [if_pos hc])]; rfl
  · rw [if_neg hc, List.filterMap_cons_none (by rw [if_neg hc])]; rfl
theorem both1_length (r : Rg) (b : List Rg) : (both1 r b).length ≤ b.length := List.length_filterMap_le _ _
theorem bothL_length (a b : List Rg) : (bothL a b).length ≤ a.length * b.length := by
  induction a with
  | nil => simp [bothL]
  | cons r a ih =>
    have h1 := both1_length r b
    have e : bothL (r :: a) b = both1 r b ++ bothL a b := by simp [bothL, both1]
    rw [e, List.length_append, List.length_cons, Nat.add_mul]; omega
theorem bothL_rng {a b : List Rg} {m : Int} (h : ∀ r ∈ a, r.2 ≤ m) (h1 : ∀ r ∈ a, 1 ≤ r.1) : ∀ r ∈ bothL a b, 0 ≤ r.2 ∧ r.2 ≤ m := by
  intro r hr
  have h0 := bothL_ok a b r hr
  obtain ⟨x, hx, hr⟩ := List.mem_flatMap.1 hr
  obtain ⟨y, hy, he⟩ := List.mem_filterMap.1 hr
  have := h x hx
  have := h1 x hx
  split at he
  · cases he
    simp only at h0 ⊢
    omega
  · cases he
end Go.Nr
namespace Go.Proofs.YtcpennlojjlpaaaGreatDoor
open Go.RowKit Go.Nr Go.Gn

/-- Two ways to fill one new block. -/
theorem below_swap {B : Nat} (w : World) (o o' : Obj) (h : B ≤ w.heap.size) : Below B (w.alloc o) (w.alloc o') :=
  ⟨rfl, rfl, rfl, by simp, fun i hi => by rw [Below.heap_alloc _ _ _ (by omega), Below.heap_alloc _ _ _ (by omega)]⟩

set_option maxRecDepth 100000 in
set_option maxHeartbeats 4000000 in
theorem refBoth_any (A B : Option Addr) (c d : Nat) (a b : List Rg) (w : World) (ha : RdR w A a) (hb : RdR w B b) (hn : a.length * b.length ≤ 1000000) (hna : a.length ≤ 1000000) (hnb : b.length ≤ 1000000) (ho : ∀ r ∈ a, 1 ≤ r.1 ∧ r.2 ≤ M) :
    Calls Tryz.prog 27 #[.slice A a.length c, .slice B b.length d] w (GivesRow 37 w.heap.size w (norm (bothL a b))) := by
  obtain ⟨i0, hi, hz0, hz1, hz2⟩ := info_parts rg_info
  have HA := Lib.hid ha
  have HB := Lib.hid hb
  have HR : Hid (∀ r ∈ bothL a b, 0 ≤ r.2 ∧ r.2 ≤ M) := bothL_rng (fun r hr => (ho r hr).2) (fun r hr => (ho r hr).1)
  clear ha hb ho
  obtain ⟨T, hT⟩ : ∃ q, bothL a b = q := ⟨_, rfl⟩
  have V := Lib.hid hT
  have hTl := bothL_length a b
  rw [hT] at HR hTl ⊢
  clear hT
  go_enter Tryz.func27, Tryz.ntmps27
  go_wp2_with fail
  go_loopg [5, 6] a.length (fun gg ov iv wr => ∃ (i : Nat) (C : Option Addr) (f : Nat) (q : List Rg), i ≤ a.length ∧ a.length - i ≤ gg ∧ iv = .int .i64 i ∧ ov = .slice C q.length f ∧ Hid (wr.ownsRow w.heap.size 37 2 (.slice C q.length f) q.length (flat q)) ∧ Hid (q = bothL (a.take i) b) ∧ Below w.heap.size w wr)
  case atStart => exact ⟨0, none, 0, [], by omega, by omega, rfl, rfl, own2_nil _ _ _ _, rfl, Below.refl _ _⟩
  case round =>
    obtain ⟨i, C, f, q, hii, hgi, rfl, rfl, O, Q, hB⟩ := hrel
    by_cases hlt : i < a.length
    · obtain ⟨b1, o1, x, rfl, _, hxi, hx1, hx2⟩ := HA.out.at_ hlt
      have hbt := bothL_take hxi b
      have hqT : Hid (∀ k, (q ++ both1 x (b.take k)).length ≤ T.length) := fun k => by
        have h1 : (bothL (a.take (i + 1)) b).length ≤ T.length := by
          rw [← V.out]
          have e : bothL a b = bothL (a.take (i + 1)) b ++ bothL (a.drop (i + 1)) b := by
            conv => lhs; rw [← List.take_append_drop (i + 1) a]
            unfold bothL; rw [List.flatMap_append]
          rw [e, List.length_append]; omega
        have h2 : (both1 x (b.take k)).length ≤ (both1 x b).length := (List.take_sublist k b).filterMap _ |>.length_le
        rw [hbt, ← Q.out, List.length_append] at h1
        rw [List.length_append]; omega
      rw [← Q.out] at hbt
      have HBT := Lib.hid hbt
      obtain ⟨x1, x2⟩ := x
      simp only at hx1 hx2
      have HX1 := Lib.hid hx1
      have HX2 := Lib.hid hx2
      clear hxi hx1 hx2 hbt Q
      go_wp2_with fail
      go_loopg [5, 7] b.length (fun gg ov kv wq => ∃ (k : Nat) (C : Option Addr) (f : Nat) (p : List Rg), k ≤ b.length ∧ b.length - k ≤ gg ∧ kv = .int .i64 k ∧ ov = .slice C p.length f ∧ Hid (wq.ownsRow w.heap.size 37 2 (.slice C p.length f) p.length (flat p)) ∧ Hid (p = q ++ both1 (x1, x2) (b.take k)) ∧ Below w.heap.size w wq)
      case atStart => exact ⟨0, C, f, q, by omega, by omega, rfl, rfl, O, (by show q = q ++ []; simp), hB⟩
      case round =>
        obtain ⟨k, C, f, p, hkk, hgk, rfl, rfl, O, P, hB⟩ := hrel
        by_cases hlt2 : k < b.length
        · obtain ⟨b2, o2, y, rfl, _, hyk, hy1, hy2⟩ := HB.out.at_ hlt2
          have hpt := both1_take hyk (x1, x2)
          obtain ⟨y1, y2⟩ := y
          simp only at hy1 hy2 hpt
          have hpl : p.length ≤ T.length := by rw [P.out]; exact hqT.out k
          have HPT : Hid (q ++ both1 (x1, x2) (b.take (k + 1)) = p ++ (if max x1 y1 ≤ min x2 y2 then [(max x1 y1, min x2 y2)] else [])) := by
            show _ = _
            rw [hpt, P.out, List.append_assoc]
          have hsz := hB.size
          have HY1 := Lib.hid hy1
          have HY2 := Lib.hid hy2
          have hownd : wr.drew.ownsRow w.heap.size _ 2 _ _ _ := own_below O.out ((Below.refl _ _).drew)
          have HOD := Lib.hid hownd
          have HBD := Lib.hid hB.drew
          clear hyk hy1 hy2 hpt P O hB hownd
          have hi0 : (0 : Int) ≤ (i : Int) := by omega
          have hi1 : (i : Int) < (a.length : Int) := by omega
          have hk0 : (0 : Int) ≤ (k : Int) := by omega
          have hk1 : (k : Int) < (b.length : Int) := by omega
          go_wp2_with fail
          refine Flow.wp_region_segs (fun u v => Below w.heap.size u v) (fun _ => Below.refl _ _) (fun u v x h k => Below.trans h k) [([0, 1, 2, 3, 4, 5, 6, 7, 8, 9, 10, 11, 12, 13, 14, 15, 16, 17, 18, 19, 20, 21, 22], 23), ([], 24)] [] (by kernel_rfl) (by kernel_rfl) ?_
          generalize wr.drew = wd at *
          have q1 : ∀ t : Flow.Cls (fun v => Below w.heap.size wd v), t.val.cell? ⟨b1, o1 + i * 2, none⟩ = some (i64 x1) := fun t => Below.cellv (HBD.out.trans t.ok) HX1.out
          have q2 : ∀ t : Flow.Cls (fun v => Below w.heap.size wd v), t.val.cell? ⟨b1, o1 + i * 2 + 1, none⟩ = some (i64 x2) := fun t => Below.cellv (HBD.out.trans t.ok) HX2.out
          have q3 : ∀ t : Flow.Cls (fun v => Below w.heap.size wd v), t.val.cell? ⟨b2, o2 + k * 2, none⟩ = some (i64 y1) := fun t => Below.cellv (HBD.out.trans t.ok) HY1.out
          have q4 : ∀ t : Flow.Cls (fun v => Below w.heap.size wd v), t.val.cell? ⟨b2, o2 + k * 2 + 1, none⟩ = some (i64 y2) := fun t => Below.cellv (HBD.out.trans t.ok) HY2.out
          haveI nonE : Nonempty (Flow.Cls (fun v => Below w.heap.size wd v)) := ⟨⟨wd, Below.refl _ _⟩⟩
          rw [Flow.wpSegs_cons]
          simp only [Flow.pick, List.getElem?_toArray, List.getElem?_cons_succ, List.getElem?_cons_zero]
          repeat go_big_quiet_step (fail)
          refine wpQuiet_nil ?_
          clear nonE q1 q2 q3 q4
          rw [Flow.callAt_eq]
          simp only [List.getElem?_toArray, List.getElem?_cons_succ, List.getElem?_cons_zero]
          rw [if_pos (by rfl)]
          refine Flow.wp_behind (fun K hK => ?_)
          go_wp2_with fail
          refine hK.out _ _ ⟨(Below.refl _ _).alloc HBD.out.size _, ?_⟩
          clear hK K
          rw [Flow.wpSegs_cons]
          simp only [Flow.pick]
          refine wpQuiet_nil ?_
          rw [Flow.callAt_eq]
          simp only [List.getElem?_toArray, List.getElem?_cons_succ, List.getElem?_cons_zero]
          rw [if_pos (by rfl)]
          refine Flow.wp_behind (fun K hK => ?_)
          go_wp2_with fail
          refine hK.out _ _ ⟨below_swap _ _ _ HBD.out.size, ?_⟩
          clear hK K
          haveI nonE : Nonempty (Flow.Cls (fun v => Below w.heap.size (wd.alloc (.cells #[.int .i64 (max x1 y1), .int .i64 (min x2 y2)] 37)) v)) := ⟨⟨_, Below.refl _ _⟩⟩
          rw [Flow.wpSegs_nil]
          simp only [Flow.pick]
          refine wpQuiet_nil ?_
          clear nonE
          by_cases hc : max x1 y1 ≤ min x2 y2
          · rw [if_pos hc] at HPT
            generalize max x1 y1 = m1 at *
            generalize min x2 y2 = m2 at *
            go_wp2_with (at_builtin; refine wpList_append_own _ rfl _ _ 22 rfl w.heap.size 37 i0 (.agg #[i64 0, i64 0]) 2 16 Tryz.underlying22 hi hz0 hz1 hz2 rfl (by decide) (.slice C p.length f) p.length (flat p) rfl (own_below (own_below HOD.out (below_new _ _)) (below_new _ _)) ⟨wd.heap.size + 1, 0, none⟩ 1 1 [i64 m1, i64 m2] rfl rfl ?c1 ?c2 ?c3 ?c4 ?c5 ?_)
            case c1 =>
              intro j u hj
              rw [addr_addN, new_cell _ _ _ _ _ (by simp)]
              simpa using hj
            case c2 => intro u hu; simp at hu; rcases hu with rfl | rfl <;> rfl
            case c3 => unfold maxLen; omega
            case c4 => omega
            case c5 => have := HBD.out.size; simp; omega
            intro v' w2 hown2 hg2 _
            obtain ⟨A3, c3, rfl⟩ := own2_slice hown2
            have hoo : ((wd.alloc (.cells #[i64 m1, i64 m2] 37)).alloc (.cells #[i64 m1, i64 m2] 37)).ownsRow w.heap.size _ 2 _ _ _ := own_below (own_below HOD.out (below_new _ _)) (below_new _ _)
            have b2 := own_grown_below hoo (by have := HBD.out.size; simp; omega) hg2
            rw [show flat p ++ [i64 m1, i64 m2] = flat (p ++ [(m1, m2)]) by rw [flat_append, flat_one]] at hown2
            have hB2 := ((HBD.out.tr (below_new _ _)).tr (below_new _ _)).trans b2
            have HO2 := Lib.hid hown2
            have HB2 := Lib.hid hB2
            have hl3 : (p ++ [(m1, m2)]).length = p.length + 1 := by simp
            have HL3 := Lib.hid hl3
            clear hown2 hg2 b2 hoo hB2 hl3
            go_wp2_with fail
            go_roundg (b.length - (k + 1))
            case measure => omega
            case rel => exact ⟨k + 1, A3, c3, p ++ [(m1, m2)], by omega, by omega, by go_num, by rw [HL3.out], by rw [HL3.out]; exact HO2, HPT.out.symm, HB2.out⟩
          · rw [if_neg hc, List.append_nil] at HPT
            generalize max x1 y1 = m1 at *
            generalize min x2 y2 = m2 at *
            go_wp2_with fail
            go_roundg (b.length - (k + 1))
            case measure => omega
            case rel => exact ⟨k + 1, C, f, p, by omega, by omega, by go_num, rfl, own_below HOD.out (below_new _ _), HPT.out.symm, HBD.out.tr (below_new _ _)⟩
        · obtain rfl : k = b.length := by omega
          have hpe : Hid (p = bothL (a.take (i + 1)) b) := by
            show p = _
            rw [HBT.out, P.out, List.take_length]
          go_wp2_with fail
          go_roundg (a.length - (i + 1))
          case measure => omega
          case rel => exact ⟨i + 1, C, f, p, by omega, by omega, by go_num, rfl, O, hpe, hB⟩
    · obtain rfl : i = a.length := by omega
      have hqe : Hid (q = T) := by
        show q = T
        rw [Q.out, List.take_length, V.out]
      rw [hqe.out] at O ⊢
      have hsz := hB.size
      have hno := refNormal_any C f T wr (RdR.of_own O.out).1 (by omega) HR.out
      have HBW := Lib.hid hB
      clear O Q hB hqe
      go_wp2_with fail
      refine hno.mono ?_; rintro e w4 ⟨A4, c4, rfl, hown4, b4⟩
      have HO4 := Lib.hid hown4
      clear hno hown4
      go_wp2_with fail
      go_ret
      exact ⟨A4, c4, rfl, own_any HO4.out hsz, HBW.out.tr b4⟩

set_option maxHeartbeats 1000000 in
theorem refMinus_any (A B : Option Addr) (c d : Nat) (a b : List Rg) (w : World) (ha : RdR w A a) (hb : RdR w B b) (hoa : Okset a) (hob : Okset b) (hn : a.length + b.length ≤ 900) :
    Calls Tryz.prog 28 #[.slice A a.length c, .slice B b.length d] w (GivesRow 37 w.heap.size w (minusS a b)) := by
  have hrest := refRest_any B d b w hb hob.2 (by omega)
  have HA := Lib.hid ha
  have hrl : (restFrom M 1 b).length ≤ b.length + 1 := by
    have h := restFrom_gaps M b 1
    have h2 := gapsL_length b 1
    rw [h, List.length_append]
    split <;> simp <;> omega
  obtain ⟨rs, hrs⟩ : ∃ q, restFrom M 1 b = q := ⟨_, rfl⟩
  have V : Hid (minusS a b = norm (bothL a rs)) := by (show minusS a b = _); rw [← hrs]; rfl
  rw [hrs] at hrest hrl
  rw [V.out]
  have hmul : a.length * rs.length ≤ 900 * 901 := Nat.mul_le_mul (by omega) (by omega)
  have hmul : a.length * rs.length ≤ 1000000 := by omega
  have HBo := Lib.hid (fun C f W (h1 : RdR W A a) (h2 : RdR W C rs) => refBoth_any A C c f a rs W h1 h2 hmul (by omega) (by omega) (fun r hr => ⟨(hoa.2 r hr).1, (hoa.2 r hr).2.2⟩))
  clear hmul ha hb hrs hoa hob
  generalize norm (bothL a rs) = T at *
  go_enter Tryz.func28, Tryz.ntmps28
  go_wp2_with fail
  refine hrest.mono ?_; rintro e w1 ⟨C, f, rfl, hown, b1⟩
  have HC := Lib.hid (RdR.of_own hown).1
  have HA1 := Lib.hid (HA.out.below b1)
  have HB1 := Lib.hid b1
  clear hrest hown b1
  go_wp2_with fail
  refine (HBo.out C f _ HA1.out HC.out).mono ?_; rintro e w4 ⟨A4, c4, rfl, hown4, b4⟩
  have HO4 := Lib.hid hown4
  clear hown4
  go_wp2_with fail
  go_ret
  exact ⟨A4, c4, rfl, own_any HO4.out HB1.out.size, HB1.out.tr b4⟩
end Go.Proofs.YtcpennlojjlpaaaGreatDoor

namespace Go.Proofs.YtcpennlojjlpaaaGreatDoor
open Go.RowKit Go.Nr Go.Gn

theorem run_cat46 (a b : List UInt8) (h : a.length + b.length ≤ 100000000) (u : World) : (Op.stringOp .add ⟨a.toArray⟩ ⟨b.toArray⟩).run Tryz.prog u = .ok (enS (a ++ b)) u := by
  have e : IntKind.i64.max = 9223372036854775807 := by decide
  have hs : ¬ (((⟨a.toArray⟩ : ByteArray).size + (⟨b.toArray⟩ : ByteArray).size : Nat) : Int) > IntKind.i64.max := by
    rw [e]
    show ¬ ((a.toArray.size + b.toArray.size : Nat) : Int) > _
    simp; omega
  unfold Op.stringOp
  simp only
  rw [if_neg hs, bcat]
  rfl
/-- The digit of a number below ten. -/
def digC (d : Nat) : UInt8 := UInt8.ofNat (48 + d)
theorem dig_ext {d : Nat} (h : d < 10) : (⟨#[48, 49, 50, 51, 52, 53, 54, 55, 56, 57]⟩ : ByteArray).extract d (d + 1) = ⟨[digC d].toArray⟩ := by
  have : ∀ d : Fin 10, (⟨#[48, 49, 50, 51, 52, 53, 54, 55, 56, 57]⟩ : ByteArray).extract d.1 (d.1 + 1) = ⟨[digC d.1].toArray⟩ := by decide +kernel
  exact this ⟨d, h⟩
theorem decDigits_dig {n : Nat} (h : n < 10) : Lib.decDigits n = [digC n] := Lib.decDigits_one h
theorem decDigits_ten {m d : Nat} (hm : 0 < m) (hd : d < 10) : Lib.decDigits (10 * m + d) = Lib.decDigits m ++ [digC d] := by
  rw [Lib.decDigits, dif_neg (by omega), show (10 * m + d) / 10 = m by omega, show (10 * m + d) % 10 = d by omega]; rfl

set_option maxRecDepth 100000 in
set_option maxHeartbeats 2000000 in
theorem decimal_any (k : Nat) : ∀ (n : Nat) (w : World), n < 10 ^ k → k ≤ 18 → Calls Tryz.prog 94 #[i64 n] w fun e w' => e = .returned (.string ⟨(Lib.decDigits n).toArray⟩) ∧ ∃ m, w' = w.drewN m := by
  induction k with
  | zero =>
    intro n w h _
    obtain rfl : n = 0 := by simp at h; omega
    have hx := dig_ext (show 0 < 10 by omega)
    have V := Lib.hid (decDigits_dig (show 0 < 10 by omega))
    go_enter Tryz.func94, Tryz.ntmps94
    go_wp2_with fail
    go_ret
    rw [V.out]
    exact ⟨by first | rfl | (simp only [hx]), 0, rfl⟩
  | succ k ih =>
    intro n w h hk
    by_cases h10 : n < 10
    · have hx := dig_ext h10
      have V := Lib.hid (decDigits_dig h10)
      go_enter Tryz.func94, Tryz.ntmps94
      go_wp2_with fail
      go_ret
      rw [V.out]
      exact ⟨by first | rfl | (simp only [hx]), 0, rfl⟩
    · obtain ⟨m, d, hmd, hd⟩ : ∃ m d, n = 10 * m + d ∧ d < 10 := ⟨n / 10, n % 10, by omega, by omega⟩
      have hm : 0 < m := by omega
      have V : Hid (Lib.decDigits n = Lib.decDigits m ++ [digC d]) := by (show Lib.decDigits n = _); rw [hmd]; exact decDigits_ten hm hd
      have h18 : n ≤ 1000000000000000000 := by
        have := Nat.pow_le_pow_right (show 0 < 10 by omega) hk
        have e : 10 ^ 18 = 1000000000000000000 := by decide
        omega
      have hmk : m < 10 ^ k := by rw [Nat.pow_succ] at h; omega
      have IH := Lib.hid (fun W => ih m W hmk (by omega))
      have hlen := digits_len m 18 (Nat.lt_of_lt_of_le hmk (Nat.pow_le_pow_right (by omega) (by omega))) (by omega)
      have hq : (n : Int) / 10 = (m : Int) := by omega
      have hr : (n : Int) % 10 = (d : Int) := by omega
      have hx := dig_ext hd
      have hc := run_cat46 (Lib.decDigits m) [digC d] (by simp; omega)
      clear ih hmd h hlen hmk
      generalize Lib.decDigits m = dm at *
      go_enter Tryz.func94, Tryz.ntmps94
      go_wp2_with fail
      go_quiet ((go_at_call 94; exact Calls.quiet_of (IH.out _)))
      go_wp2_with fail
      go_ret
      rw [V.out]
      exact ⟨rfl, _, rfl⟩
theorem decimal_at (n : Int) (w : World) (h0 : 0 ≤ n) (h1 : n ≤ M) : Calls Tryz.prog 94 #[i64 n] w fun e w' => e = .returned (.string ⟨(Lib.decDigits n.toNat).toArray⟩) ∧ ∃ m, w' = w.drewN m := by
  obtain ⟨m, rfl⟩ : ∃ m : Nat, n = m := ⟨n.toNat, by omega⟩
  rw [M_eq] at h1
  exact decimal_any 13 m w (by omega) (by omega)

theorem cat44 : (⟨#[44]⟩ : ByteArray) = ⟨[44].toArray⟩ := rfl
theorem cat45 : (⟨#[45]⟩ : ByteArray) = ⟨[45].toArray⟩ := rfl
set_option maxRecDepth 100000 in
set_option maxHeartbeats 4000000 in
theorem refText_any (A : Option Addr) (c : Nat) (l : List Rg) (w : World) (hr : RdR w A l) (ho : ∀ r ∈ l, ok r) (hn : l.length ≤ 100000) :
    Calls Tryz.prog 52 #[.slice A l.length c] w fun e w' => e = .returned (.string ⟨(setT l).toArray⟩) ∧ ∃ m, w' = w.drewN m := by
  have HR := Lib.hid hr
  have HO := Lib.hid ho
  clear hr ho
  go_enter Tryz.func52, Tryz.ntmps52
  go_wp2_with fail
  go_loopg [3, 4] l.length (fun gg sv iv wr => ∃ (k m : Nat) (q : List UInt8), k ≤ l.length ∧ l.length - k ≤ gg ∧ iv = .int .i64 k ∧ sv = enS q ∧ Hid (q = text 44 ((l.map itemT).take k)) ∧ wr = w.drewN m)
  case atStart => exact ⟨0, 0, [], by omega, by omega, rfl, rfl, rfl, rfl⟩
  case round =>
    obtain ⟨k, m, q, hk, hgk, rfl, rfl, Q, rfl⟩ := hrel
    by_cases hlt : k < l.length
    · obtain ⟨b, o, x, rfl, _, hxk, hc1, hc2⟩ := HR.out.at_ hlt
      have hg := text_grow 44 (l.map itemT) k (itemT x) (by rw [List.getElem?_map, hxk]; rfl)
      rw [← Q.out] at hg
      obtain ⟨o1, o2, o3⟩ := HO.out x (List.mem_of_getElem? hxk)
      have hol := itemT_len ⟨o1, o2, o3⟩
      have hql : q.length ≤ 2800000 := by
        rw [Q.out]
        have h1 := setT_len (l := l.take k) (fun r hr => HO.out r (List.mem_of_mem_take hr))
        rw [setT, List.map_take, List.length_take] at h1
        omega
      obtain ⟨x1, x2⟩ := x
      simp only at hc1 hc2 o1 o2 o3
      have d1 := digits_le (show x1 ≤ M by omega)
      have d2 := digits_le o3
      have hd1 := Lib.hid (fun W => decimal_at x1 W (by omega) (by omega))
      have hd2 := Lib.hid (fun W => decimal_at x2 W (by omega) o3)
      have hit : itemT (x1, x2) = if x1 = x2 then Lib.decDigits x1.toNat else Lib.decDigits x1.toNat ++ 45 :: Lib.decDigits x2.toNat := rfl
      have HG := Lib.hid hg
      have HIT := Lib.hid hit
      clear hg hit hxk Q
      rw [M_eq] at o3
      generalize Lib.decDigits x1.toNat = t1 at *
      generalize Lib.decDigits x2.toNat = t2 at *
      have hk0 : (0 : Int) ≤ (k : Int) := by omega
      have hk1 : (k : Int) < (l.length : Int) := by omega
      by_cases h0 : 0 < k
      · rw [if_pos h0] at HG
        by_cases he : x1 = x2
        · have HI2 : Hid (itemT (x1, x2) = t1) := by (show itemT (x1, x2) = t1); rw [HIT.out, if_pos he]
          have hgt2 : decide (x2 > x1) = false := decide_eq_false (by omega)
          clear he
          go_wp2_with fail
          refine (hd1.out _).mono ?_; rintro e w1 ⟨rfl, m1, rfl⟩
          go_wp2_with fail
          go_quiet (fail)
          go_wp2_with fail
          go_roundg (l.length - (k + 1))
          case measure => omega
          case rel => exact ⟨k + 1, _, q ++ [44] ++ t1, by omega, by omega, by go_num, str_congr (by simp only [bcat]), by (show q ++ [44] ++ t1 = _); rw [HG.out, HI2.out]; try simp, rfl⟩
        · have HI2 : Hid (itemT (x1, x2) = t1 ++ 45 :: t2) := by (show itemT (x1, x2) = _); rw [HIT.out, if_neg he]
          have hgt2 : decide (x2 > x1) = true := decide_eq_true (by omega)
          clear he
          go_wp2_with fail
          refine (hd1.out _).mono ?_; rintro e w1 ⟨rfl, m1, rfl⟩
          go_wp2_with fail
          go_quiet (fail)
          go_wp2_with fail
          refine (hd2.out _).mono ?_; rintro e w2 ⟨rfl, m2, rfl⟩
          go_wp2_with fail
          go_roundg (l.length - (k + 1))
          case measure => omega
          case rel => exact ⟨k + 1, _, q ++ [44] ++ t1 ++ [45] ++ t2, by omega, by omega, by go_num, str_congr (by simp only [bcat]), by (show q ++ [44] ++ t1 ++ [45] ++ t2 = _); rw [HG.out, HI2.out]; try simp, rfl⟩
      · rw [if_neg h0] at HG
        by_cases he : x1 = x2
        · have HI2 : Hid (itemT (x1, x2) = t1) := by (show itemT (x1, x2) = t1); rw [HIT.out, if_pos he]
          have hgt2 : decide (x2 > x1) = false := decide_eq_false (by omega)
          clear he
          go_wp2_with fail
          refine (hd1.out _).mono ?_; rintro e w1 ⟨rfl, m1, rfl⟩
          go_wp2_with fail
          go_quiet (fail)
          go_wp2_with fail
          go_roundg (l.length - (k + 1))
          case measure => omega
          case rel => exact ⟨k + 1, _, q ++ t1, by omega, by omega, by go_num, str_congr (by simp only [bcat]), by (show q ++ t1 = _); rw [HG.out, HI2.out]; try simp, rfl⟩
        · have HI2 : Hid (itemT (x1, x2) = t1 ++ 45 :: t2) := by (show itemT (x1, x2) = _); rw [HIT.out, if_neg he]
          have hgt2 : decide (x2 > x1) = true := decide_eq_true (by omega)
          clear he
          go_wp2_with fail
          refine (hd1.out _).mono ?_; rintro e w1 ⟨rfl, m1, rfl⟩
          go_wp2_with fail
          go_quiet (fail)
          go_wp2_with fail
          refine (hd2.out _).mono ?_; rintro e w2 ⟨rfl, m2, rfl⟩
          go_wp2_with fail
          go_roundg (l.length - (k + 1))
          case measure => omega
          case rel => exact ⟨k + 1, _, q ++ t1 ++ [45] ++ t2, by omega, by omega, by go_num, str_congr (by simp only [bcat]), by (show q ++ t1 ++ [45] ++ t2 = _); rw [HG.out, HI2.out]; try simp, rfl⟩
    · obtain rfl : k = l.length := by omega
      have hq : q = setT l := by rw [Q.out, List.take_of_length_le (by simp)]; rfl
      subst hq
      go_wp2_with fail
      go_ret
      exact ⟨rfl, m, rfl⟩
end Go.Proofs.YtcpennlojjlpaaaGreatDoor

namespace Go.Nr
/-- What the reference's number returns. -/
def numV (s : List UInt8) : Int := if okNum s = true then (val s : Int) else -1
def num0 (s : List UInt8) : Int := if okNum s = true then (val s : Int) else 0
theorem all_take_dig {s : List UInt8} {k : Nat} (hk : k < s.length) : (s.take (k + 1)).all isDig = ((s.take k).all isDig && isDig (s.getD k 0)) := by
  rw [List.take_succ_eq_append_getElem hk, List.all_append]; simp [hk]
theorem val_take {s : List UInt8} {k : Nat} (hk : k < s.length) : val (s.take (k + 1)) = 10 * val (s.take k) + ((s.getD k 0).toNat - 48) := by
  rw [List.take_succ_eq_append_getElem hk, val_snoc]; simp [hk]
theorem dig_iff (c : UInt8) : isDig c = true ↔ 48 ≤ c.toNat ∧ c.toNat ≤ 57 := by simp [isDig]
theorem okNum_iff (s : List UInt8) : okNum s = true ↔ 1 ≤ s.length ∧ s.length ≤ 13 ∧ s.getD 0 0 ≠ 48 ∧ s.all isDig = true := by
  unfold okNum; simp only [Bool.and_eq_true, decide_eq_true_eq, and_assoc]
theorem dig_false_at {s : List UInt8} {k : Nat} (hk : k < s.length) (h : isDig (s.getD k 0) = false) : okNum s = false := by
  rw [Bool.eq_false_iff]
  intro ho
  have h4 := ((okNum_iff s).1 ho).2.2.2
  have := List.all_eq_true.1 h4 (s.getD k 0) (by simp [hk])
  rw [h] at this; cases this
end Go.Nr
namespace Go.Proofs.YtcpennlojjlpaaaGreatDoor
open Go.RowKit Go.Nr Go.Gn

set_option maxRecDepth 100000 in
set_option maxHeartbeats 4000000 in
theorem refNumber_any (s : List UInt8) (w : World) (hl : s.length ≤ 1000000000) :
    Calls Tryz.prog 118 #[enS s] w fun e w' => e = .returned (i64 (numV s)) ∧ w = w' := by
  by_cases h0 : s = []
  · subst h0
    have V : Hid (numV [] = -1) := (show numV [] = -1 by decide)
    go_enter Tryz.func118, Tryz.ntmps118
    go_wp2_with fail
    go_ret
    exact ⟨ret_int V.out.symm, rfl⟩
  · have hne : (s == []) = false := by simpa using h0
    have hpos : 0 < s.length := List.length_pos_iff.2 h0
    have HNE := Lib.hid h0
    clear h0
    by_cases h13 : 13 < s.length
    · have V : Hid (numV s = -1) := by
        show numV s = -1
        unfold numV; rw [if_neg (by rw [okNum_iff]; omega)]
      go_enter Tryz.func118, Tryz.ntmps118
      go_wp2_with fail
      go_ret
      exact ⟨ret_int V.out.symm, rfl⟩
    · have bg := bget (t := s) (p := 0) (show 0 < s.toArray.size by simpa using hpos) hpos
      obtain ⟨c, hc⟩ : ∃ c, s.getD 0 0 = c := ⟨_, rfl⟩
      rw [hc] at bg
      have HC := Lib.hid hc
      clear hc
      by_cases h48 : c = 48
      · subst h48
        have V : Hid (numV s = -1) := by
          show numV s = -1
          unfold numV; rw [if_neg (by rw [okNum_iff]; exact fun h => h.2.2.1 HC.out)]
        go_enter Tryz.func118, Tryz.ntmps118
        go_wp2_with fail
        go_ret
        exact ⟨ret_int V.out.symm, rfl⟩
      · have hc48 : ((c.toNat : Int) == 48) = false := by
          simp; intro e; exact h48 (UInt8.toNat_inj.1 (by simpa using (by omega : c.toNat = 48)))
        have hc48' : (c.toNat == 48) = false := by
          simp; intro e; exact h48 (UInt8.toNat_inj.1 (by simpa using e))
        have h48' : s.getD 0 0 ≠ 48 := fun e => h48 (HC.out.symm.trans e)
        have H48 := Lib.hid h48'
        clear h48 h48'
        go_enter Tryz.func118, Tryz.ntmps118
        go_wp2_with fail
        clear bg hc48 hc48' HC
        go_loopg [3, 4] s.length (fun gg nv iv wr => ∃ (k n : Nat), k ≤ s.length ∧ s.length - k ≤ gg ∧ iv = .int .i64 k ∧ nv = .int .i64 n ∧ n < 10000000000000 ∧ Hid (n = val (s.take k) ∧ (s.take k).all isDig = true) ∧ w = wr)
        case atStart => exact ⟨0, 0, by omega, by omega, rfl, rfl, by omega, ⟨rfl, rfl⟩, rfl⟩
        case round =>
          obtain ⟨k, n, hk, hgk, rfl, rfl, hn, Q, rfl⟩ := hrel
          by_cases hlt : k < s.length
          · have bg := bget (t := s) (p := k) (show k < s.toArray.size by simpa using hlt) hlt
            have hv := val_take hlt
            have ha := all_take_dig hlt
            rw [Q.out.2, Bool.true_and] at ha
            rw [← Q.out.1] at hv
            have hd := dig_false_at hlt
            have hi := dig_iff (s.getD k 0)
            obtain ⟨c, hc⟩ : ∃ c, s.getD k 0 = c := ⟨_, rfl⟩
            rw [hc] at bg hv ha hd hi
            have HV := Lib.hid hv
            have HAl := Lib.hid ha
            have HD := Lib.hid hd
            clear hc hv ha hd
            have hc255 : c.toNat < 256 := c.toNat_lt
            by_cases h1 : c.toNat < 48
            · have V : Hid (numV s = -1) := by
                show numV s = -1
                unfold numV; rw [if_neg (by rw [HD.out (by rw [Bool.eq_false_iff, ne_eq, hi]; omega)]; exact Bool.false_ne_true)]
              clear hi
              have h1i : (c.toNat : Int) < 48 := by omega
              go_wp2_with fail
              go_ret
              exact ⟨ret_int V.out.symm, rfl⟩
            · by_cases h2 : 57 < c.toNat
              · have V : Hid (numV s = -1) := by
                  show numV s = -1
                  unfold numV; rw [if_neg (by rw [HD.out (by rw [Bool.eq_false_iff, ne_eq, hi]; omega)]; exact Bool.false_ne_true)]
                clear hi
                go_wp2_with fail
                go_ret
                exact ⟨ret_int V.out.symm, rfl⟩
              · have hdg : isDig c = true := hi.2 (by omega)
                have hvl := val_lt (s.take (k + 1)) (HAl.out.trans hdg)
                have hp : 10 ^ (s.take (k + 1)).length ≤ 10 ^ 13 := Nat.pow_le_pow_right (by omega) (by rw [List.length_take]; omega)
                have hvb : 10 * n + (c.toNat - 48) < 10000000000000 := by
                  have e : 10 ^ 13 = 10000000000000 := by decide
                  rw [HV.out] at hvl; omega
                have HDG := Lib.hid hdg
                clear hi hvl hp hdg
                go_wp2_with fail
                go_roundg (s.length - (k + 1))
                case measure => omega
                case rel => exact ⟨k + 1, 10 * n + (c.toNat - 48), by omega, by omega, by go_num, by congr 1; omega, hvb, ⟨HV.out.symm, HAl.out.trans HDG.out⟩, rfl⟩
          · obtain rfl : k = s.length := by omega
            have V : Hid (numV s = n) := by
              have h1 := Q.out.1
              have h2 := Q.out.2
              rw [List.take_length] at h1 h2
              show numV s = n
              unfold numV; rw [if_pos ((okNum_iff s).2 ⟨by omega, by omega, H48.out, h2⟩), h1]
            go_wp2_with fail
            go_ret
            exact ⟨ret_int V.out.symm, rfl⟩
set_option maxRecDepth 100000 in
set_option maxHeartbeats 4000000 in
theorem parseNumber_any (s : List UInt8) (w : World) (hl : s.length ≤ 1000000000) :
    Calls Tryz.prog 117 #[enS s] w fun e w' => e = .returned (.tuple #[i64 (num0 s), .bool (okNum s)]) ∧ w = w' := by
  by_cases h0 : s = []
  · subst h0
    have V : Hid (num0 [] = 0 ∧ okNum [] = false) := (show num0 [] = 0 ∧ okNum [] = false by decide)
    go_enter Tryz.func117, Tryz.ntmps117
    go_wp2_with fail
    go_ret2
    rw [V.out.1, V.out.2]
    exact ⟨rfl, rfl⟩
  · have hne : (s == []) = false := by simpa using h0
    have hpos : 0 < s.length := List.length_pos_iff.2 h0
    have HNE := Lib.hid h0
    clear h0
    by_cases h13 : 13 < s.length
    · have V : Hid (num0 s = 0 ∧ okNum s = false) := by
        have h : ¬ okNum s = true := by rw [okNum_iff]; omega
        exact (show num0 s = 0 ∧ okNum s = false from ⟨by unfold num0; rw [if_neg h], by simpa using h⟩)
      go_enter Tryz.func117, Tryz.ntmps117
      go_wp2_with fail
      go_ret2
      rw [V.out.1, V.out.2]
      exact ⟨rfl, rfl⟩
    · have bg := bget (t := s) (p := 0) (show 0 < s.toArray.size by simpa using hpos) hpos
      obtain ⟨c, hc⟩ : ∃ c, s.getD 0 0 = c := ⟨_, rfl⟩
      rw [hc] at bg
      have HC := Lib.hid hc
      clear hc
      by_cases h48 : c = 48
      · subst h48
        have V : Hid (num0 s = 0 ∧ okNum s = false) := by
          have h : ¬ okNum s = true := by rw [okNum_iff]; exact fun h => h.2.2.1 HC.out
          exact (show num0 s = 0 ∧ okNum s = false from ⟨by unfold num0; rw [if_neg h], by simpa using h⟩)
        go_enter Tryz.func117, Tryz.ntmps117
        go_wp2_with fail
        go_ret2
        rw [V.out.1, V.out.2]
        exact ⟨rfl, rfl⟩
      · have hc48 : ((c.toNat : Int) == 48) = false := by
          simp; intro e; exact h48 (UInt8.toNat_inj.1 (by simpa using (by omega : c.toNat = 48)))
        have hc48' : (c.toNat == 48) = false := by
          simp; intro e; exact h48 (UInt8.toNat_inj.1 (by simpa using e))
        have h48' : s.getD 0 0 ≠ 48 := fun e => h48 (HC.out.symm.trans e)
        have H48 := Lib.hid h48'
        clear h48 h48'
        go_enter Tryz.func117, Tryz.ntmps117
        go_wp2_with fail
        clear bg hc48 hc48' HC
        go_loopg [4, 21] s.length (fun gg nv iv wr => ∃ (k n : Nat), k ≤ s.length ∧ s.length - k ≤ gg ∧ iv = .int .i64 k ∧ nv = .int .i64 n ∧ n < 10000000000000 ∧ Hid (n = val (s.take k) ∧ (s.take k).all isDig = true) ∧ w = wr)
        case atStart => exact ⟨0, 0, by omega, by omega, rfl, rfl, by omega, ⟨rfl, rfl⟩, rfl⟩
        case round =>
          obtain ⟨k, n, hk, hgk, rfl, rfl, hn, Q, rfl⟩ := hrel
          by_cases hlt : k < s.length
          · have bg := bget (t := s) (p := k) (show k < s.toArray.size by simpa using hlt) hlt
            have hv := val_take hlt
            have ha := all_take_dig hlt
            rw [Q.out.2, Bool.true_and] at ha
            rw [← Q.out.1] at hv
            have hd := dig_false_at hlt
            have hi := dig_iff (s.getD k 0)
            obtain ⟨c, hc⟩ : ∃ c, s.getD k 0 = c := ⟨_, rfl⟩
            rw [hc] at bg hv ha hd hi
            have HV := Lib.hid hv
            have HAl := Lib.hid ha
            have HD := Lib.hid hd
            clear hc hv ha hd
            have hc255 : c.toNat < 256 := c.toNat_lt
            by_cases h1 : c.toNat < 48
            · have V : Hid (num0 s = 0 ∧ okNum s = false) := by
                have h : ¬ okNum s = true := by rw [HD.out (by rw [Bool.eq_false_iff, ne_eq, hi]; omega)]; exact Bool.false_ne_true
                exact (show num0 s = 0 ∧ okNum s = false from ⟨by unfold num0; rw [if_neg h], by simpa using h⟩)
              clear hi
              have h1i : (c.toNat : Int) < 48 := by omega
              go_wp2_with fail
              go_ret2
              rw [V.out.1, V.out.2]
              exact ⟨rfl, rfl⟩
            · by_cases h2 : 57 < c.toNat
              · have V : Hid (num0 s = 0 ∧ okNum s = false) := by
                  have h : ¬ okNum s = true := by rw [HD.out (by rw [Bool.eq_false_iff, ne_eq, hi]; omega)]; exact Bool.false_ne_true
                  exact (show num0 s = 0 ∧ okNum s = false from ⟨by unfold num0; rw [if_neg h], by simpa using h⟩)
                clear hi
                go_wp2_with fail
                go_ret2
                rw [V.out.1, V.out.2]
                exact ⟨rfl, rfl⟩
              · have hdg : isDig c = true := hi.2 (by omega)
                have hvl := val_lt (s.take (k + 1)) (HAl.out.trans hdg)
                have hp : 10 ^ (s.take (k + 1)).length ≤ 10 ^ 13 := Nat.pow_le_pow_right (by omega) (by rw [List.length_take]; omega)
                have hvb : 10 * n + (c.toNat - 48) < 10000000000000 := by
                  have e : 10 ^ 13 = 10000000000000 := by decide
                  rw [HV.out] at hvl; omega
                have HDG := Lib.hid hdg
                clear hi hvl hp hdg
                go_wp2_with fail
                go_roundg (s.length - (k + 1))
                case measure => omega
                case rel => exact ⟨k + 1, 10 * n + (c.toNat - 48), by omega, by omega, by go_num, by congr 1; omega, hvb, ⟨HV.out.symm, HAl.out.trans HDG.out⟩, rfl⟩
          · obtain rfl : k = s.length := by omega
            have V : Hid (num0 s = n ∧ okNum s = true) := by
              have h1 := Q.out.1
              have h2 := Q.out.2
              rw [List.take_length] at h1 h2
              have h : okNum s = true := (okNum_iff s).2 ⟨by omega, by omega, H48.out, h2⟩
              exact (show num0 s = n ∧ okNum s = true from ⟨by unfold num0; rw [if_pos h, h1], h⟩)
            go_wp2_with fail
            go_ret2
            rw [V.out.1, V.out.2]
            exact ⟨rfl, rfl⟩
end Go.Proofs.YtcpennlojjlpaaaGreatDoor
