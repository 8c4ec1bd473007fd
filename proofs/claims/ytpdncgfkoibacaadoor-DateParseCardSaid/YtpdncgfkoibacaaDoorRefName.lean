/- Contracts of number and name of the reference of package date. -/
import Derived.Test.YtpdncgfkoibacaaDoorRefNum
namespace Go.Proofs.YtpdncgfkoibacaaDoor
open Go.RowKit

/-- The number that the reference returns: 0 with an error. -/
def digE (t : List UInt8) (k : Nat) (s : St) : Int := if (digS t k s).e = 0 then digV t k s else 0
theorem need_bad {t : List UInt8} {q : UInt8 → Bool} {s : St} (h : sees t q s = false) : (need t q s).e ≠ 0 := by
  intro he
  have := (need_e he).1
  rw [h] at this; cases this
theorem digS_stuck {t : List UInt8} {s : St} {j : Nat} (h : (digS t j s).e ≠ 0) : ∀ n, digS t (j + n) s = digS t j s
  | 0 => rfl
  | n + 1 => by
    have ih := digS_stuck h n
    show need t isDig (digS t (j + n) s) = _
    rw [ih, need_stays h]
theorem digE_stuck {t : List UInt8} {s : St} {j k : Nat} (h : (digS t j s).e ≠ 0) (hjk : j ≤ k) : digS t k s = digS t j s ∧ digE t k s = 0 := by
  have := digS_stuck h (k - j)
  rw [show j + (k - j) = k by omega] at this
  refine ⟨this, ?_⟩
  unfold digE; rw [this, if_neg h]

theorem blk_snd (w : World) (o p : Obj) : ((w.alloc o).alloc p).heap[w.heap.size + 1]? = some p := by
  have := blk_new (w.alloc o) p
  simpa using this
theorem cells3 {w : World} {b : Nat} {x y z : Value} {ty : TypeId} (h : w.heap[b]? = some (.cells #[x, y, z] ty (0, 0))) (x' y' z' : Value) :
    (((w.setCell ⟨b, 0, none⟩ x').setCell ⟨b, 1, none⟩ y').setCell ⟨b, 2, none⟩ z').heap[b]? = some (.cells #[x', y', z'] ty (0, 0)) := by
  rw [blk_set (blk_set (blk_set h 0 x') 1 y') 2 z']; rfl

set_option maxRecDepth 100000 in
set_option maxHeartbeats 2000000 in
theorem refNumber_any (t : List UInt8) (s : St) (k : Nat) (w : World) (hl : t.length ≤ 1000) (hp : s.p ≤ t.length) (k1 : 1 ≤ k) (k2 : k ≤ 4) :
    Calls Tryd.prog 49 #[.agg #[.string ⟨t.toArray⟩, .int .i64 s.p, .int .i64 s.e], .int .i64 k] w fun r w' => r = .returned (.tuple #[.agg #[.string ⟨t.toArray⟩, .int .i64 (digS t k s).p, .int .i64 (digS t k s).e], .int .i64 (digE t k s)]) ∧ Below w.heap.size w w' := by
  go_enter Tryd.func49, Tryd.ntmps49
  go_wp2_with fail
  go_loopw [6, 7] (fun n i wr => ∃ j : Nat, j ≤ k ∧ i = .int .i64 j ∧ n = .int .i64 (digV t j s) ∧ Below w.heap.size w wr ∧ Hid (wr.heap[w.heap.size]? = some (.cells #[.string ⟨t.toArray⟩, .int .i64 (digS t j s).p, .int .i64 (digS t j s).e] 73 (0, 0))) ∧ Hid (wr.heap[w.heap.size + 1]? = some (.cells #[.string ⟨#[]⟩, .int .i64 0, .int .i64 0] 73 (0, 0))) ∧ Hid (j = 0 ∨ (digS t j s).e = 0)) (fun _ i _ => k - (intOf i).toNat)
  case atStart => exact ⟨0, by omega, rfl, rfl, ((Below.refl _ _).alloc (Nat.le_refl _) _).alloc (by simp) _, blk_old _ (blk_new _ _), blk_snd _ _ _, .inl rfl⟩
  case round =>
    obtain ⟨j, hj, rfl, rfl, hB, B1, B2, A⟩ := hrel
    have hpj := digS_p hp j
    have vb := digV_small t s j (by omega)
    have z2 := blk_lt B2.out
    by_cases hlt : j < k
    · have hlt' : (j : Int) < k := by omega
      have HS : Hid (digS t (j + 1) s = need t isDig (digS t j s)) := rfl
      have HV : Hid (digV t (j + 1) s = 10 * digV t j s + (needB t isDig (digS t j s)).toNat - 48) := rfl
      have stuck : Hid ((digS t (j + 1) s).e ≠ 0 → digS t k s = digS t (j + 1) s ∧ digE t k s = 0) := fun h => digE_stuck h (by omega)
      clear A
      generalize digS t j s = D at *
      generalize digV t j s = V at *
      obtain ⟨P, E⟩ := D
      dsimp only at hpj B1
      have c0 : wr.cell? ⟨w.heap.size, 0, none⟩ = some (.string ⟨t.toArray⟩) := blk_cell B1.out 0
      have c1 : wr.cell? ⟨w.heap.size, 1, none⟩ = some (.int .i64 P) := blk_cell B1.out 1
      have c2 : wr.cell? ⟨w.heap.size, 2, none⟩ = some (.int .i64 E) := blk_cell B1.out 2
      have hcall := refNeed_dig t ⟨P, E⟩ wr hl hpj
      cases hs : sees t isDig ⟨P, E⟩ with
      | true =>
        have hs' := hs
        simp only [sees, Bool.and_eq_true, decide_eq_true_eq, beq_iff_eq] at hs'
        obtain ⟨⟨g0, g1⟩, g2⟩ := hs'
        subst g0
        have hn : need t isDig ⟨P, 0⟩ = ⟨P + 1, 0⟩ := need_yes (s := ⟨P, 0⟩) rfl g1 g2
        have hbv : needB t isDig ⟨P, 0⟩ = at0 t P := by unfold needB; rw [if_pos hs]
        rw [hn] at hcall
        have hS := HS.out; rw [hn] at hS
        have hV := HV.out; rw [hbv] at hV
        clear stuck HS HV hs hn hbv
        have bg := bget (t := t) (p := P) (show P < t.toArray.size by simpa using g1) g1
        obtain ⟨c, hc⟩ : ∃ c, at0 t P = c := ⟨_, rfl⟩
        rw [hc] at bg g2 hV
        clear hc
        have hS' := Lib.hid hS; clear hS
        have hV' := Lib.hid hV; clear hV
        have hd : 48 ≤ c.toNat ∧ c.toNat ≤ 57 := by simpa [isDig] using g2
        obtain ⟨hd1, hd2⟩ := hd
        have hd3 : (48 : Int) ≤ (c.toNat : Int) := by omega
        clear g2
        have HC := Lib.hid hcall; clear hcall
        go_wp2_with fail
        refine HC.out.mono ?_; rintro r w1 ⟨rfl, b1⟩
        have B1' := Lib.hid (blk_below b1 B1.out)
        have B2' := Lib.hid (blk_below b1 B2.out)
        have hB1 := hB.trans (b1.mono hB.size)
        have z1 := blk_lt B2'.out
        have d0 : w1.cell? ⟨w.heap.size, 0, none⟩ = some (.string ⟨t.toArray⟩) := blk_cell B1'.out 0
        have d1 : w1.cell? ⟨w.heap.size, 1, none⟩ = some (.int .i64 P) := blk_cell B1'.out 1
        have d2 : w1.cell? ⟨w.heap.size, 2, none⟩ = some (.int .i64 0) := blk_cell B1'.out 2
        have f0 : w1.frozen? ⟨w.heap.size, 0, none⟩ = false := blk_free B1'.out 0
        have f1 : w1.frozen? ⟨w.heap.size, 1, none⟩ = false := blk_free B1'.out 1
        have f2 : w1.frozen? ⟨w.heap.size, 2, none⟩ = false := blk_free B1'.out 2
        clear b1 c0 c1 c2 B1 B2 hB z2
        have KK := Lib.hid (cells3 B1'.out (.string ⟨t.toArray⟩) (.int .i64 (P + 1 : Nat)) (.int .i64 0))
        go_wp2_with fail
        go_roundw
        case rel =>
          refine ⟨j + 1, by omega, by go_num, ?_, ((hB1.setCell (by simp) _).setCell (by simp) _).setCell (by simp) _, ?_, ?_, .inr ?_⟩
          · rw [hV'.out]; congr 1; omega
          · show _ = _; rw [hS'.out]; exact KK.out
          · show _ = _; rw [blk_set_ne _ _ (by omega), blk_set_ne _ _ (by omega), blk_set_ne _ _ (by omega)]; exact B2'.out
          · rw [hS'.out]
        case measure => simp [intOf]; omega
      | false =>
        have hbad := need_bad hs
        have hst := stuck.out (by rw [HS.out]; exact hbad)
        rw [HS.out] at hst
        generalize need t isDig ⟨P, E⟩ = R at *
        obtain ⟨RP, RE⟩ := R
        dsimp only at hbad hcall
        have hre : ((RE : Int) == 0) = false := by simp; omega
        have HST := Lib.hid hst; clear hst stuck HS HV hs hbad
        have HC := Lib.hid hcall; clear hcall
        go_wp2_with fail
        refine HC.out.mono ?_; rintro r w1 ⟨rfl, b1⟩
        have B1' := Lib.hid (blk_below b1 B1.out)
        have B2' := Lib.hid (blk_below b1 B2.out)
        have hB1 := hB.trans (b1.mono hB.size)
        have z1 := blk_lt B2'.out
        have d0 : w1.cell? ⟨w.heap.size, 0, none⟩ = some (.string ⟨t.toArray⟩) := blk_cell B1'.out 0
        have d1 : w1.cell? ⟨w.heap.size, 1, none⟩ = some (.int .i64 P) := blk_cell B1'.out 1
        have d2 : w1.cell? ⟨w.heap.size, 2, none⟩ = some (.int .i64 E) := blk_cell B1'.out 2
        have f0 : w1.frozen? ⟨w.heap.size, 0, none⟩ = false := blk_free B1'.out 0
        have f1 : w1.frozen? ⟨w.heap.size, 1, none⟩ = false := blk_free B1'.out 1
        have f2 : w1.frozen? ⟨w.heap.size, 2, none⟩ = false := blk_free B1'.out 2
        have e0 : w1.cell? ⟨w.heap.size + 1, 0, none⟩ = some (.string ⟨#[]⟩) := blk_cell B2'.out 0
        have e1 : w1.cell? ⟨w.heap.size + 1, 1, none⟩ = some (.int .i64 0) := blk_cell B2'.out 1
        have e2 : w1.cell? ⟨w.heap.size + 1, 2, none⟩ = some (.int .i64 0) := blk_cell B2'.out 2
        have h0 : w1.frozen? ⟨w.heap.size + 1, 0, none⟩ = false := blk_free B2'.out 0
        have h1 : w1.frozen? ⟨w.heap.size + 1, 1, none⟩ = false := blk_free B2'.out 1
        have h2 : w1.frozen? ⟨w.heap.size + 1, 2, none⟩ = false := blk_free B2'.out 2
        clear b1 c0 c1 c2 B1 B2 hB z2
        go_wp2_with fail
        refine bodyPost_ret (v := .tuple #[.agg #[.string ⟨t.toArray⟩, .int .i64 RP, .int .i64 RE], .int .i64 0]) (by simp [results, Tryd.results49, go_sem, e0, e1, e2]) rfl ⟨?_, ?_⟩
        · rw [HST.out.1, HST.out.2]
        · exact (((((hB1.setCell (by simp) _).setCell (by simp) _).setCell (by simp) _).setCell (by simp) _).setCell (by simp) _).setCell (by simp) _
    · obtain rfl : j = k := by omega
      have he : (digS t j s).e = 0 := by
        rcases A.out with h | h
        · omega
        · exact h
      have HE : Hid (digE t j s = digV t j s) := by show _ = _; unfold digE; rw [if_pos he]
      have hE0 := Lib.hid he
      have c0 : wr.cell? ⟨w.heap.size, 0, none⟩ = some (.string ⟨t.toArray⟩) := blk_cell B1.out 0
      have c1 : wr.cell? ⟨w.heap.size, 1, none⟩ = some (.int .i64 (digS t j s).p) := blk_cell B1.out 1
      have c2 : wr.cell? ⟨w.heap.size, 2, none⟩ = some (.int .i64 (digS t j s).e) := blk_cell B1.out 2
      have e0 : wr.cell? ⟨w.heap.size + 1, 0, none⟩ = some (.string ⟨#[]⟩) := blk_cell B2.out 0
      have e1 : wr.cell? ⟨w.heap.size + 1, 1, none⟩ = some (.int .i64 0) := blk_cell B2.out 1
      have e2 : wr.cell? ⟨w.heap.size + 1, 2, none⟩ = some (.int .i64 0) := blk_cell B2.out 2
      have h0 : wr.frozen? ⟨w.heap.size + 1, 0, none⟩ = false := blk_free B2.out 0
      have h1 : wr.frozen? ⟨w.heap.size + 1, 1, none⟩ = false := blk_free B2.out 1
      have h2 : wr.frozen? ⟨w.heap.size + 1, 2, none⟩ = false := blk_free B2.out 2
      clear he
      go_wp2_with fail
      refine bodyPost_ret (v := .tuple #[.agg #[.string ⟨t.toArray⟩, .int .i64 (digS t j s).p, .int .i64 (digS t j s).e], .int .i64 (digV t j s)]) (by simp [results, Tryd.results49, go_sem, e0, e1, e2]) rfl ⟨?_, ?_⟩
      · rw [HE.out]
      · exact ((hB.setCell (by simp) _).setCell (by simp) _).setCell (by simp) _
end Go.Proofs.YtpdncgfkoibacaaDoor
