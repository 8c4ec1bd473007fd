/- Contracts of name and Zone of the reference of package date. -/
import Derived.Test.YtpdncgfkoibacaaDoorRefName
import Derived.Test.YtpdncgfkoibacaaDoorZoneLaw
namespace Go.Proofs.YtpdncgfkoibacaaDoor
open Go.RowKit

set_option maxRecDepth 100000 in
set_option maxHeartbeats 2000000 in
theorem refName_any (names : List (List UInt8)) (t : List UInt8) (s : St) (nb : Nat) (w : World) (hnn : names.length ≤ 100) (hn : ∀ i, i < names.length → (names.getD i []).length ≤ 1000)
    (hc : ∀ i, i < names.length → w.cell? ⟨nb, i, none⟩ = some (.string ⟨(names.getD i []).toArray⟩)) (hl : t.length ≤ 1000) (hp : s.p ≤ t.length) :
    Calls Tryd.prog 46 #[.agg #[.string ⟨t.toArray⟩, .int .i64 s.p, .int .i64 s.e], .slice (some ⟨nb, 0, none⟩) names.length names.length] w fun r w' => r = .returned (.tuple #[.agg #[.string ⟨t.toArray⟩, .int .i64 (nameS t names s).p, .int .i64 (nameS t names s).e], .int .i64 (nameV t names s)]) ∧ Below w.heap.size w w' := by
  have HC := Lib.hid hc; clear hc
  have HN := Lib.hid hn; clear hn
  obtain ⟨P, E⟩ := s
  dsimp only at hp ⊢
  by_cases h : E = 0
  · subst h
    by_cases hlt : t.length < P + 3
    · have hs : nameS t names ⟨P, 0⟩ = ⟨t.length, 4⟩ := by unfold nameS; rw [if_pos rfl, if_pos hlt]
      have hv : nameV t names ⟨P, 0⟩ = 0 := by unfold nameV; rw [if_pos rfl, if_pos hlt]
      rw [hs, hv]
      clear hs hv
      have hlt2 : (t.length : Int) - (P : Int) < 3 := by omega
      have hlt3 : (0 : Int) ≤ (t.length : Int) - (P : Int) := by omega
      clear hlt
      go_enter Tryd.func46, Tryd.ntmps46
      go_wp2_with fail
      refine (refFail_any _ ⟨P, 0⟩ t.length 4 _).mono ?_; rintro r w1 ⟨rfl, b1⟩
      obtain ⟨hc, hf⟩ := bcell b1
      have hz := b1.size
      simp at hz
      go_wp2_with fail
      have hB : Below w.heap.size w w1 := ((((Below.refl _ _).alloc (Nat.le_refl _) _).alloc (by simp) _).trans (b1.mono (by simp; omega)))
      exact bodyPost_ret (v := .tuple #[.agg #[.string ⟨t.toArray⟩, .int .i64 (failAt ⟨P, 0⟩ t.length 4).p, .int .i64 (failAt ⟨P, 0⟩ t.length 4).e], .int .i64 0]) (by simp [results, Tryd.results46, go_sem, hc]) rfl ⟨rfl, ((hB.setCell (by simp) _).setCell (by simp) _).setCell (by simp) _⟩
    · have hge : P + 3 ≤ t.length := by omega
      have hge2 : (3 : Int) ≤ (t.length : Int) - (P : Int) := by omega
      have hx := extract_take t P (P + 3)
      rw [show P + 3 - P = 3 by omega] at hx
      have hw3 : (word3 t P).length ≤ 1000 := by unfold word3; simp; omega
      have hb : Below w.heap.size w ((w.alloc (.cells #[.string ⟨t.toArray⟩, .int .i64 P, .int .i64 0] 73)).alloc (.cells #[.string ⟨#[]⟩, .int .i64 0, .int .i64 0] 73)) := ((Below.refl _ _).alloc (Nat.le_refl _) _).alloc (by simp) _
      have HX : Hid ((⟨t.toArray⟩ : ByteArray).extract P (P + 3) = ⟨(word3 t P).toArray⟩) := hx
      clear hx
      have hcall := index_any names (word3 t P) nb _ hnn HN.out hw3 (fun i hi => Below.cellv hb (HC.out i hi))
      clear hb
      cases hf : find3 names (word3 t P) with
      | none =>
        have hs : nameS t names ⟨P, 0⟩ = ⟨P, 3⟩ := by unfold nameS; rw [if_pos rfl, if_neg hlt]; simp only [hf]
        have hv : nameV t names ⟨P, 0⟩ = 0 := by unfold nameV; rw [if_pos rfl, if_neg hlt, hf]; rfl
        rw [hs, hv]
        rw [hf] at hcall
        have HK := Lib.hid hcall
        clear hs hv hf hlt hcall
        go_enter Tryd.func46, Tryd.ntmps46
        go_wp2_with fail
        rw [HX.out]
        refine HK.out.mono ?_; rintro r w1 ⟨rfl, b1⟩
        have hio : idxOr none = -1 := rfl
        rw [hio]
        have K1 := blk_below b1 (blk_old _ (blk_new w _))
        have K2 := blk_below b1 (blk_snd w _ _)
        have hB : Below w.heap.size w w1 := ((((Below.refl _ _).alloc (Nat.le_refl _) _).alloc (by simp) _).trans (b1.mono (by simp; omega)))
        have z1 := blk_lt K2
        have d0 : w1.cell? ⟨w.heap.size, 0, none⟩ = some (.string ⟨t.toArray⟩) := blk_cell K1 0
        have d1 : w1.cell? ⟨w.heap.size, 1, none⟩ = some (.int .i64 P) := blk_cell K1 1
        have d2 : w1.cell? ⟨w.heap.size, 2, none⟩ = some (.int .i64 0) := blk_cell K1 2
        have G2 := Lib.hid K2
        clear b1 K1 K2 hio HK HX
        go_wp2_with fail
        refine (refFail_any _ ⟨P, 0⟩ P 3 _).mono ?_; rintro r w2 ⟨rfl, b2⟩
        have K2 := blk_below b2 G2.out
        have z2 := blk_lt K2
        have e0 : w2.cell? ⟨w.heap.size + 1, 0, none⟩ = some (.string ⟨#[]⟩) := blk_cell K2 0
        have e1 : w2.cell? ⟨w.heap.size + 1, 1, none⟩ = some (.int .i64 0) := blk_cell K2 1
        have e2 : w2.cell? ⟨w.heap.size + 1, 2, none⟩ = some (.int .i64 0) := blk_cell K2 2
        have h0 : w2.frozen? ⟨w.heap.size + 1, 0, none⟩ = false := blk_free K2 0
        have h1 : w2.frozen? ⟨w.heap.size + 1, 1, none⟩ = false := blk_free K2 1
        have h2 : w2.frozen? ⟨w.heap.size + 1, 2, none⟩ = false := blk_free K2 2
        have hB2 := hB.trans (b2.mono hB.size)
        clear b2 K2 d0 d1 d2
        go_wp2_with fail
        exact bodyPost_ret (v := .tuple #[.agg #[.string ⟨t.toArray⟩, .int .i64 (failAt ⟨P, 0⟩ P 3).p, .int .i64 (failAt ⟨P, 0⟩ P 3).e], .int .i64 0]) (by simp [results, Tryd.results46, go_sem, e0, e1, e2]) rfl ⟨rfl, ((hB2.setCell (by simp) _).setCell (by simp) _).setCell (by simp) _⟩
      | some i =>
        have hs : nameS t names ⟨P, 0⟩ = ⟨P + 3, 0⟩ := by unfold nameS; rw [if_pos rfl, if_neg hlt]; simp only [hf]
        have hv : nameV t names ⟨P, 0⟩ = i := by unfold nameV; rw [if_pos rfl, if_neg hlt, hf]; rfl
        have hil := find3_lt hf
        rw [hs, hv]
        rw [hf] at hcall
        have HK := Lib.hid hcall
        clear hs hv hf hlt hcall
        go_enter Tryd.func46, Tryd.ntmps46
        go_wp2_with fail
        rw [HX.out]
        refine HK.out.mono ?_; rintro r w1 ⟨rfl, b1⟩
        have hio : idxOr (some i) = (i : Int) := rfl
        rw [hio]
        have K1 := blk_below b1 (blk_old _ (blk_new w _))
        have K2 := blk_below b1 (blk_snd w _ _)
        have hB : Below w.heap.size w w1 := ((((Below.refl _ _).alloc (Nat.le_refl _) _).alloc (by simp) _).trans (b1.mono (by simp; omega)))
        have z1 := blk_lt K2
        have d0 : w1.cell? ⟨w.heap.size, 0, none⟩ = some (.string ⟨t.toArray⟩) := blk_cell K1 0
        have d1 : w1.cell? ⟨w.heap.size, 1, none⟩ = some (.int .i64 P) := blk_cell K1 1
        have d2 : w1.cell? ⟨w.heap.size, 2, none⟩ = some (.int .i64 0) := blk_cell K1 2
        have f1 : w1.frozen? ⟨w.heap.size, 1, none⟩ = false := blk_free K1 1
        have e0 : w1.cell? ⟨w.heap.size + 1, 0, none⟩ = some (.string ⟨#[]⟩) := blk_cell K2 0
        have e1 : w1.cell? ⟨w.heap.size + 1, 1, none⟩ = some (.int .i64 0) := blk_cell K2 1
        have e2 : w1.cell? ⟨w.heap.size + 1, 2, none⟩ = some (.int .i64 0) := blk_cell K2 2
        have h0 : w1.frozen? ⟨w.heap.size + 1, 0, none⟩ = false := blk_free K2 0
        have h1 : w1.frozen? ⟨w.heap.size + 1, 1, none⟩ = false := blk_free K2 1
        have h2 : w1.frozen? ⟨w.heap.size + 1, 2, none⟩ = false := blk_free K2 2
        clear b1 K1 K2 hio HK HX
        go_wp2_with fail
        exact bodyPost_ret (v := .tuple #[.agg #[.string ⟨t.toArray⟩, .int .i64 (P + 3 : Nat), .int .i64 0], .int .i64 i]) (by simp [results, Tryd.results46, go_sem, e0, e1, e2]) rfl ⟨rfl, (((hB.setCell (by simp) _).setCell (by simp) _).setCell (by simp) _).setCell (by simp) _⟩
  · have h1 : ((E : Int) == 0) = false := by simp; omega
    have hs : nameS t names ⟨P, E⟩ = ⟨P, E⟩ := by unfold nameS; rw [if_neg h]
    have hv : nameV t names ⟨P, E⟩ = 0 := by unfold nameV; rw [if_neg h]
    rw [hs, hv]
    clear hs hv h
    go_enter Tryd.func46, Tryd.ntmps46
    go_wp2_with fail
    exact bodyPost_ret (v := .tuple #[.agg #[.string ⟨t.toArray⟩, .int .i64 P, .int .i64 E], .int .i64 0]) (by simp [results, Tryd.results46, go_sem]) rfl ⟨rfl, ((Below.refl _ _).alloc (Nat.le_refl _) _).alloc (by simp) _⟩

theorem zNames_lens (i : Nat) (hi : i < zNames.length) : (zNames.getD i []).length ≤ 1000 := by
  have h12 : i < 12 := hi
  have : i = 0 ∨ i = 1 ∨ i = 2 ∨ i = 3 ∨ i = 4 ∨ i = 5 ∨ i = 6 ∨ i = 7 ∨ i = 8 ∨ i = 9 ∨ i = 10 ∨ i = 11 := by omega
  rcases this with rfl | rfl | rfl | rfl | rfl | rfl | rfl | rfl | rfl | rfl | rfl | rfl <;> decide
theorem zNames_cells {w : World} {nb : Nat} (h : w.heap[nb]? = some (.cells #[.string ⟨#[85, 84]⟩, .string ⟨#[85, 84, 67]⟩, .string ⟨#[71, 77, 84]⟩, .string ⟨#[90]⟩, .string ⟨#[69, 83, 84]⟩, .string ⟨#[69, 68, 84]⟩, .string ⟨#[67, 83, 84]⟩, .string ⟨#[67, 68, 84]⟩, .string ⟨#[77, 83, 84]⟩, .string ⟨#[77, 68, 84]⟩, .string ⟨#[80, 83, 84]⟩, .string ⟨#[80, 68, 84]⟩] 9 (0, 0))) (i : Nat) (hi : i < zNames.length) :
    w.cell? ⟨nb, i, none⟩ = some (.string ⟨(zNames.getD i []).toArray⟩) := by
  rw [blk_cell h]
  have h12 : i < 12 := hi
  have : i = 0 ∨ i = 1 ∨ i = 2 ∨ i = 3 ∨ i = 4 ∨ i = 5 ∨ i = 6 ∨ i = 7 ∨ i = 8 ∨ i = 9 ∨ i = 10 ∨ i = 11 := by omega
  rcases this with rfl | rfl | rfl | rfl | rfl | rfl | rfl | rfl | rfl | rfl | rfl | rfl <;> rfl
theorem zOffs_cells {w : World} {nb : Nat} (h : w.heap[nb]? = some (.cells #[.int .i64 0, .int .i64 0, .int .i64 0, .int .i64 0, .int .i64 (-300), .int .i64 (-240), .int .i64 (-360), .int .i64 (-300), .int .i64 (-420), .int .i64 (-360), .int .i64 (-480), .int .i64 (-420)] 3 (0, 0))) (i : Nat) (hi : i < 12) :
    w.cell? ⟨nb, i, none⟩ = some (.int .i64 (zOffs.getD i 0)) := by
  rw [blk_cell h]
  have : i = 0 ∨ i = 1 ∨ i = 2 ∨ i = 3 ∨ i = 4 ∨ i = 5 ∨ i = 6 ∨ i = 7 ∨ i = 8 ∨ i = 9 ∨ i = 10 ∨ i = 11 := by omega
  rcases this with rfl | rfl | rfl | rfl | rfl | rfl | rfl | rfl | rfl | rfl | rfl | rfl <;> rfl

set_option maxRecDepth 100000 in
set_option maxHeartbeats 2000000 in
theorem refZone_name (z : List UInt8) (i : Nat) (o : Int) (w : World) (hl : z.length ≤ 1000) (hi : i < 12) (hf : find3 zNames z = some i) (ho : zOffs.getD i 0 = o) :
    Calls Tryd.prog 24 #[.string ⟨z.toArray⟩] w fun r w' => r = .returned (.tuple #[.int .i64 o, .int .i64 0]) ∧ Below w.heap.size w w' := by
  have HF := Lib.hid hf; clear hf
  have HO := Lib.hid ho; clear ho
  go_enter Tryd.func24, Tryd.ntmps24
  go_wp2_with fail
  refine (index_any zNames z w.heap.size _ (by decide) zNames_lens hl (zNames_cells (blk_old _ (blk_new w _)))).mono ?_; rintro r w1 ⟨rfl, b1⟩
  rw [HF.out]
  have hio : idxOr (some i) = (i : Int) := rfl
  rw [hio]
  have co := zOffs_cells (blk_below b1 (blk_snd w _ _)) i hi
  rw [HO.out] at co
  have hB : Below w.heap.size w w1 := ((((Below.refl _ _).alloc (Nat.le_refl _) _).alloc (by simp) _).trans (b1.mono (by simp; omega)))
  clear b1 hio
  go_wp2_with fail
  go_ret2
  exact ⟨rfl, hB⟩
end Go.Proofs.YtpdncgfkoibacaaDoor
