/- The checks of the reference's parser one behind the other, and where its parser stands in memory. -/
import Derived.Test.YtpdncgfkoibacaaDoorRefZone2
import Derived.Test.YtpdncgfkoibacaaDoorTrip
namespace Go.Proofs.YtpdncgfkoibacaaDoor
open Go.RowKit
open Cal

/-- Where the reference's parser stands: its text; all else as it was. -/
structure PT (w : World) (t : List UInt8) (wx : World) (s : St) : Prop where
  T : wx.heap[w.heap.size]? = some (.cells #[.string ⟨t.toArray⟩, .int .i64 s.p, .int .i64 s.e] 73 (0, 0))
  B : Below w.heap.size w wx
theorem PT.c0 {w wx : World} {t : List UInt8} {s : St} (h : PT w t wx s) : wx.cell? ⟨w.heap.size, 0, none⟩ = some (.string ⟨t.toArray⟩) := blk_cell h.T 0
theorem PT.c1 {w wx : World} {t : List UInt8} {s : St} (h : PT w t wx s) : wx.cell? ⟨w.heap.size, 1, none⟩ = some (.int .i64 s.p) := blk_cell h.T 1
theorem PT.c2 {w wx : World} {t : List UInt8} {s : St} (h : PT w t wx s) : wx.cell? ⟨w.heap.size, 2, none⟩ = some (.int .i64 s.e) := blk_cell h.T 2
theorem PT.f {w wx : World} {t : List UInt8} {s : St} (h : PT w t wx s) (i : Nat) : wx.frozen? ⟨w.heap.size, i, none⟩ = false := blk_free h.T i
theorem PT.below {w wx w' : World} {t : List UInt8} {s : St} (h : PT w t wx s) (hb : Below wx.heap.size wx w') : PT w t w' s := ⟨blk_below hb h.T, h.B.trans (hb.mono h.B.size)⟩
theorem PT.drew {w wx : World} {t : List UInt8} {s : St} (h : PT w t wx s) : PT w t wx.drew s := ⟨h.T, h.B.drew⟩
theorem PT.set {w wx : World} {t : List UInt8} {s : St} (h : PT w t wx s) (s' : St) :
    PT w t (((wx.setCell ⟨w.heap.size, 0, none⟩ (.string ⟨t.toArray⟩)).setCell ⟨w.heap.size, 1, none⟩ (.int .i64 s'.p)).setCell ⟨w.heap.size, 2, none⟩ (.int .i64 s'.e)) s' :=
  ⟨cells3 h.T _ _ _, ((h.B.setCell (by simp) _).setCell (by simp) _).setCell (by simp) _⟩

/-- Its text and its date. -/
structure PC (w : World) (t : List UInt8) (wx : World) (s : St) (cb : Nat) (y m d h n : Int) : Prop where
  P : PT w t wx s
  C : wx.heap[cb]? = some (.cells #[.int .i64 y, .int .i64 m, .int .i64 d, .int .i64 h, .int .i64 n] 28 (0, 0))
  o : w.heap.size < cb
theorem PC.below {w wx w' : World} {t : List UInt8} {s : St} {cb : Nat} {y m d h n : Int} (H : PC w t wx s cb y m d h n) (hb : Below wx.heap.size wx w') : PC w t w' s cb y m d h n := ⟨H.P.below hb, blk_below hb H.C, H.o⟩
theorem PC.drew {w wx : World} {t : List UInt8} {s : St} {cb : Nat} {y m d h n : Int} (H : PC w t wx s cb y m d h n) : PC w t wx.drew s cb y m d h n := ⟨H.P.drew, H.C, H.o⟩
theorem PC.text {w wx : World} {t : List UInt8} {s : St} {cb : Nat} {y m d h n : Int} (H : PC w t wx s cb y m d h n) (s' : St) :
    PC w t (((wx.setCell ⟨w.heap.size, 0, none⟩ (.string ⟨t.toArray⟩)).setCell ⟨w.heap.size, 1, none⟩ (.int .i64 s'.p)).setCell ⟨w.heap.size, 2, none⟩ (.int .i64 s'.e)) s' cb y m d h n :=
  ⟨H.P.set s', by have := H.o; rw [blk_set_ne _ _ (by omega), blk_set_ne _ _ (by omega), blk_set_ne _ _ (by omega)]; exact H.C, H.o⟩
theorem PC.place {w wx : World} {t : List UInt8} {s : St} {cb : Nat} {y m d h n : Int} (H : PC w t wx s cb y m d h n) (q : Nat) : PC w t (wx.setCell ⟨w.heap.size, 1, none⟩ (.int .i64 q)) ⟨q, s.e⟩ cb y m d h n :=
  ⟨⟨by rw [blk_set H.P.T]; rfl, H.P.B.setCell (by simp) _⟩, by have := H.o; rw [blk_set_ne _ _ (by omega)]; exact H.C, H.o⟩
theorem PC.date {w wx : World} {t : List UInt8} {s : St} {cb : Nat} {y m d h n : Int} (H : PC w t wx s cb y m d h n) (i : Nat) (v : Int) {y' m' d' h' n' : Int}
    (he : (#[.int .i64 y, .int .i64 m, .int .i64 d, .int .i64 h, .int .i64 n] : Array Value).setIfInBounds i (.int .i64 v) = #[.int .i64 y', .int .i64 m', .int .i64 d', .int .i64 h', .int .i64 n']) :
    PC w t (wx.setCell ⟨cb, i, none⟩ (.int .i64 v)) s cb y' m' d' h' n' :=
  ⟨⟨by have := H.o; rw [blk_set_ne _ _ (by omega)]; exact H.P.T, H.P.B.setCell (by have := H.o; show _ ≤ cb; omega) _⟩, by rw [blk_set H.C, he], H.o⟩
theorem PC.k {w wx : World} {t : List UInt8} {s : St} {cb : Nat} {y m d h n : Int} (H : PC w t wx s cb y m d h n) (i : Nat) : wx.cell? ⟨cb, i, none⟩ = (#[.int .i64 y, .int .i64 m, .int .i64 d, .int .i64 h, .int .i64 n] : Array Value)[i]? := blk_cell H.C i
theorem PC.kf {w wx : World} {t : List UInt8} {s : St} {cb : Nat} {y m d h n : Int} (H : PC w t wx s cb y m d h n) (i : Nat) : wx.frozen? ⟨cb, i, none⟩ = false := blk_free H.C i

theorem refDay_cells {w : World} {nb : Nat} (h : w.heap[nb]? = some (.cells #[.string ⟨#[77, 111, 110]⟩, .string ⟨#[84, 117, 101]⟩, .string ⟨#[87, 101, 100]⟩, .string ⟨#[84, 104, 117]⟩, .string ⟨#[70, 114, 105]⟩, .string ⟨#[83, 97, 116]⟩, .string ⟨#[83, 117, 110]⟩] 9 (0, 0))) (i : Nat) (hi : i < dayTab.length) : w.cell? ⟨nb, i, none⟩ = some (.string ⟨(dayTab.getD i []).toArray⟩) := by
  rw [blk_cell h]
  have h7 : i < 7 := hi
  have : i = 0 ∨ i = 1 ∨ i = 2 ∨ i = 3 ∨ i = 4 ∨ i = 5 ∨ i = 6 := by omega
  rcases this with rfl | rfl | rfl | rfl | rfl | rfl | rfl <;> rfl
theorem refMon_cells {w : World} {nb : Nat} (h : w.heap[nb]? = some (.cells #[.string ⟨#[74, 97, 110]⟩, .string ⟨#[70, 101, 98]⟩, .string ⟨#[77, 97, 114]⟩, .string ⟨#[65, 112, 114]⟩, .string ⟨#[77, 97, 121]⟩, .string ⟨#[74, 117, 110]⟩, .string ⟨#[74, 117, 108]⟩, .string ⟨#[65, 117, 103]⟩, .string ⟨#[83, 101, 112]⟩, .string ⟨#[79, 99, 116]⟩, .string ⟨#[78, 111, 118]⟩, .string ⟨#[68, 101, 99]⟩] 9 (0, 0))) (i : Nat) (hi : i < monTab.length) : w.cell? ⟨nb, i, none⟩ = some (.string ⟨(monTab.getD i []).toArray⟩) := by
  rw [blk_cell h]
  have h7 : i < 12 := hi
  have : i = 0 ∨ i = 1 ∨ i = 2 ∨ i = 3 ∨ i = 4 ∨ i = 5 ∨ i = 6 ∨ i = 7 ∨ i = 8 ∨ i = 9 ∨ i = 10 ∨ i = 11 := by omega
  rcases this with rfl | rfl | rfl | rfl | rfl | rfl | rfl | rfl | rfl | rfl | rfl | rfl <;> rfl

theorem hasW_nil {t : List UInt8} (h : t.length = 0) : hasW t = false := by unfold hasW sees; simp [r0, h]
theorem hasW_at {t : List UInt8} (h : 0 < t.length) : hasW t = isLet (at0 t 0) := by unfold hasW sees; simp [r0, h]

/-! The checks. -/
def chk (ok : Bool) (s : St) (p e : Nat) : St := if ok then s else failAt s p e
theorem chk_bad {ok : Bool} {s : St} {p e : Nat} (h : s.e ≠ 0) : chk ok s p e = s := by unfold chk failAt; rw [if_neg h]; split <;> rfl
theorem chk_13 (ok : Bool) (p q e : Nat) : chk ok ⟨p, 13⟩ q e = ⟨p, 13⟩ := chk_bad (show (13 : Nat) ≠ 0 by decide)
theorem chk_2 (ok : Bool) (p q e : Nat) : chk ok ⟨p, 2⟩ q e = ⟨p, 2⟩ := chk_bad (show (2 : Nat) ≠ 0 by decide)
def yOk (y : Int) : Bool := decide (2000 ≤ y ∧ y ≤ 2199)
def dOk (y m d : Int) : Bool := decide (1 ≤ d ∧ d ≤ md y m)
def chainY (s : St) (y : Int) (p5 : Nat) : St := chk (yOk y) s p5 2
def chainD (s : St) (y m d : Int) (p5 p1 : Nat) : St := if (chainY s y p5).e = 0 then chk (dOk y m d) (chainY s y p5) p1 13 else chainY s y p5
def chain (s : St) (y m d h n v : Int) (p5 p1 p7 p9 : Nat) (pv : Nat) : St := chk (decide (v ≤ 60)) (chk (decide (n ≤ 59)) (chk (decide (h ≤ 23)) (chainD s y m d p5 p1) p7 13) p9 13) pv 13
theorem chain_spec {p : Nat} {y m d h n v : Int} {p5 p1 p7 p9 pv : Nat} :
    ((chain ⟨p, 0⟩ y m d h n v p5 p1 p7 p9 pv).e = 0 ∧ (2000 ≤ y ∧ y ≤ 2199) ∧ (1 ≤ d ∧ d ≤ md y m) ∧ h ≤ 23 ∧ n ≤ 59 ∧ v ≤ 60) ∨
    ((chain ⟨p, 0⟩ y m d h n v p5 p1 p7 p9 pv).e ≠ 0 ∧ ∀ (len : Nat) (q : Nat) (sa wd loc off : Int), len ≤ 64 → (60 < v → sa = pv) →
      parseG len 0 q y d m h n v sa wd loc off p5 p1 p7 p9 = (0, ((chain ⟨p, 0⟩ y m d h n v p5 p1 p7 p9 pv).p : Int), ((chain ⟨p, 0⟩ y m d h n v p5 p1 p7 p9 pv).e : Int))) := by
  by_cases hy : 2000 ≤ y ∧ y ≤ 2199
  · have eY : chainY ⟨p, 0⟩ y p5 = ⟨p, 0⟩ := by unfold chainY chk yOk; rw [if_pos (by simpa using hy)]
    by_cases hd : 1 ≤ d ∧ d ≤ md y m
    · have eD : chainD ⟨p, 0⟩ y m d p5 p1 = ⟨p, 0⟩ := by unfold chainD; rw [eY, if_pos rfl]; unfold chk dOk; rw [if_pos (by simpa using hd)]
      unfold chain
      rw [eD]
      by_cases h1 : h ≤ 23
      · have e1 : chk (decide (h ≤ 23)) ⟨p, 0⟩ p7 13 = ⟨p, 0⟩ := by unfold chk; rw [if_pos (by simpa using h1)]
        rw [e1]
        by_cases h2 : n ≤ 59
        · have e2 : chk (decide (n ≤ 59)) ⟨p, 0⟩ p9 13 = ⟨p, 0⟩ := by unfold chk; rw [if_pos (by simpa using h2)]
          rw [e2]
          by_cases h3 : v ≤ 60
          · have e3 : chk (decide (v ≤ 60)) ⟨p, 0⟩ pv 13 = ⟨p, 0⟩ := by unfold chk; rw [if_pos (by simpa using h3)]
            rw [e3]
            exact .inl ⟨rfl, hy, hd, h1, h2, h3⟩
          · have e3 : chk (decide (v ≤ 60)) ⟨p, 0⟩ pv 13 = ⟨pv, 13⟩ := by unfold chk; rw [if_neg (by simpa using h3)]; rfl
            rw [e3]
            refine .inr ⟨(by simp), fun len q sa wd loc off hl hs => ?_⟩
            unfold parseG
            rw [if_neg (by omega), if_neg (by simp), if_neg (by omega), if_neg (by omega), if_neg (by omega), if_neg (by omega), if_pos (by omega), hs (by omega)]; rfl
        · have e2 : chk (decide (n ≤ 59)) ⟨p, 0⟩ p9 13 = ⟨p9, 13⟩ := by unfold chk; rw [if_neg (by simpa using h2)]; rfl
          rw [e2, chk_13]
          refine .inr ⟨(by simp), fun len q sa wd loc off hl hs => ?_⟩
          unfold parseG
          rw [if_neg (by omega), if_neg (by simp), if_neg (by omega), if_neg (by omega), if_neg (by omega), if_pos (by omega)]; rfl
      · have e1 : chk (decide (h ≤ 23)) ⟨p, 0⟩ p7 13 = ⟨p7, 13⟩ := by unfold chk; rw [if_neg (by simpa using h1)]; rfl
        rw [e1, chk_13, chk_13]
        refine .inr ⟨(by simp), fun len q sa wd loc off hl hs => ?_⟩
        unfold parseG
        rw [if_neg (by omega), if_neg (by simp), if_neg (by omega), if_neg (by omega), if_pos (by omega)]; rfl
    · have eD : chainD ⟨p, 0⟩ y m d p5 p1 = ⟨p1, 13⟩ := by unfold chainD; rw [eY, if_pos rfl]; unfold chk dOk; rw [if_neg (by simpa using hd)]; rfl
      unfold chain
      rw [eD, chk_13, chk_13, chk_13]
      refine .inr ⟨(by simp), fun len q sa wd loc off hl hs => ?_⟩
      unfold parseG
      rw [if_neg (by omega), if_neg (by simp), if_neg (by omega), if_pos (by omega)]; rfl
  · have eY : chainY ⟨p, 0⟩ y p5 = ⟨p5, 2⟩ := by unfold chainY chk yOk; rw [if_neg (by simpa using hy)]; rfl
    have eD : chainD ⟨p, 0⟩ y m d p5 p1 = ⟨p5, 2⟩ := by unfold chainD; rw [eY, if_neg (show ¬ (2 : Nat) = 0 by decide)]
    unfold chain
    rw [eD, chk_2, chk_2, chk_2]
    refine .inr ⟨(by simp), fun len q sa wd loc off hl hs => ?_⟩
    unfold parseG
    rw [if_neg (by omega), if_neg (by simp), if_pos (by omega)]; rfl
end Go.Proofs.YtpdncgfkoibacaaDoor
