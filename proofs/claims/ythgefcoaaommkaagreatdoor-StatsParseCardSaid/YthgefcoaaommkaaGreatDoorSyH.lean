/- Contracts: the model's valid; row.check. -/
import Derived.Test.YthgefcoaaommkaaGreatDoorSyE
import Derived.Test.YthgefcoaaommkaaGreatDoorSyG
namespace Go.Proofs.YthgefcoaaommkaaGreatDoor
open Go.RowKit Go.Gn Go.Sr Go.Maps Go.Nr

/-- Is a name one of its kind? -/
def vN (k : Int) (n : List UInt8) : Bool := if k = 1 then decide (check n = 0) else if k = 2 then decide (siteE n = 0) else decide (authE n = 0)
def rchkE (v : Int → List UInt8 → Bool) (x : Rw) : Int := match chkR v x with
  | .inl _ => 0
  | .inr e => (e : Nat)
def RngBad (x : Rw) : Prop := (x.sort = 0 ∧ 73048 < x.first) ∨ (x.sort = 4 ∧ 17 < x.first) ∨ x.c.1 < 1 ∨ 1000000 < x.c.1 ∨ x.c.1 * 65536 < x.c.2
theorem rchkE_name {v : Int → List UInt8 → Bool} {x : Rw} (h : 1 ≤ x.sort ∧ x.sort ≤ 3) (hv : v x.sort x.name = false) : rchkE v x = 12 := by
  unfold rchkE chkR; rw [if_pos ⟨h, hv⟩]; rfl
theorem rchkE_rng {v : Int → List UInt8 → Bool} {x : Rw} (h : 1 ≤ x.sort → x.sort ≤ 3 → v x.sort x.name = true) (hr : RngBad x) : rchkE v x = 2 := by
  unfold RngBad at hr
  unfold rchkE chkR; rw [if_neg (fun e => by have := h e.1.1 e.1.2; rw [e.2] at this; cases this), if_pos hr]; rfl
theorem rchkE_ok {v : Int → List UInt8 → Bool} {x : Rw} (h : 1 ≤ x.sort → x.sort ≤ 3 → v x.sort x.name = true) (hr : ¬ RngBad x) : rchkE v x = 0 := by
  unfold RngBad at hr
  unfold rchkE chkR; rw [if_neg (fun e => by have := h e.1.1 e.1.2; rw [e.2] at this; cases this), if_neg hr]
theorem rchkE_get {v : Int → List UInt8 → Bool} {x : Rw} : (rchkE v x = 0 ∧ chkR v x = .inl x) ∨ (∃ q : Nat, rchkE v x = q ∧ q ≠ 0 ∧ chkR v x = .inr q) := by
  by_cases h1 : (1 ≤ x.sort ∧ x.sort ≤ 3) ∧ v x.sort x.name = false
  · have e : chkR v x = .inr 12 := by unfold chkR; rw [if_pos h1]
    exact .inr ⟨12, by unfold rchkE; rw [e], by decide, e⟩
  by_cases h2 : (x.sort = 0 ∧ 73048 < x.first) ∨ (x.sort = 4 ∧ 17 < x.first) ∨ x.c.1 < 1 ∨ 1000000 < x.c.1 ∨ x.c.1 * 65536 < x.c.2
  · have e : chkR v x = .inr 2 := by unfold chkR; rw [if_neg h1, if_pos h2]
    exact .inr ⟨2, by unfold rchkE; rw [e], by decide, e⟩
  · have e : chkR v x = .inl x := by unfold chkR; rw [if_neg h1, if_neg h2]
    exact .inl ⟨by unfold rchkE; rw [e], e⟩
set_option maxRecDepth 100000 in
set_option maxHeartbeats 2000000 in
theorem mValid_any (k : Int) (s : List UInt8) (w : World) (hk : 1 ≤ k) (hk3 : k ≤ 3) (hl : s.length ≤ 100000000) :
    Calls Tryz.prog 75 #[i64 k, enS s] w fun e w' => e = .returned (.bool (vN k s)) ∧ Below w.heap.size w w' := by
  rcases (by omega : k = 1 ∨ k = 2 ∨ k = 3) with rfl | rfl | rfl
  · have HC := Lib.hid (refCheck_any s w hl)
    have V : Hid (vN 1 s = (((check s : Nat) : Int) == 0)) := Lib.hid (by
      (show vN 1 s = (((check s : Nat) : Int) == 0)); unfold vN; rw [if_pos rfl]
      by_cases h : check s = 0
      · simp [h]
      · have h2 : ¬ ((check s : Nat) : Int) = 0 := by omega
        simp [h])
    generalize ((check s : Nat) : Int) = er at *
    go_enter Tryz.func75, Tryz.ntmps75
    go_wp2_with fail
    refine HC.out.mono ?_; rintro e w1 ⟨rfl, b1⟩
    go_wp2_with fail
    go_ret
    exact ⟨by rw [V.out]; rfl, b1⟩
  · have HC := Lib.hid (refSite_any s w (by unfold maxLen; omega))
    have V : Hid (vN 2 s = (((siteE s : Nat) : Int) == 0)) := Lib.hid (by
      (show vN 2 s = (((siteE s : Nat) : Int) == 0)); unfold vN; rw [if_neg (by decide), if_pos rfl]
      by_cases h : siteE s = 0
      · simp [h]
      · have h2 : ¬ ((siteE s : Nat) : Int) = 0 := by omega
        simp [h])
    generalize ((siteE s : Nat) : Int) = er at *
    go_enter Tryz.func75, Tryz.ntmps75
    go_wp2_with fail
    refine HC.out.mono ?_; rintro e w1 ⟨⟨at_, rfl⟩, rfl⟩
    go_wp2_with fail
    go_ret
    exact ⟨by rw [V.out]; rfl, Below.refl _ _⟩
  · have HC := Lib.hid (refParseAuthor_any s w (by omega))
    have V : Hid (vN 3 s = (authE s == 0)) := Lib.hid (by (show vN 3 s = (authE s == 0)); unfold vN; rw [if_neg (by decide), if_neg (by decide)]; by_cases h : authE s = 0 <;> simp [h])
    generalize authE s = er at *
    go_enter Tryz.func75, Tryz.ntmps75
    go_wp2_with fail
    refine HC.out.mono ?_; rintro e w1 ⟨⟨cs, at_, ⟨hcs, hone⟩, rfl⟩, b1⟩
    have hinf : (Tryz.prog.info? 48).map (·.size) = some 16 := by kernel_rfl
    have hsz : cs.toArray.size = 16 := by simpa using hcs
    have hth := (Blk16.made 48 w1).there
    have hBB := (b1.tr (below_new w1 (.cells #[.int .u8 0, .int .u8 0, .int .u8 0, .int .u8 0, .int .u8 0, .int .u8 0, .int .u8 0, .int .u8 0, .int .u8 0, .int .u8 0, .int .u8 0, .int .u8 0, .int .u8 0, .int .u8 0, .int .u8 0, .int .u8 0] 48))).trans (belowCells (N := w.heap.size) (b := w1.heap.size) b1.size cs 0 _)
    go_wp2_with (refine wpList_store_mid rfl 48 _ _ rfl w1.heap.size 0 _ rfl rfl ?_ ?_ ?_ ?_)
    · rw [hsz]; exact hth
    · rw [hinf, hsz]
    · exact hone
    go_ret
    exact ⟨by rw [V.out]; rfl, hBB⟩
set_option maxRecDepth 100000 in
set_option maxHeartbeats 4000000 in
theorem rowChk1 (n : List UInt8) (f a b : Int) (w : World) (hE : Env w) (hl : n.length ≤ 100000000) (ha2 : a ≤ 1000000000000000) (_hb : 0 ≤ b) (_hb2 : b ≤ 1000000000000000) :
    Calls Tryz.prog 98 #[.agg #[i64 1, enS n, i64 f, i64 a, i64 b]] w fun e w' => e = .returned (i64 (rchkE vN ⟨1, n, f, (a, b)⟩)) ∧ Below w.heap.size w w' := by
  have B0 := Lib.hid (below_new w (.cells #[i64 1, enS n, i64 f, i64 a, i64 b] 121))
  have K0 := Lib.hid (blk_new w (.cells #[i64 1, enS n, i64 f, i64 a, i64 b] 121))
  obtain ⟨C, hC⟩ : ∃ z, rchkE vN ⟨1, n, f, (a, b)⟩ = z := ⟨_, rfl⟩
  have HRb := Lib.hid (rchkE_rng (v := vN) (x := ⟨1, n, f, (a, b)⟩))
  have HOk := Lib.hid (rchkE_ok (v := vN) (x := ⟨1, n, f, (a, b)⟩))
  have HNm := Lib.hid (rchkE_name (v := vN) (x := ⟨1, n, f, (a, b)⟩))
  rw [hC] at HRb HOk HNm ⊢
  clear hC
  obtain ⟨w0, hw0⟩ : ∃ u : World, w.alloc (.cells #[i64 1, enS n, i64 f, i64 a, i64 b] 121) = u := ⟨_, rfl⟩
  rw [hw0] at B0 K0
  have HC := Lib.hid (check_any n w0 (hE.below B0.out) (by omega))
  have HV : Hid (vN 1 n = decide (((check n : Nat) : Int) = 0)) := Lib.hid (by (show vN 1 n = decide (((check n : Nat) : Int) = 0)); unfold vN; rw [if_pos rfl]; simp)
  generalize ((check n : Nat) : Int) = er at *
  have d0 := blk_cell K0.out 0
  have d1 := blk_cell K0.out 1
  go_enter Tryz.func98, Tryz.ntmps98
  go_wp2_with fail
  try rw [hw0]
  clear hw0 d0 d1
  refine HC.out.mono ?_; rintro e w1 ⟨rfl, b1⟩
  have K1 := Lib.hid (blk_below b1 K0.out)
  have B1 := Lib.hid (B0.out.tr b1)
  clear b1 K0 B0 HC
  have c3 := blk_cell K1.out 3
  have c4 := blk_cell K1.out 4
  by_cases hz : er = 0
  case neg =>
    have hn : (er != 0) = true := by simp [hz]
    have V : Hid (C = 12) := Lib.hid (HNm.out (by simp) (by rw [HV.out]; simp [hz]))
    clear HRb HOk HNm HV hz
    go_wp2_with fail
    go_ret
    exact ⟨by rw [V.out]; rfl, B1.out⟩
  subst hz
  have HT : Hid (vN 1 n = true) := Lib.hid (by rw [HV.out]; rfl)
  by_cases r1 : a < 1
  case pos =>
    have V : Hid (C = 2) := Lib.hid (HRb.out (fun _ _ => HT.out) (.inr (.inr (.inl r1))))
    clear HRb HOk HNm
    go_wp2_with fail
    go_ret
    exact ⟨by rw [V.out]; rfl, B1.out⟩
  by_cases r2 : 1000000 < a
  case pos =>
    have V : Hid (C = 2) := Lib.hid (HRb.out (fun _ _ => HT.out) (.inr (.inr (.inr (.inl r2)))))
    clear HRb HOk HNm
    go_wp2_with fail
    go_ret
    exact ⟨by rw [V.out]; rfl, B1.out⟩
  by_cases r3 : a * 65536 < b
  case pos =>
    have V : Hid (C = 2) := Lib.hid (HRb.out (fun _ _ => HT.out) (.inr (.inr (.inr (.inr r3)))))
    clear HRb HOk HNm
    go_wp2_with fail
    go_ret
    exact ⟨by rw [V.out]; rfl, B1.out⟩
  have V : Hid (C = 0) := Lib.hid (HOk.out (fun _ _ => HT.out) (by unfold RngBad; simp only; omega))
  clear HRb HOk HNm
  go_wp2_with fail
  go_ret
  exact ⟨by rw [V.out]; rfl, B1.out⟩
set_option maxRecDepth 100000 in
set_option maxHeartbeats 4000000 in
theorem rowChk2 (n : List UInt8) (f a b : Int) (w : World) (hl : n.length ≤ 100000000) (ha2 : a ≤ 1000000000000000) (_hb : 0 ≤ b) (_hb2 : b ≤ 1000000000000000) :
    Calls Tryz.prog 98 #[.agg #[i64 2, enS n, i64 f, i64 a, i64 b]] w fun e w' => e = .returned (i64 (rchkE vN ⟨2, n, f, (a, b)⟩)) ∧ Below w.heap.size w w' := by
  have B0 := Lib.hid (below_new w (.cells #[i64 2, enS n, i64 f, i64 a, i64 b] 121))
  have K0 := Lib.hid (blk_new w (.cells #[i64 2, enS n, i64 f, i64 a, i64 b] 121))
  obtain ⟨C, hC⟩ : ∃ z, rchkE vN ⟨2, n, f, (a, b)⟩ = z := ⟨_, rfl⟩
  have HRb := Lib.hid (rchkE_rng (v := vN) (x := ⟨2, n, f, (a, b)⟩))
  have HOk := Lib.hid (rchkE_ok (v := vN) (x := ⟨2, n, f, (a, b)⟩))
  have HNm := Lib.hid (rchkE_name (v := vN) (x := ⟨2, n, f, (a, b)⟩))
  rw [hC] at HRb HOk HNm ⊢
  clear hC
  obtain ⟨w0, hw0⟩ : ∃ u : World, w.alloc (.cells #[i64 2, enS n, i64 f, i64 a, i64 b] 121) = u := ⟨_, rfl⟩
  rw [hw0] at B0 K0
  have HC := Lib.hid (site_any n w0 (by unfold maxLen; omega))
  have HV : Hid (vN 2 n = decide (((siteE n : Nat) : Int) = 0)) := Lib.hid (by (show vN 2 n = decide (((siteE n : Nat) : Int) = 0)); unfold vN; rw [if_neg (by decide), if_pos rfl]; simp)
  generalize ((siteE n : Nat) : Int) = er at *
  have d0 := blk_cell K0.out 0
  have d1 := blk_cell K0.out 1
  go_enter Tryz.func98, Tryz.ntmps98
  go_wp2_with fail
  try rw [hw0]
  clear hw0 d0 d1
  refine HC.out.mono ?_; rintro e w1 ⟨⟨at_, rfl⟩, rfl⟩
  have K1 := K0
  have B1 := B0
  have b1 := Below.refl w0.heap.size w0
  have K1 := Lib.hid (blk_below b1 K0.out)
  have B1 := Lib.hid (B0.out.tr b1)
  clear b1 K0 B0 HC
  have c3 := blk_cell K1.out 3
  have c4 := blk_cell K1.out 4
  by_cases hz : er = 0
  case neg =>
    have hn : (er != 0) = true := by simp [hz]
    have V : Hid (C = 12) := Lib.hid (HNm.out (by simp) (by rw [HV.out]; simp [hz]))
    clear HRb HOk HNm HV hz
    go_wp2_with fail
    go_ret
    exact ⟨by rw [V.out]; rfl, B1.out⟩
  subst hz
  have HT : Hid (vN 2 n = true) := Lib.hid (by rw [HV.out]; rfl)
  by_cases r1 : a < 1
  case pos =>
    have V : Hid (C = 2) := Lib.hid (HRb.out (fun _ _ => HT.out) (.inr (.inr (.inl r1))))
    clear HRb HOk HNm
    go_wp2_with fail
    go_ret
    exact ⟨by rw [V.out]; rfl, B1.out⟩
  by_cases r2 : 1000000 < a
  case pos =>
    have V : Hid (C = 2) := Lib.hid (HRb.out (fun _ _ => HT.out) (.inr (.inr (.inr (.inl r2)))))
    clear HRb HOk HNm
    go_wp2_with fail
    go_ret
    exact ⟨by rw [V.out]; rfl, B1.out⟩
  by_cases r3 : a * 65536 < b
  case pos =>
    have V : Hid (C = 2) := Lib.hid (HRb.out (fun _ _ => HT.out) (.inr (.inr (.inr (.inr r3)))))
    clear HRb HOk HNm
    go_wp2_with fail
    go_ret
    exact ⟨by rw [V.out]; rfl, B1.out⟩
  have V : Hid (C = 0) := Lib.hid (HOk.out (fun _ _ => HT.out) (by unfold RngBad; simp only; omega))
  clear HRb HOk HNm
  go_wp2_with fail
  go_ret
  exact ⟨by rw [V.out]; rfl, B1.out⟩
set_option maxRecDepth 100000 in
set_option maxHeartbeats 4000000 in
theorem rowChk3 (n : List UInt8) (f a b : Int) (w : World) (hl : n.length ≤ 100000000) (ha2 : a ≤ 1000000000000000) (_hb : 0 ≤ b) (_hb2 : b ≤ 1000000000000000) :
    Calls Tryz.prog 98 #[.agg #[i64 3, enS n, i64 f, i64 a, i64 b]] w fun e w' => e = .returned (i64 (rchkE vN ⟨3, n, f, (a, b)⟩)) ∧ Below w.heap.size w w' := by
  have B0 := Lib.hid (below_new w (.cells #[i64 3, enS n, i64 f, i64 a, i64 b] 121))
  have K0 := Lib.hid (blk_new w (.cells #[i64 3, enS n, i64 f, i64 a, i64 b] 121))
  obtain ⟨C, hC⟩ : ∃ z, rchkE vN ⟨3, n, f, (a, b)⟩ = z := ⟨_, rfl⟩
  have HRb := Lib.hid (rchkE_rng (v := vN) (x := ⟨3, n, f, (a, b)⟩))
  have HOk := Lib.hid (rchkE_ok (v := vN) (x := ⟨3, n, f, (a, b)⟩))
  have HNm := Lib.hid (rchkE_name (v := vN) (x := ⟨3, n, f, (a, b)⟩))
  rw [hC] at HRb HOk HNm ⊢
  clear hC
  obtain ⟨w0, hw0⟩ : ∃ u : World, w.alloc (.cells #[i64 3, enS n, i64 f, i64 a, i64 b] 121) = u := ⟨_, rfl⟩
  rw [hw0] at B0 K0
  have HC := Lib.hid (parseAuthor_any n w0 (by omega))
  have HV : Hid (vN 3 n = decide (authE n = 0)) := Lib.hid (by (show vN 3 n = decide (authE n = 0)); unfold vN; rw [if_neg (by decide), if_neg (by decide)])
  generalize authE n = er at *
  have d0 := blk_cell K0.out 0
  have d1 := blk_cell K0.out 1
  go_enter Tryz.func98, Tryz.ntmps98
  go_wp2_with fail
  try rw [hw0]
  clear hw0 d0 d1
  refine HC.out.mono ?_; rintro e w1 ⟨⟨cs, at_, hcs, rfl⟩, b1⟩
  have K1 := Lib.hid (blk_below b1 K0.out)
  have B1 := Lib.hid (B0.out.tr b1)
  clear b1 K0 B0 HC
  have c3 := blk_cell K1.out 3
  have c4 := blk_cell K1.out 4
  by_cases hz : er = 0
  case neg =>
    have hn : (er != 0) = true := by simp [hz]
    have V : Hid (C = 12) := Lib.hid (HNm.out (by simp) (by rw [HV.out]; simp [hz]))
    clear HRb HOk HNm HV hz
    go_wp2_with fail
    go_ret
    exact ⟨by rw [V.out]; rfl, B1.out⟩
  subst hz
  have HT : Hid (vN 3 n = true) := Lib.hid (by rw [HV.out]; rfl)
  by_cases r1 : a < 1
  case pos =>
    have V : Hid (C = 2) := Lib.hid (HRb.out (fun _ _ => HT.out) (.inr (.inr (.inl r1))))
    clear HRb HOk HNm
    go_wp2_with fail
    go_ret
    exact ⟨by rw [V.out]; rfl, B1.out⟩
  by_cases r2 : 1000000 < a
  case pos =>
    have V : Hid (C = 2) := Lib.hid (HRb.out (fun _ _ => HT.out) (.inr (.inr (.inr (.inl r2)))))
    clear HRb HOk HNm
    go_wp2_with fail
    go_ret
    exact ⟨by rw [V.out]; rfl, B1.out⟩
  by_cases r3 : a * 65536 < b
  case pos =>
    have V : Hid (C = 2) := Lib.hid (HRb.out (fun _ _ => HT.out) (.inr (.inr (.inr (.inr r3)))))
    clear HRb HOk HNm
    go_wp2_with fail
    go_ret
    exact ⟨by rw [V.out]; rfl, B1.out⟩
  have V : Hid (C = 0) := Lib.hid (HOk.out (fun _ _ => HT.out) (by unfold RngBad; simp only; omega))
  clear HRb HOk HNm
  go_wp2_with fail
  go_ret
  exact ⟨by rw [V.out]; rfl, B1.out⟩
set_option maxRecDepth 100000 in
set_option maxHeartbeats 4000000 in
theorem rowChk0 (n : List UInt8) (f a b : Int) (w : World) (hT : Tab w) (_hl : n.length ≤ 100000000) (hf : 0 ≤ f) (ha2 : a ≤ 1000000000000000) (_hb : 0 ≤ b) (_hb2 : b ≤ 1000000000000000) :
    Calls Tryz.prog 98 #[.agg #[i64 0, enS n, i64 f, i64 a, i64 b]] w fun e w' => e = .returned (i64 (rchkE vN ⟨0, n, f, (a, b)⟩)) ∧ Below w.heap.size w w' := by
  have B0 := Lib.hid (below_new w (.cells #[i64 0, enS n, i64 f, i64 a, i64 b] 121))
  have K0 := Lib.hid (blk_new w (.cells #[i64 0, enS n, i64 f, i64 a, i64 b] 121))
  obtain ⟨C, hC⟩ : ∃ z, rchkE vN ⟨0, n, f, (a, b)⟩ = z := ⟨_, rfl⟩
  have HRb := Lib.hid (rchkE_rng (v := vN) (x := ⟨0, n, f, (a, b)⟩))
  have HOk := Lib.hid (rchkE_ok (v := vN) (x := ⟨0, n, f, (a, b)⟩))
  have HNm := Lib.hid (rchkE_name (v := vN) (x := ⟨0, n, f, (a, b)⟩))
  rw [hC] at HRb HOk HNm ⊢
  clear hC
  obtain ⟨w0, hw0⟩ : ∃ u : World, w.alloc (.cells #[i64 0, enS n, i64 f, i64 a, i64 b] 121) = u := ⟨_, rfl⟩
  rw [hw0] at B0 K0
  have HC := Lib.hid (Dt.fmtDay_any f w0 (hT.below B0.out))
  have d0 := blk_cell K0.out 0
  have d2 := blk_cell K0.out 2
  go_enter Tryz.func98, Tryz.ntmps98
  go_wp2_with fail
  try rw [hw0]
  clear hw0 d0 d2
  refine HC.out.mono ?_; rintro e w1 ⟨⟨tx, rfl⟩, b1⟩
  have K1 := Lib.hid (blk_below b1 K0.out)
  have B1 := Lib.hid (B0.out.tr b1)
  clear b1 K0 B0 HC
  have c3 := blk_cell K1.out 3
  have c4 := blk_cell K1.out 4
  by_cases r0 : 73048 < f
  case pos =>
    rw [if_pos (.inr r0)]
    have V : Hid (C = 2) := Lib.hid (HRb.out (fun h => by simp at h) (.inl ⟨rfl, r0⟩))
    clear HRb HOk HNm r0
    go_wp2_with fail
    go_ret
    exact ⟨by rw [V.out]; rfl, B1.out⟩
  rw [if_neg (by omega)]
  by_cases r1 : a < 1
  case pos =>
    have V : Hid (C = 2) := Lib.hid (HRb.out (fun h => by simp at h) (.inr (.inr (.inl r1))))
    clear HRb HOk HNm
    go_wp2_with fail
    go_ret
    exact ⟨by rw [V.out]; rfl, B1.out⟩
  by_cases r2 : 1000000 < a
  case pos =>
    have V : Hid (C = 2) := Lib.hid (HRb.out (fun h => by simp at h) (.inr (.inr (.inr (.inl r2)))))
    clear HRb HOk HNm
    go_wp2_with fail
    go_ret
    exact ⟨by rw [V.out]; rfl, B1.out⟩
  by_cases r3 : a * 65536 < b
  case pos =>
    have V : Hid (C = 2) := Lib.hid (HRb.out (fun h => by simp at h) (.inr (.inr (.inr (.inr r3)))))
    clear HRb HOk HNm
    go_wp2_with fail
    go_ret
    exact ⟨by rw [V.out]; rfl, B1.out⟩
  have V : Hid (C = 0) := Lib.hid (HOk.out (fun h => by simp at h) (by unfold RngBad; simp only; omega))
  clear HRb HOk HNm
  go_wp2_with fail
  go_ret
  exact ⟨by rw [V.out]; rfl, B1.out⟩
set_option maxRecDepth 100000 in
set_option maxHeartbeats 4000000 in
theorem rowChk4 (n : List UInt8) (f a b : Int) (w : World) (_hl : n.length ≤ 100000000) (hf : 0 ≤ f) (ha2 : a ≤ 1000000000000000) (_hb : 0 ≤ b) (_hb2 : b ≤ 1000000000000000) :
    Calls Tryz.prog 98 #[.agg #[i64 4, enS n, i64 f, i64 a, i64 b]] w fun e w' => e = .returned (i64 (rchkE vN ⟨4, n, f, (a, b)⟩)) ∧ Below w.heap.size w w' := by
  have B0 := Lib.hid (below_new w (.cells #[i64 4, enS n, i64 f, i64 a, i64 b] 121))
  have K0 := Lib.hid (blk_new w (.cells #[i64 4, enS n, i64 f, i64 a, i64 b] 121))
  obtain ⟨C, hC⟩ : ∃ z, rchkE vN ⟨4, n, f, (a, b)⟩ = z := ⟨_, rfl⟩
  have HRb := Lib.hid (rchkE_rng (v := vN) (x := ⟨4, n, f, (a, b)⟩))
  have HOk := Lib.hid (rchkE_ok (v := vN) (x := ⟨4, n, f, (a, b)⟩))
  have HNm := Lib.hid (rchkE_name (v := vN) (x := ⟨4, n, f, (a, b)⟩))
  rw [hC] at HRb HOk HNm ⊢
  clear hC
  have B1 := B0
  have K1 := K0
  clear B0 K0
  by_cases r0 : 18 ≤ f
  case pos =>
    have V : Hid (C = 2) := Lib.hid (HRb.out (fun _ h => by simp at h) (.inr (.inl ⟨rfl, by show 17 < f; omega⟩)))
    clear HRb HOk HNm
    go_enter Tryz.func98, Tryz.ntmps98
    go_wp2_with fail
    go_ret
    exact ⟨by rw [V.out]; rfl, B1.out⟩
  by_cases r1 : a < 1
  case pos =>
    have V : Hid (C = 2) := Lib.hid (HRb.out (fun _ h => by simp at h) (.inr (.inr (.inl r1))))
    clear HRb HOk HNm
    go_enter Tryz.func98, Tryz.ntmps98
    go_wp2_with fail
    go_ret
    exact ⟨by rw [V.out]; rfl, B1.out⟩
  by_cases r2 : 1000000 < a
  case pos =>
    have V : Hid (C = 2) := Lib.hid (HRb.out (fun _ h => by simp at h) (.inr (.inr (.inr (.inl r2)))))
    clear HRb HOk HNm
    go_enter Tryz.func98, Tryz.ntmps98
    go_wp2_with fail
    go_ret
    exact ⟨by rw [V.out]; rfl, B1.out⟩
  by_cases r3 : a * 65536 < b
  case pos =>
    have V : Hid (C = 2) := Lib.hid (HRb.out (fun _ h => by simp at h) (.inr (.inr (.inr (.inr r3)))))
    clear HRb HOk HNm
    go_enter Tryz.func98, Tryz.ntmps98
    go_wp2_with fail
    go_ret
    exact ⟨by rw [V.out]; rfl, B1.out⟩
  have V : Hid (C = 0) := Lib.hid (HOk.out (fun _ h => by simp at h) (by unfold RngBad; simp only; omega))
  clear HRb HOk HNm
  go_enter Tryz.func98, Tryz.ntmps98
  go_wp2_with fail
  go_ret
  exact ⟨by rw [V.out]; rfl, B1.out⟩
theorem rowCheck_any (x : Rw) (w : World) (hE : Env w) (hT : Tab w) (h0 : 0 ≤ x.sort) (h4 : x.sort ≤ 4) (hl : x.name.length ≤ 100000000) (hf : 0 ≤ x.first) (ha2 : x.c.1 ≤ 1000000000000000) (hb : 0 ≤ x.c.2) (hb2 : x.c.2 ≤ 1000000000000000) :
    Calls Tryz.prog 98 #[rwV x] w fun e w' => e = .returned (i64 (rchkE vN x)) ∧ Below w.heap.size w w' := by
  obtain ⟨s, n, f, a, b⟩ := x
  simp only at h0 h4 hl hf ha2 hb hb2
  rcases (by omega : s = 0 ∨ s = 1 ∨ s = 2 ∨ s = 3 ∨ s = 4) with rfl | rfl | rfl | rfl | rfl
  · exact rowChk0 n f a b w hT hl hf ha2 hb hb2
  · exact rowChk1 n f a b w hE hl ha2 hb hb2
  · exact rowChk2 n f a b w hl ha2 hb hb2
  · exact rowChk3 n f a b w hl ha2 hb hb2
  · exact rowChk4 n f a b w hl hf ha2 hb hb2
end Go.Proofs.YthgefcoaaommkaaGreatDoor
