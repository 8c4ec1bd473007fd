/- The walk of the statement DigestNil. -/
import Derived.Test.YtlchcjnbbhpiaaaGreatDoorZn
import Derived.Test.YtlchcjnbbhpiaaaGreatDoorZt
import Derived.Test.YtlchcjnbbhpiaaaGreatDoorZa
namespace Go.Proofs.YtlchcjnbbhpiaaaGreatDoor
open Go.RowKit Go.Shelf Go.Dg Go.Maps

theorem byte_info : (Tryz.prog.info? 5).map (fun i => (i.zero, i.size, i.bytes)) = some (some (.int .u8 0), 1, 1) := by kernel_rfl
/-- A text of zeros is made. -/
theorem mk_zs (w : World) (n : Nat) (hn : n ≤ 2000000) : ∃ w', (Instr.makeSlice 66 (i64 n) (i64 n)).run Tryz.prog w = .ok (.slice (some ⟨w.heap.size, 0, none⟩) n n) w' ∧ (convert 66 9 (.slice (some ⟨w.heap.size, 0, none⟩) n n)).run Tryz.prog w' = .ok (enS (zs n)) w' ∧ Below w.heap.size w w' := by
  obtain ⟨i0, hi, hz0, hz1, hz2⟩ := info_parts byte_info
  obtain ⟨w', h1, h2, h3⟩ := run_makeSlice_full (P := Tryz.prog) w w.heap.size 66 5 i0 (.int .u8 0) 1 Tryz.underlying66 hi hz0 hz1 .i64 .i64 n (by omega) (by rw [hz2]; omega) (by unfold maxLen; omega) (Nat.le_refl _)
  refine ⟨w', h1, ?_, (Below.refl w.heap.size w).grown h3 (Nat.le_refl _) fun k hk => by cases hk⟩
  refine of_own_bytes (base := w.heap.size) (n := n) ?_
  have e : (madeCells (Value.int .u8 0).cells (n * 1)).toList = (zs n).map enB := by
    apply List.ext_getElem
    · simp [madeCells, zs]
    · intro i h1 h2
      simp [madeCells, zs, Value.cells, Nat.mod_one, enB]
  rw [← e]
  exact h2
theorem op_rng {w : World} {b : Nat} {kd nw : Int} {x : It} {t : TypeId} (h : w.heap[b]? = some (.cells (opL kd x nw).toArray t (0, 0))) : w.rangeAt b 1 (itL x) := fun j v hj => by
  rw [blk_cell h (1 + j), List.getElem?_toArray]
  have hl := (List.getElem?_eq_some_iff.1 hj).1
  have e : opL kd x nw = i64 kd :: (itL x ++ [i64 nw]) := rfl
  rw [e, show 1 + j = j + 1 by omega, List.getElem?_cons_succ, List.getElem?_append_left hl]
  exact hj
set_option maxRecDepth 100000 in
set_option maxHeartbeats 8000000 in
theorem digestNil_walk (kd : Int) (x : It) (nw : Int) (m : Int) (wm : (Lit.int .u8 m).wf = true) (w : World) (_hk : x.ky.length = 32) (_hl : LenI x) (hg : GlD w) : Calls Tryz.prog 7 #[.agg (opL kd x nw).toArray, .int .u8 m] w fun e w' => e = .returned (.bool true) ∧ Below w.heap.size w w' := by
  have HK := Lib.hid (fun W (hb : Below w.heap.size w W) => known_any W (hg.below hb))
  have HG := Lib.hid hg
  clear hg
  go_enter Tryz.func7, Tryz.ntmps7
  go_upto_region 1 with fail
  have bx := blk_new w (.cells (opL kd x nw).toArray 55)
  have B1 := Lib.hid (below_new w (.cells (opL kd x nw).toArray 55))
  have BX1 := Lib.hid bx
  clear bx
  go_wp2_with fail
  refine (HK.out _ B1.out).mono ?_; rintro e w2 ⟨rfl, b2⟩
  have B2 := Lib.hid (B1.out.tr b2)
  have BX2 := Lib.hid (blk_below b2 BX1.out)
  clear b2 B1 BX1 HK
  have c37 : w2.cell? ⟨w.heap.size, 37, none⟩ = some (i64 nw) := blk_cell BX2.out 37
  go_wp2_with fail
  refine (takeNil_any nw w2).mono ?_; rintro e w3 ⟨rfl, b3⟩
  go_upto_region 5 with fail
  have BD4 := Lib.hid (blk_new w3 (.cells #[enS [], i64 0, i64 0, i64 0, .slice none 0 0] 32))
  have bn := below_new w3 (.cells #[enS [], i64 0, i64 0, i64 0, .slice none 0 0] 32)
  have B4 := Lib.hid ((B2.out.tr b3).tr bn)
  have BX4 := Lib.hid (blk_below bn (blk_below b3 BX2.out))
  clear b3 bn B2 BX2 c37
  generalize hw4 : World.alloc w3 _ = w4 at *
  clear hw4
  have b' := (Below.refl w4.heap.size w4).drew
  refine Flow.wp_region_segs Flow.Later Flow.Later.refl Flow.Later.trans [([0, 1, 4, 5, 2], 3), ([], 6), ([7, 8, 9, 10, 11, 12, 13, 14, 15, 16, 17, 18, 19, 20, 21], 22), ([23, 24, 25], 26), ([27, 28, 29, 30], 31)] [32, 33] (by kernel_rfl) (by kernel_rfl) ?_
  have BX5 := Lib.hid (blk_below b' BX4.out); clear BX4
  have BD5 := Lib.hid (blk_below b' BD4.out); clear BD4
  have B5 := Lib.hid (B4.out.tr b'); clear B4
  clear b'
  generalize World.drew _ = w5 at *
  have q37 : ∀ t : Flow.Cls (Flow.Later w5), t.val.cell? ⟨w.heap.size, 37, none⟩ = some (i64 nw) := fun t => Flow.cls_cell (blk_cell BX5.out 37) t
  have qd4 : ∀ t : Flow.Cls (Flow.Later w5), t.val.cell? ⟨w3.heap.size, 4, none⟩ = some (.slice none 0 0) := fun t => Flow.cls_cell (blk_cell BD5.out 4) t
  have qR : ∀ t : Flow.Cls (Flow.Later w5), t.val.rangeAt w.heap.size 1 (itL x) := fun t => range_below (op_rng BX5.out) t.ok
  haveI nonE := Flow.cls_nonempty w5
  rw [Flow.wpSegs_cons]
  simp only [Flow.pick, List.getElem?_toArray, List.getElem?_cons_succ, List.getElem?_cons_zero]
  repeat go_big_quiet_step (fail)
  refine BigFrame.wpQuiet_want rfl (fun K hK => quiet_load_mid 53 _ rfl w.heap.size 1 rfl (itL x) _ (fun _ he => by obtain ⟨t, rfl⟩ := he; exact qR t) Tryz.underlying53 rfl (by rw [itL_length]; kernel_rfl) (hK _ ?_))
  refine wpQuiet_nil ?_
  clear nonE q37 qd4 qR
  rw [Flow.callAt_eq]
  simp only [List.getElem?_toArray, List.getElem?_cons_succ, List.getElem?_cons_zero]
  rw [if_pos (by rfl)]
  refine Flow.wp_behind (fun K0 hK => ?_)
  go_wp2_with fail
  refine (item_any x _).mono ?_; rintro e w6 ⟨rfl, b⟩
  have b' : Below w5.heap.size w5 w6 := b
  clear b
  refine hK.out _ _ ⟨b', ?_⟩
  clear hK K0
  have BX6 := Lib.hid (blk_below b' BX5.out); clear BX5
  have BD6 := Lib.hid (blk_below b' BD5.out); clear BD5
  have B6 := Lib.hid (B5.out.tr b'); clear B5
  clear b'
  have q37 : ∀ t : Flow.Cls (Flow.Later w6), t.val.cell? ⟨w.heap.size, 37, none⟩ = some (i64 nw) := fun t => Flow.cls_cell (blk_cell BX6.out 37) t
  have qd4 : ∀ t : Flow.Cls (Flow.Later w6), t.val.cell? ⟨w3.heap.size, 4, none⟩ = some (.slice none 0 0) := fun t => Flow.cls_cell (blk_cell BD6.out 4) t
  have qR : ∀ t : Flow.Cls (Flow.Later w6), t.val.rangeAt w.heap.size 1 (itL x) := fun t => range_below (op_rng BX6.out) t.ok
  haveI nonE := Flow.cls_nonempty w6
  rw [Flow.wpSegs_cons]
  simp only [Flow.pick]
  repeat go_big_quiet_step (fail)
  refine wpQuiet_nil ?_
  clear nonE q37 qd4 qR
  rw [Flow.callAt_eq]
  simp only [List.getElem?_toArray, List.getElem?_cons_succ, List.getElem?_cons_zero]
  rw [if_pos (by rfl)]
  refine Flow.wp_behind (fun K0 hK => ?_)
  go_wp2_with fail
  refine (addNil_any x nw _).mono ?_; rintro e w7 ⟨rfl, b⟩
  have b' : Below w6.heap.size w6 w7 := b
  clear b
  refine hK.out _ _ ⟨b', ?_⟩
  clear hK K0
  have BX7 := Lib.hid (blk_below b' BX6.out); clear BX6
  have BD7 := Lib.hid (blk_below b' BD6.out); clear BD6
  have B7 := Lib.hid (B6.out.tr b'); clear B6
  clear b'
  have q37 : ∀ t : Flow.Cls (Flow.Later w7), t.val.cell? ⟨w.heap.size, 37, none⟩ = some (i64 nw) := fun t => Flow.cls_cell (blk_cell BX7.out 37) t
  have qd4 : ∀ t : Flow.Cls (Flow.Later w7), t.val.cell? ⟨w3.heap.size, 4, none⟩ = some (.slice none 0 0) := fun t => Flow.cls_cell (blk_cell BD7.out 4) t
  have qR : ∀ t : Flow.Cls (Flow.Later w7), t.val.rangeAt w.heap.size 1 (itL x) := fun t => range_below (op_rng BX7.out) t.ok
  haveI nonE := Flow.cls_nonempty w7
  rw [Flow.wpSegs_cons]
  simp only [Flow.pick, List.getElem?_toArray, List.getElem?_cons_succ, List.getElem?_cons_zero]
  repeat go_big_quiet_step (fail)
  refine wpQuiet_nil ?_
  clear nonE q37 qd4 qR
  rw [Flow.callAt_eq]
  simp only [List.getElem?_toArray, List.getElem?_cons_succ, List.getElem?_cons_zero]
  rw [if_pos (by rfl)]
  refine Flow.wp_behind (fun K0 hK => ?_)
  go_wp2_with fail
  refine (dueNil_any nw _).mono ?_; rintro e w8 ⟨rfl, rfl⟩
  have b' : Below w7.heap.size w7 w7 := Below.refl _ _
  refine hK.out _ _ ⟨b', ?_⟩
  clear hK K0 b'
  have q37 : ∀ t : Flow.Cls (Flow.Later w7), t.val.cell? ⟨w.heap.size, 37, none⟩ = some (i64 nw) := fun t => Flow.cls_cell (blk_cell BX7.out 37) t
  have qd4 : ∀ t : Flow.Cls (Flow.Later w7), t.val.cell? ⟨w3.heap.size, 4, none⟩ = some (.slice none 0 0) := fun t => Flow.cls_cell (blk_cell BD7.out 4) t
  have qR : ∀ t : Flow.Cls (Flow.Later w7), t.val.rangeAt w.heap.size 1 (itL x) := fun t => range_below (op_rng BX7.out) t.ok
  haveI nonE := Flow.cls_nonempty w7
  rw [Flow.wpSegs_cons]
  simp only [Flow.pick, List.getElem?_toArray, List.getElem?_cons_succ, List.getElem?_cons_zero]
  repeat go_big_quiet_step (fail)
  refine wpQuiet_nil ?_
  clear nonE q37 qd4 qR
  rw [Flow.callAt_eq]
  simp only [List.getElem?_toArray, List.getElem?_cons_succ, List.getElem?_cons_zero]
  rw [if_pos (by rfl)]
  refine Flow.wp_behind (fun K0 hK => ?_)
  go_wp2_with fail
  refine (lenNil_any _).mono ?_; rintro e w8 ⟨rfl, rfl⟩
  have b' : Below w7.heap.size w7 w7 := Below.refl _ _
  refine hK.out _ _ ⟨b', ?_⟩
  clear hK K0 b'
  have q37 : ∀ t : Flow.Cls (Flow.Later w7), t.val.cell? ⟨w.heap.size, 37, none⟩ = some (i64 nw) := fun t => Flow.cls_cell (blk_cell BX7.out 37) t
  have qd4 : ∀ t : Flow.Cls (Flow.Later w7), t.val.cell? ⟨w3.heap.size, 4, none⟩ = some (.slice none 0 0) := fun t => Flow.cls_cell (blk_cell BD7.out 4) t
  have qR : ∀ t : Flow.Cls (Flow.Later w7), t.val.rangeAt w.heap.size 1 (itL x) := fun t => range_below (op_rng BX7.out) t.ok
  haveI nonE := Flow.cls_nonempty w7
  rw [Flow.wpSegs_cons]
  simp only [Flow.pick, List.getElem?_toArray, List.getElem?_cons_succ, List.getElem?_cons_zero]
  repeat go_big_quiet_step (fail)
  refine wpQuiet_nil ?_
  clear nonE q37 qd4 qR
  rw [Flow.callAt_eq]
  simp only [List.getElem?_toArray, List.getElem?_cons_succ, List.getElem?_cons_zero]
  rw [if_pos (by rfl)]
  refine Flow.wp_behind (fun K0 hK => ?_)
  go_wp2_with fail
  refine (issueNil_any _).mono ?_; rintro e w8 ⟨rfl, rfl⟩
  have b' : Below w7.heap.size w7 w7 := Below.refl _ _
  refine hK.out _ _ ⟨b', ?_⟩
  clear hK K0 b'
  haveI nonE := Flow.cls_nonempty w7
  rw [Flow.wpSegs_nil]
  simp only [Flow.pick, List.getElem?_toArray, List.getElem?_cons_succ, List.getElem?_cons_zero]
  repeat go_big_quiet_step (fail)
  refine wpQuiet_nil ?_
  clear nonE
  have hm : 0 ≤ m ∧ m ≤ 255 := by
    have em : IntKind.u8.min = 0 := by decide
    have eM : IntKind.u8.max = 255 := by decide
    simp [Lit.wf, em, eM] at wm
    exact wm
  have hmod := Int.tmod_eq_emod_of_nonneg (b := 2) hm.1
  clear wm BD7
  obtain ⟨n, hn⟩ : ∃ n : Nat, n = 1048576 + (m % 2).toNat := ⟨_, rfl⟩
  by_cases hp : m % 2 = 0
  case pos =>
    have hr : m.tmod 2 = 0 := by rw [hmod]; exact hp
    rw [hp] at hn
    obtain ⟨w8, hmk, hcv, b8⟩ := mk_zs w7 n (by omega)
    have HN : Hid (n = 1048576) := Lib.hid hn
    have hnn : (n : Int) = 1048576 := by rw [hn]; rfl
    rw [hnn] at hmk
    have B8 := Lib.hid (B7.out.tr b8)
    have HP := Lib.hid (protF_zs (n := n) (by omega))
    have HB := Lib.hid (burstD_zs (n := n) (by omega))
    clear b8 hmod hp hm B7 hn hnn
    have hS := zs_len n
    obtain ⟨S, hSS⟩ : ∃ q, zs n = q := ⟨_, rfl⟩
    rw [hSS] at hcv HP HB hS
    obtain ⟨T, hT⟩ : ∃ q, S ++ [10] = q := ⟨_, rfl⟩
    rw [hT] at HP
    have hTS : T.length = S.length + 1 := by rw [← hT]; simp
    have htz : (⟨T.toArray⟩ : ByteArray).size = T.length := by show T.toArray.size = _; simp
    have hsl : (S.length : Int) ≤ 1048576 := by rw [hS, HN.out]; decide
    clear hT
    have hsz : (⟨S.toArray⟩ : ByteArray).size = S.length := by show S.toArray.size = _; simp
    have HS := Lib.hid hS
    clear hSS hS
    go_upto_region 8 with fail
    have HPR := Lib.hid (protect_any S w8 (by rw [HS.out]; have := HN.out; omega))
    have HBU := Lib.hid (fun W (hb : Below w8.heap.size w8 W) => burst_any S W ((HG.out.below B8.out).below hb) (by rw [HS.out]; have := HN.out; omega))
    rw [HP.out] at HPR
    go_wp2_with fail
    refine HPR.out.mono ?_; rintro e w9 ⟨rfl, b9⟩
    have B9 := Lib.hid (B8.out.tr b9)
    have HB9 := Lib.hid (HBU.out w9 b9)
    clear b9 HBU HPR HP B8
    go_wp2_with fail
    refine HB9.out.mono ?_; rintro e w10 ⟨⟨v, rfl, hv⟩, b10⟩
    unfold BuR at hv
    rw [HB.out] at hv
    obtain rfl := hv
    have B10 := Lib.hid (B9.out.tr b10)
    clear b10 HB9 B9 HB
    go_wp2_with fail
    go_ret
    exact ⟨rfl, B10.out.tr (below_new _ _)⟩
  case neg =>
    have hr : m.tmod 2 = 1 := by rw [hmod]; omega
    have h1 : m % 2 = 1 := by omega
    rw [h1] at hn
    obtain ⟨w8, hmk, hcv, b8⟩ := mk_zs w7 n (by omega)
    have HN : Hid (n = 1048577) := Lib.hid hn
    have hnn : (n : Int) = 1048577 := by rw [hn]; rfl
    rw [hnn] at hmk
    have B8 := Lib.hid (B7.out.tr b8)
    have HP := Lib.hid (protF_zs2 (n := n) (by omega))
    have HB := Lib.hid (burstD_zs2 (n := n) (by omega))
    clear b8 hmod hp hm B7 hn hnn h1
    have hS := zs_len n
    obtain ⟨S, hSS⟩ : ∃ q, zs n = q := ⟨_, rfl⟩
    rw [hSS] at hcv HP HB hS
    have hsz : (⟨S.toArray⟩ : ByteArray).size = S.length := by show S.toArray.size = _; simp
    have HS := Lib.hid hS
    clear hSS hS
    go_upto_region 8 with fail
    have HPR := Lib.hid (protect_any S w8 (by rw [HS.out]; have := HN.out; omega))
    have HBU := Lib.hid (fun W (hb : Below w8.heap.size w8 W) => burst_any S W ((HG.out.below B8.out).below hb) (by rw [HS.out]; have := HN.out; omega))
    rw [HP.out] at HPR
    go_wp2_with fail
    refine HPR.out.mono ?_; rintro e w9 ⟨rfl, b9⟩
    have B9 := Lib.hid (B8.out.tr b9)
    have HB9 := Lib.hid (HBU.out w9 b9)
    clear b9 HBU HPR HP B8
    go_wp2_with fail
    refine HB9.out.mono ?_; rintro e w10 ⟨⟨v, rfl, hv⟩, b10⟩
    unfold BuR at hv
    rw [HB.out] at hv
    obtain rfl := hv
    have B10 := Lib.hid (B9.out.tr b10)
    clear b10 HB9 B9 HB
    go_wp2_with fail
    go_ret
    exact ⟨rfl, B10.out.tr (below_new _ _)⟩
end Go.Proofs.YtlchcjnbbhpiaaaGreatDoor
