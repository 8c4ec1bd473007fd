/- Contracts: the day of a minute; the text of an author's identity, of the code and of the reference. -/
import Derived.Test.YthgefcoaaommkaaDoorStB
import Derived.Test.YthgefcoaaommkaaDoorFlow
import Derived.Lib.BitFns
import Derived.Great.BuildSlice
import Derived.Laws.IdiomStrings
namespace Go.Proofs.YthgefcoaaommkaaDoor
open Go.RowKit Go.Gn Go.Sr Go.Maps

/-- Is a number a minute? -/
def vld (m : Int) : Bool := decide (0 ≤ m ∧ m ≤ 105190559)
theorem vld_true {m : Int} (h : vld m = true) : 0 ≤ m ∧ m ≤ 105190559 := by simpa [vld] using h
theorem vld_mk {m : Int} (h : 0 ≤ m ∧ m ≤ 105190559) : vld m = true := by simpa [vld] using h
theorem vld_mkn {m : Int} (h : m < 0 ∨ 105190559 < m) : vld m = false := by simp [vld]; omega
set_option maxHeartbeats 400000 in
theorem valid_any (m : Int) (w : World) : Calls Tryd.prog 39 #[.int .i64 m] w fun e w' => e = .returned (.bool (vld m)) ∧ w = w' := by
  by_cases a : 0 ≤ m
  · by_cases b : m ≤ 105190559
    · have A := Lib.hid (vld_mk ⟨a, b⟩)
      go_enter Tryd.func39, Tryd.ntmps39
      go_wp2
      go_ret
      exact ⟨ret_bool A.out.symm, rfl⟩
    · have A := Lib.hid (vld_mkn (m := m) (by omega))
      go_enter Tryd.func39, Tryd.ntmps39
      go_wp2
      go_ret
      exact ⟨ret_bool A.out.symm, rfl⟩
  · have A := Lib.hid (vld_mkn (m := m) (by omega))
    have a' : m < 0 := by omega
    go_enter Tryd.func39, Tryd.ntmps39
    go_wp2
    go_ret
    exact ⟨ret_bool A.out.symm, rfl⟩
set_option maxHeartbeats 400000 in
theorem day_yes (m : Int) (w : World) (h0 : 0 ≤ m) (h1 : m ≤ 105190559) : Calls Tryd.prog 26 #[.int .i64 m] w fun e w' => e = .returned (.tuple #[.int .i64 (m / 1440), .int .i64 0]) ∧ w = w' := by
  have A := vld_mk ⟨h0, h1⟩
  go_enter Tryd.func26, Tryd.ntmps26
  go_wp2_with (go_at_call 39; refine (valid_any _ _).mono ?_; rintro e w' ⟨rfl, rfl⟩)
  go_ret2
  exact ⟨rfl, rfl⟩
/-- The size's number of digits, as the library counts them. -/
theorem blen_lib {n : Int} (h : n ≤ 65536) : ((Lib.bitLen n.toNat : Nat) : Int) = blen n := by
  have hh : ∀ f x : Nat, x < 2 ^ f → Lib.bitLenAux f x = if x = 0 then 0 else x.log2 + 1 := by
    intro f
    induction f with
    | zero => intro x hx; have : x = 0 := by simpa using hx
              subst this; rfl
    | succ f ih =>
      intro x hx
      unfold Lib.bitLenAux
      by_cases h0 : x = 0
      · rw [if_pos h0, if_pos h0]
      · rw [if_neg h0, if_neg h0, ih (x / 2) (by rw [Nat.pow_succ] at hx; omega)]
        by_cases h1 : x / 2 = 0
        · rw [if_pos h1]
          have : x = 1 := by omega
          subst this; rfl
        · rw [if_neg h1, Nat.log2_def x, if_pos (by omega)]; omega
  unfold Lib.bitLen blen
  rw [hh 64 n.toNat (by omega)]
  by_cases h0 : n ≤ 0
  · rw [if_pos h0, if_pos (by omega)]
  · rw [if_neg h0, if_neg (by omega)]
section
variable {P : Program} {C : World → Prop} {Q : Act → Prop} {a : Act} {o : Oper}
/-- An index in a quiet walk, by its run equation. -/
theorem quiet_index {K : Act → Prop} (t : TypeId) (x i : Operand) (ho : o.op = .index t x i) (v : Value) (hr : ∀ w, (Instr.index t (a.eval x) (a.eval i)).run P w = .ok v w) (hk : K (a.put o.dst v)) : o.quiet P a C K :=
  ⟨_, fun w _ => by
    unfold Oper.quietAt execOp
    simp only [ho, Sem.run_bind, Sem.run_pure, hr, Result.andThen_ok]
    exact ⟨rfl, rfl⟩, hk⟩
end
theorem run_cat (a b : List UInt8) (h : a.length + b.length ≤ 1000000) (u : World) : (Op.stringOp .add ⟨a.toArray⟩ ⟨b.toArray⟩).run Tryd.prog u = .ok (enS (a ++ b)) u := by
  have e : IntKind.i64.max = 9223372036854775807 := by decide
  have hs : ¬ (((⟨a.toArray⟩ : ByteArray).size + (⟨b.toArray⟩ : ByteArray).size : Nat) : Int) > IntKind.i64.max := by
    rw [e]
    show ¬ ((a.toArray.size + b.toArray.size : Nat) : Int) > _
    simp; omega
  unfold Op.stringOp
  simp only
  rw [if_neg hs, bcat]
  rfl
/-- A sum of texts in a quiet walk. -/
theorem quiet_cat {C : World → Prop} {K : Act → Prop} {a : Act} {o : Oper} (x y : Operand) (ty ty2 : TypeId) (ho : o.op = .binOp .add ty x y ty2) (v : Value) (hr : ∀ w, (binOp .add ty (a.eval x) (a.eval y)).run Tryd.prog w = .ok v w) (hk : K (a.put o.dst v)) : o.quiet Tryd.prog a C K :=
  ⟨_, fun w _ => by
    unfold Oper.quietAt execOp
    simp only [ho, Sem.run_bind, Sem.run_pure, hr]
    exact ⟨rfl, rfl⟩, hk⟩
theorem hexX (k : Nat) (h : k < 16) : (⟨#[48, 49, 50, 51, 52, 53, 54, 55, 56, 57, 97, 98, 99, 100, 101, 102]⟩ : ByteArray).extract k (k + 1) = ⟨[hexd k].toArray⟩ := by
  rcases (by omega : k = 0 ∨ k = 1 ∨ k = 2 ∨ k = 3 ∨ k = 4 ∨ k = 5 ∨ k = 6 ∨ k = 7 ∨ k = 8 ∨ k = 9 ∨ k = 10 ∨ k = 11 ∨ k = 12 ∨ k = 13 ∨ k = 14 ∨ k = 15) with rfl | rfl | rfl | rfl | rfl | rfl | rfl | rfl | rfl | rfl | rfl | rfl | rfl | rfl | rfl | rfl
  all_goals rfl
theorem cat_hex (s : List UInt8) (n : Nat) (h : n < 16) (hs : s.length ≤ 1000) (w : World) : (binOp .add 9 (enS s) (.string ((⟨#[48, 49, 50, 51, 52, 53, 54, 55, 56, 57, 97, 98, 99, 100, 101, 102]⟩ : ByteArray).extract n (n + 1)))).run Tryd.prog w = .ok (enS (s ++ [hexd n])) w := by
  rw [hexX n h]
  have := run_cat s [hexd n] (by simp; omega) w
  simpa [binOp] using this
theorem auB_at (a : List UInt8) (k : Nat) (hk : k < 16) (w : World) : (Instr.index 34 (.agg #[auB a 0, auB a 1, auB a 2, auB a 3, auB a 4, auB a 5, auB a 6, auB a 7, auB a 8, auB a 9, auB a 10, auB a 11, auB a 12, auB a 13, auB a 14, auB a 15]) (.int .i64 k)).run Tryd.prog w = .ok (auB a k) w := by
  rcases (by omega : k = 0 ∨ k = 1 ∨ k = 2 ∨ k = 3 ∨ k = 4 ∨ k = 5 ∨ k = 6 ∨ k = 7 ∨ k = 8 ∨ k = 9 ∨ k = 10 ∨ k = 11 ∨ k = 12 ∨ k = 13 ∨ k = 14 ∨ k = 15) with rfl | rfl | rfl | rfl | rfl | rfl | rfl | rfl | rfl | rfl | rfl | rfl | rfl | rfl | rfl | rfl
  all_goals kernel_rfl
theorem hex_at (n : Int) (h0 : 0 ≤ n) (h1 : n < 16) (w : World) : (Instr.index 9 (.string ⟨#[48, 49, 50, 51, 52, 53, 54, 55, 56, 57, 97, 98, 99, 100, 101, 102]⟩) (.int .u8 n)).run Tryd.prog w = .ok (.int .u8 (hexd n.toNat).toNat) w := by
  obtain ⟨k, rfl⟩ : ∃ k : Nat, n = k := ⟨n.toNat, by omega⟩
  rcases (by omega : k = 0 ∨ k = 1 ∨ k = 2 ∨ k = 3 ∨ k = 4 ∨ k = 5 ∨ k = 6 ∨ k = 7 ∨ k = 8 ∨ k = 9 ∨ k = 10 ∨ k = 11 ∨ k = 12 ∨ k = 13 ∨ k = 14 ∨ k = 15) with rfl | rfl | rfl | rfl | rfl | rfl | rfl | rfl | rfl | rfl | rfl | rfl | rfl | rfl | rfl | rfl
  all_goals kernel_rfl
theorem hexN_at (n : Nat) (h1 : n < 16) (w : World) : (Instr.index 9 (.string ⟨#[48, 49, 50, 51, 52, 53, 54, 55, 56, 57, 97, 98, 99, 100, 101, 102]⟩) (.int .u8 n)).run Tryd.prog w = .ok (.int .u8 (hexd n).toNat) w := hex_at n (by omega) (by omega) w
theorem hexT_length (a : List UInt8) : (hexT a).length = 2 * a.length := by
  unfold hexT
  induction a with
  | nil => rfl
  | cons x r ih => rw [List.flatMap_cons, List.length_append, ih]; simp; omega
theorem hexT_snoc (a : List UInt8) {k : Nat} (hk : k < a.length) : hexT (a.take (k + 1)) = hexT (a.take k) ++ [hexd ((a.getD k 0).toNat / 16), hexd ((a.getD k 0).toNat % 16)] := by
  rw [List.take_succ_eq_append_getElem hk]
  unfold hexT
  rw [List.flatMap_append, List.getD_eq_getElem?_getD, List.getElem?_eq_getElem hk]
  simp
theorem u8_info : (Tryd.prog.info? 5).map (fun i => (i.zero, i.size, i.bytes)) = some (some (.int .u8 0), 1, 1) := by kernel_rfl
set_option maxRecDepth 100000 in
set_option maxHeartbeats 8000000 in
theorem authorText_any (a : List UInt8) (w : World) (ha : a.length = 16) : Calls Tryd.prog 29 #[auA a] w fun e w' => e = .returned (enS (hexT a)) ∧ Below w.heap.size w w' := by
  obtain ⟨i0, hi, hz0, hz1, hz2⟩ := info_parts u8_info
  unfold auA
  go_enter Tryd.func29, Tryd.ntmps29
  go_wp2_with (at_make; refine wpList_make_own _ rfl _ _ 81 rfl w.heap.size 5 i0 (.int .u8 0) 1 Tryd.underlying81 hi hz0 hz1 .i64 .i64 32 32 rfl rfl rfl ?m1 ?m2 ?m3 ?_)
  case m1 => rw [hz2]; decide
  case m2 => decide
  case m3 => simp
  intro w0 ho0 hg0
  have B0 : Below w.heap.size w w0 := (below_new w (.cells #[auB a 0, auB a 1, auB a 2, auB a 3, auB a 4, auB a 5, auB a 6, auB a 7, auB a 8, auB a 9, auB a 10, auB a 11, auB a 12, auB a 13, auB a 14, auB a 15] 34)).grown hg0 (by simp) (fun k hk => by cases hk)
  obtain ⟨A0, c0, e0⟩ : ∃ A0 c0, (Value.slice (some ⟨(w.alloc (.cells #[auB a 0, auB a 1, auB a 2, auB a 3, auB a 4, auB a 5, auB a 6, auB a 7, auB a 8, auB a 9, auB a 10, auB a 11, auB a 12, auB a 13, auB a 14, auB a 15] 34)).heap.size, 0, none⟩) 0 32) = .slice A0 0 c0 := ⟨_, _, rfl⟩
  have HO0 := Lib.hid ho0
  have HB0 := Lib.hid B0
  have HK0 := Lib.hid (blk_below ((Below.refl (w.alloc (.cells #[auB a 0, auB a 1, auB a 2, auB a 3, auB a 4, auB a 5, auB a 6, auB a 7, auB a 8, auB a 9, auB a 10, auB a 11, auB a 12, auB a 13, auB a 14, auB a 15] 34)).heap.size _).grown hg0 (Nat.le_refl _) (fun k hk => by cases hk)) (blk_new w (.cells #[auB a 0, auB a 1, auB a 2, auB a 3, auB a 4, auB a 5, auB a 6, auB a 7, auB a 8, auB a 9, auB a 10, auB a 11, auB a 12, auB a 13, auB a 14, auB a 15] 34)))
  clear ho0 hg0 B0
  have cc0 := blk_cell HK0.out 0
  have cc1 := blk_cell HK0.out 1
  have cc2 := blk_cell HK0.out 2
  have cc3 := blk_cell HK0.out 3
  have cc4 := blk_cell HK0.out 4
  have cc5 := blk_cell HK0.out 5
  have cc6 := blk_cell HK0.out 6
  have cc7 := blk_cell HK0.out 7
  have cc8 := blk_cell HK0.out 8
  have cc9 := blk_cell HK0.out 9
  have cc10 := blk_cell HK0.out 10
  have cc11 := blk_cell HK0.out 11
  have cc12 := blk_cell HK0.out 12
  have cc13 := blk_cell HK0.out 13
  have cc14 := blk_cell HK0.out 14
  have cc15 := blk_cell HK0.out 15
  go_wp2_with fail
  clear cc0 cc1 cc2 cc3 cc4 cc5 cc6 cc7 cc8 cc9 cc10 cc11 cc12 cc13 cc14 cc15
  go_loopg [3, 5, 8] 16 (fun gg ov cv iv wr => ∃ (k : Nat) (A : Option Addr) (c : Nat), k ≤ 16 ∧ 16 - k ≤ gg ∧ iv = .int .i64 k ∧ ov = .slice A (hexT (a.take k)).length c ∧ Hid (wr.ownsRow w.heap.size 5 1 (.slice A (hexT (a.take k)).length c) (hexT (a.take k)).length ((hexT (a.take k)).map enB)) ∧ Hid (Below w.heap.size w wr))
  case atStart => exact ⟨0, _, _, by omega, by omega, rfl, rfl, HO0, HB0⟩
  case round =>
    obtain ⟨k, A, c, hk, hgk, rfl, rfl, O1, B1⟩ := hrel
    by_cases hlt : k < 16
    · have hidx := auB_at a k hlt
      have hsn := hexT_snoc a (k := k) (by omega)
      obtain ⟨x, hx⟩ : ∃ x, a.getD k 0 = x := ⟨_, rfl⟩
      rw [hx] at hsn
      have ex : auB a k = .int .u8 x.toNat := by unfold auB enB; rw [hx]
      rw [ex] at hidx
      have HSN := Lib.hid hsn
      have hxl := x.toNat_lt
      clear hx ex hsn
      go_wp2_with fail
      refine Flow.wp_region_segs (fun u v => Below w.heap.size u v) (fun _ => Below.refl _ _) (fun u v x h k => Below.trans h k) [([0, 1, 2, 3, 4, 5, 6], 7), ([], 8)] [9] (by kernel_rfl) (by kernel_rfl) ?_
      have HBD := Lib.hid B1.out.drew
      have HOD := Lib.hid (own_below O1.out (Below.refl _ _).drew)
      clear O1 B1 hidx
      generalize hwd : World.drew wr = wd at *
      clear hwd
      haveI nonE : Nonempty (Flow.Cls (fun v => Below w.heap.size wd v)) := ⟨⟨wd, Below.refl _ _⟩⟩
      rw [Flow.wpSegs_cons]
      simp only [Flow.pick, List.getElem?_toArray, List.getElem?_cons_succ, List.getElem?_cons_zero]
      iterate 3 go_big_quiet_step (fail)
      refine BigFrame.wpQuiet_want rfl (fun K hK => quiet_index 9 _ _ rfl (.int .u8 (hexd (x.toNat / 16)).toNat) (hexN_at (x.toNat / 16) (by omega)) (hK _ ?_))
      clear hK K
      simp only [Act.put, List.setIfInBounds_toArray, List.set_cons_succ, List.set_cons_zero]
      iterate 2 go_big_quiet_step (fail)
      refine BigFrame.wpQuiet_want rfl (fun K hK => quiet_index 9 _ _ rfl (.int .u8 (hexd (x.toNat % 16)).toNat) (hexN_at (x.toNat % 16) (by omega)) (hK _ ?_))
      clear hK K
      simp only [Act.put, List.setIfInBounds_toArray, List.set_cons_succ, List.set_cons_zero]
      refine wpQuiet_nil ?_
      clear nonE
      rw [Flow.callAt_eq]
      simp only [List.getElem?_toArray, List.getElem?_cons_succ, List.getElem?_cons_zero]
      rw [if_pos (by rfl)]
      refine Flow.wp_behind (fun K hK => ?_)
      go_wp2_with fail
      refine hK.out _ _ ⟨(Below.refl _ _).alloc HBD.out.size _, ?_⟩
      clear hK K
      rw [Flow.wpSegs_cons]
      simp only [Flow.pick]
      refine wpQuiet_nil ?_
      rw [Flow.callAt_eq]
      simp only [List.getElem?_toArray, List.getElem?_cons_succ, List.getElem?_cons_zero]
      rw [if_pos (by rfl)]
      refine Flow.wp_behind (fun K hK => ?_)
      refine wp_append_own _ _ _ 81 rfl w.heap.size 5 i0 (.int .u8 0) 1 1 Tryd.underlying81 hi hz0 hz1 hz2 rfl (by decide) (.slice A (hexT (a.take k)).length c) (hexT (a.take k)).length ((hexT (a.take k)).map enB) rfl (own_below HOD.out (below_new _ _)) ⟨wd.heap.size, 0, none⟩ 2 2 [enB (hexd (x.toNat / 16)), enB (hexd (x.toNat % 16))] rfl rfl ?c1 ?c2 ?c3 ?c4 ?c5 ?_
      case c1 =>
        intro j u hj
        rw [addr_addN, new_cell _ _ _ _ _ rfl]
        simpa [enB] using hj
      case c2 => intro u hu; simp at hu; rcases hu with rfl | rfl <;> rfl
      case c3 => unfold maxLen; have := hexT_length (a.take k); have := List.length_take_le k a; omega
      case c4 => have := hexT_length (a.take k); have := List.length_take_le k a; omega
      case c5 => have := HBD.out.size; simp; omega
      intro v' w2 hown2 hg2 _
      obtain ⟨A3, c3, rfl⟩ := own2_slice hown2
      have b2 := own_grown_below (own_below HOD.out (below_new wd (.cells #[.int .u8 (hexd (x.toNat / 16)).toNat, .int .u8 (hexd (x.toNat % 16)).toNat] 5))) (by have := HBD.out.size; simp; omega) hg2
      refine hK.out _ _ ⟨b2, ?_⟩
      clear hK K
      have HO2 := Lib.hid hown2
      have HB2 := Lib.hid ((HBD.out.alloc HBD.out.size (.cells #[.int .u8 (hexd (x.toNat / 16)).toNat, .int .u8 (hexd (x.toNat % 16)).toNat] 5)).trans b2)
      clear hown2 hg2 b2
      haveI nonE : Nonempty (Flow.Cls (fun v => Below w.heap.size w2 v)) := ⟨⟨w2, Below.refl _ _⟩⟩
      simp only [Act.put, List.setIfInBounds_toArray, List.set_cons_succ, List.set_cons_zero]
      rw [Flow.wpSegs_nil]
      simp only [Flow.pick, List.getElem?_toArray, List.getElem?_cons_succ, List.getElem?_cons_zero]
      repeat go_big_quiet_step (fail)
      refine wpQuiet_nil ?_
      clear nonE
      go_wp2_with fail
      go_roundg (16 - (k + 1))
      case measure => omega
      case rel =>
        refine ⟨k + 1, A3, c3, by omega, by omega, by go_num, ?_, ?_, HB2⟩
        · rw [HSN.out, List.length_append]; rfl
        · rw [HSN.out, List.length_append, List.map_append]; exact HO2
    · obtain rfl : k = 16 := by omega
      have et : a.take 16 = a := by rw [← ha, List.take_length]
      rw [et] at O1
      obtain ⟨g, rfl⟩ : ∃ g, A = some ⟨g, 0, none⟩ := by
        rcases O1.out.2 with ⟨e1, e2⟩ | ⟨g, cap, cur, e1, h2⟩
        · have := hexT_length a; omega
        · injection e1 with e1; exact ⟨g, e1⟩
      have hconv := run_convert_bytes_back (P := Tryd.prog) wr 81 9 5 ⟨g, 0, none⟩ c (hexT a) Tryd.underlying81 Tryd.underlying5 Tryd.underlying9 (fun j hj => O1.out.cells (g := g) rfl j _ (by rw [List.getElem?_map, List.getElem?_eq_getElem hj]; rfl))
      rw [et]
      go_wp2_with fail
      go_ret
      exact ⟨rfl, B1.out⟩
set_option maxRecDepth 100000 in
set_option maxHeartbeats 8000000 in
theorem refAuthor_any (a : List UInt8) (w : World) (ha : a.length = 16) : Calls Tryd.prog 18 #[auA a] w fun e w' => e = .returned (enS (hexT a)) ∧ Below w.heap.size w w' := by
  unfold auA
  go_enter Tryd.func18, Tryd.ntmps18
  go_wp2_with fail
  have HK := Lib.hid (blk_new w (.cells #[auB a 0, auB a 1, auB a 2, auB a 3, auB a 4, auB a 5, auB a 6, auB a 7, auB a 8, auB a 9, auB a 10, auB a 11, auB a 12, auB a 13, auB a 14, auB a 15] 33))
  have HB := Lib.hid (below_new w (.cells #[auB a 0, auB a 1, auB a 2, auB a 3, auB a 4, auB a 5, auB a 6, auB a 7, auB a 8, auB a 9, auB a 10, auB a 11, auB a 12, auB a 13, auB a 14, auB a 15] 33))
  generalize w.alloc (.cells #[auB a 0, auB a 1, auB a 2, auB a 3, auB a 4, auB a 5, auB a 6, auB a 7, auB a 8, auB a 9, auB a 10, auB a 11, auB a 12, auB a 13, auB a 14, auB a 15] 33) = w0 at *
  go_loopg [4, 5] 16 (fun gg sv iv wr => ∃ k : Nat, k ≤ 16 ∧ 16 - k ≤ gg ∧ iv = .int .i64 k ∧ sv = enS (hexT (a.take k)) ∧ Hid (Below w0.heap.size w0 wr))
  case atStart => exact ⟨0, by omega, by omega, rfl, rfl, Lib.hid (Below.refl _ _)⟩
  case round =>
    obtain ⟨k, hk, hgk, rfl, rfl, B1⟩ := hrel
    by_cases hlt : k < 16
    · have hcell := blk_cell (blk_below B1.out HK.out) k
      have hsn := hexT_snoc a (k := k) (by omega)
      obtain ⟨x, hx⟩ : ∃ x, a.getD k 0 = x := ⟨_, rfl⟩
      rw [hx] at hsn
      have ex : (#[auB a 0, auB a 1, auB a 2, auB a 3, auB a 4, auB a 5, auB a 6, auB a 7, auB a 8, auB a 9, auB a 10, auB a 11, auB a 12, auB a 13, auB a 14, auB a 15] : Array Value)[k]? = some (.int .u8 x.toNat) := by
        have e1 : (#[auB a 0, auB a 1, auB a 2, auB a 3, auB a 4, auB a 5, auB a 6, auB a 7, auB a 8, auB a 9, auB a 10, auB a 11, auB a 12, auB a 13, auB a 14, auB a 15] : Array Value)[k]? = some (auB a k) := by
          rcases (by omega : k = 0 ∨ k = 1 ∨ k = 2 ∨ k = 3 ∨ k = 4 ∨ k = 5 ∨ k = 6 ∨ k = 7 ∨ k = 8 ∨ k = 9 ∨ k = 10 ∨ k = 11 ∨ k = 12 ∨ k = 13 ∨ k = 14 ∨ k = 15) with rfl | rfl | rfl | rfl | rfl | rfl | rfl | rfl | rfl | rfl | rfl | rfl | rfl | rfl | rfl | rfl
          all_goals rfl
        rw [e1]; unfold auB enB; rw [hx]
      rw [ex] at hcell
      have HC := Lib.hid hcell
      have HSN := Lib.hid hsn
      have hxl := x.toNat_lt
      clear hx ex hsn hcell
      go_wp2_with fail
      refine Flow.wp_region_segs Flow.Later Flow.Later.refl Flow.Later.trans [] [0, 1, 2, 3, 4, 5, 6, 7, 8, 9, 10, 11, 12, 13, 14, 15, 16, 17, 18, 19, 20, 21, 22, 23, 24, 25] (by kernel_rfl) (by kernel_rfl) ?_
      have HCD : Hid ((World.drew wr).cell? ⟨w.heap.size, k, none⟩ = some (.int .u8 x.toNat)) := HC
      have HBD := Lib.hid B1.out.drew
      clear HC B1
      generalize hwd : World.drew wr = wd at *
      clear hwd
      have q0 : ∀ t : Flow.Cls (Flow.Later wd), t.val.cell? ⟨w.heap.size, k, none⟩ = some (.int .u8 x.toNat) := fun t => Flow.cls_cell HCD.out t
      haveI nonE := Flow.cls_nonempty wd
      rw [Flow.wpSegs_nil]
      simp only [Flow.pick, List.getElem?_toArray, List.getElem?_cons_succ, List.getElem?_cons_zero]
      have hl2 := hexT_length (a.take k)
      have hl3 := List.length_take_le k a
      iterate 12 go_big_quiet_step (fail)
      refine BigFrame.wpQuiet_want rfl (fun K hK => quiet_cat _ _ _ _ rfl _ (cat_hex (hexT (a.take k)) (x.toNat / 16) (by omega) (by omega)) (hK _ ?_))
      clear hK K
      simp only [Act.put, List.setIfInBounds_toArray, List.set_cons_succ, List.set_cons_zero]
      iterate 11 go_big_quiet_step (fail)
      refine BigFrame.wpQuiet_want rfl (fun K hK => quiet_cat _ _ _ _ rfl _ (cat_hex (hexT (a.take k) ++ [hexd (x.toNat / 16)]) (x.toNat % 16) (by omega) (by simp; omega)) (hK _ ?_))
      clear hK K
      simp only [Act.put, List.setIfInBounds_toArray, List.set_cons_succ, List.set_cons_zero]
      repeat go_big_quiet_step (fail)
      refine wpQuiet_nil ?_
      clear nonE q0 hl2 hl3
      go_wp2_with fail
      go_roundg (16 - (k + 1))
      case measure => omega
      case rel => exact ⟨k + 1, by omega, by omega, by go_num, by rw [HSN.out, List.append_assoc]; rfl, HBD⟩
    · obtain rfl : k = 16 := by omega
      have et : a.take 16 = a := by rw [← ha, List.take_length]
      rw [et]
      go_wp2_with fail
      go_ret
      exact ⟨rfl, HB.out.tr B1.out⟩
end Go.Proofs.YthgefcoaaommkaaDoor
