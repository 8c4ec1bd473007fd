/- The numbers of articles in memory; contract: the statements' own numbers. -/
import Derived.Test.YtcpennlojjlpaaaGreatDoorZg
import Derived.Test.YtcpennlojjlpaaaGreatDoorZb
import Derived.Deep.MidRow
import Derived.Great.BuildSlice
namespace Go.Nr
open Go
def enB (x : UInt8) : Value := .int .u8 x.toNat
/-- The cells of an article's identity and number. -/
def cellsN (x : N) : List Value := x.1.map enB ++ [.int .i64 x.2]
def flatN (l : List N) : List Value := l.flatMap cellsN
def OkN (l : List N) : Prop := ∀ x ∈ l, x.1.length = 32
theorem cellsN_length {x : N} (h : x.1.length = 32) : (cellsN x).length = 33 := by simp [cellsN, h]
theorem flatN_append (a b : List N) : flatN (a ++ b) = flatN a ++ flatN b := by simp [flatN]
theorem flatN_take_succ {l : List N} {k : Nat} {x : N} (h : l[k]? = some x) : flatN (l.take (k + 1)) = flatN (l.take k) ++ cellsN x := by
  obtain ⟨hl, hx⟩ := List.getElem?_eq_some_iff.1 h
  rw [List.take_succ_eq_append_getElem hl, hx, flatN_append]; simp [flatN]
theorem flatN_length : ∀ {l : List N}, OkN l → (flatN l).length = l.length * 33
  | [], _ => rfl
  | x :: r, h => by
    have ih := flatN_length (l := r) fun y hy => h y (by simp [hy])
    have hx := cellsN_length (h x (by simp))
    simp only [flatN, List.flatMap_cons, List.length_append, List.length_cons] at ih ⊢
    omega
theorem flatN_get : ∀ {l : List N} (_ : OkN l) {k : Nat} {x : N} (_ : l[k]? = some x) {j : Nat} {v : Value} (_ : (cellsN x)[j]? = some v), (flatN l)[k * 33 + j]? = some v
  | [], _, _, _, h, _, _, _ => by simp at h
  | y :: r, h, k, x, hx, j, v, hv => by
    have hy := cellsN_length (h y (by simp))
    cases k with
    | zero =>
      obtain rfl : y = x := by simpa using hx
      have hj : j < 33 := by rw [← hy]; exact (List.getElem?_eq_some_iff.1 hv).1
      show (cellsN y ++ flatN r)[0 * 33 + j]? = some v
      rw [List.getElem?_append_left (by omega)]
      simpa using hv
    | succ k =>
      show (cellsN y ++ flatN r)[(k + 1) * 33 + j]? = some v
      rw [List.getElem?_append_right (by omega), hy, show (k + 1) * 33 + j - 33 = k * 33 + j by omega]
      exact flatN_get (fun z hz => h z (by simp [hz])) (by simpa using hx) hv
theorem one_enB (x : N) : ∀ u ∈ cellsN x, u.oneCell' = true := fun u hu => by
  simp only [cellsN, List.mem_append, List.mem_map, List.mem_singleton] at hu
  rcases hu with ⟨y, _, rfl⟩ | rfl <;> rfl
end Go.Nr
namespace Go.Proofs.YtcpennlojjlpaaaGreatDoor
open Go.RowKit Go.Nr Go.Gn

/-- The slice with the address A and as many elements as l has reads as l. -/
def RdN (w : World) (A : Option Addr) (l : List N) : Prop :=
  0 < l.length → ∃ b o, A = some ⟨b, o, none⟩ ∧ b < w.heap.size ∧ ∀ j x, l[j]? = some x → w.rangeAt b (o + j * 33) (cellsN x)
theorem range_below {w w' : World} {b o : Nat} {cs : List Value} (h : w.rangeAt b o cs) (hb : Below w.heap.size w w') : w'.rangeAt b o cs := fun j v hv => Below.cellv hb (h j v hv)
theorem RdN.below {w w' : World} {A : Option Addr} {l : List N} (h : RdN w A l) (hb : Below w.heap.size w w') : RdN w' A l := fun hl => by
  obtain ⟨b, o, e, hlt, hc⟩ := h hl
  exact ⟨b, o, e, Nat.lt_of_lt_of_le hlt hb.size, fun j x hj => range_below (hc j x hj) hb⟩
theorem RdN.at_ {w : World} {A : Option Addr} {l : List N} {k : Nat} (h : RdN w A l) (hk : k < l.length) : ∃ b o x, A = some ⟨b, o, none⟩ ∧ b < w.heap.size ∧ l[k]? = some x ∧ w.rangeAt b (o + k * 33) (cellsN x) := by
  obtain ⟨b, o, e, hlt, hc⟩ := h (by omega)
  have hx : l[k]? = some l[k] := List.getElem?_eq_getElem hk
  exact ⟨b, o, l[k], e, hlt, hx, hc k _ hx⟩
theorem range_id {w : World} {b o : Nat} {x : N} (h : w.rangeAt b o (cellsN x)) : w.rangeAt b o (x.1.map enB) := fun j v hv => h j v (by
  have hj := (List.getElem?_eq_some_iff.1 hv).1
  rw [cellsN, List.getElem?_append_left hj]; exact hv)
theorem range_no {w : World} {b o : Nat} {x : N} (h : w.rangeAt b o (cellsN x)) (hx : x.1.length = 32) : w.cell? ⟨b, o + 32, none⟩ = some (i64 x.2) := h 32 _ (by
  rw [cellsN, List.getElem?_append_right (by simp [hx])]; simp [hx])
section
variable {P : Program} {ops : Array Oper} {C : World → Prop} {Q : Act → Prop} {a : Act} {o : Oper} {rest : List Oper}
/-- A load of many cells in a quiet walk. -/
theorem quiet_load_mid {K : Act → Prop} (ty : TypeId) (x : Operand) (ho : o.op = .load ty x) (b i : Nat) (hx : a.eval x = .pointer (some ⟨b, i, none⟩)) (cs : List Value) (d : TypeDesc) (hc : ∀ w, C w → w.rangeAt b i cs)
    (hu : P.underlying ty = some d) (hd : d.isRow = true) (hi : (P.info? ty).map (·.size) = some cs.length) (hk : K (a.put o.dst (.agg cs.toArray))) : o.quiet P a C K :=
  ⟨_, fun w hw => by
    unfold Oper.quietAt execOp
    simp only [ho, hx, Instr.loadAt, Instr.sureAddr, Sem.run_bind, Sem.run_pure, Result.andThen_ok, run_loadVar_mid w b i ty cs d (hc w hw) hu hd hi]
    exact ⟨rfl, rfl⟩, hk⟩
theorem quiet_build {K : Act → Prop} (t : TypeId) (parts : Array (Nat × Operand)) (ho : o.op = .build t parts) (cells : Array Value) (hb : P.built t (parts.map fun (i, x) => (i, a.eval x)).toList = some cells) (hk : K (a.put o.dst (.agg cells))) : o.quiet P a C K :=
  ⟨_, fun w _ => by
    unfold Oper.quietAt execOp
    simp only [ho, Sem.run_bind, run_build w t _ cells hb, Result.andThen_ok]
    exact ⟨rfl, rfl⟩, hk⟩
end
theorem built1 (a0 a1 a2 a3 a4 a5 a6 a7 a8 a9 a10 a11 a12 a13 a14 a15 a16 a17 a18 a19 a20 a21 a22 a23 a24 a25 a26 a27 a28 a29 a30 a31 : Value) (n : Int) :
    Tryz.prog.built 69 [(0, .agg #[a0,a1,a2,a3,a4,a5,a6,a7,a8,a9,a10,a11,a12,a13,a14,a15,a16,a17,a18,a19,a20,a21,a22,a23,a24,a25,a26,a27,a28,a29,a30,a31]), (1, i64 n)] = some #[a0,a1,a2,a3,a4,a5,a6,a7,a8,a9,a10,a11,a12,a13,a14,a15,a16,a17,a18,a19,a20,a21,a22,a23,a24,a25,a26,a27,a28,a29,a30,a31,i64 n] := by kernel_rfl
theorem built_num (ids : List Value) (h : ids.length = 32) (n : Int) : Tryz.prog.built 69 [(0, .agg ids.toArray), (1, i64 n)] = some (ids ++ [i64 n]).toArray :=
  match ids, h with
  | [a0,a1,a2,a3,a4,a5,a6,a7,a8,a9,a10,a11,a12,a13,a14,a15,a16,a17,a18,a19,a20,a21,a22,a23,a24,a25,a26,a27,a28,a29,a30,a31], _ => built1 a0 a1 a2 a3 a4 a5 a6 a7 a8 a9 a10 a11 a12 a13 a14 a15 a16 a17 a18 a19 a20 a21 a22 a23 a24 a25 a26 a27 a28 a29 a30 a31 n
theorem fill_one {n s : Nat} {zs : Array Value} {cs : List Value} (hn : 0 < n) (hs : s = n) (hc : cs.length = n) (hz : zs.size = 1 * s) : Instr.fill (fun i => some (i * s, s)) zs [(0, .agg cs.toArray)] = some cs.toArray := by
  subst hs
  have := Great.fill_whole hn [.agg cs.toArray] zs (by intro v hv; simp at hv; subst hv; simpa [Value.cells] using hc) (by simp; omega)
  simpa [Value.cells] using this
theorem row_len {E : TypeId} {w : World} {N size n : Nat} {v : Value} {xs : List Value} (h : w.ownsRow N E size v n xs) : xs.length = n * size := h.1
theorem num_info : (Tryz.prog.info? 69).map (fun i => (i.zero, i.size, i.bytes)) = some (some (.agg ((List.replicate 32 (Value.int .u8 0)) ++ [i64 0]).toArray), 33, 40) := by kernel_rfl
set_option maxRecDepth 100000 in
set_option maxHeartbeats 4000000 in
theorem numbers_any (A : Option Addr) (c : Nat) (l : List N) (w : World) (hr : RdN w A l) (hok : OkN l) (hn : l.length ≤ 1000000) :
    Calls Tryz.prog 33 #[.slice A l.length c] w fun e w' => ∃ O o, e = .returned (.slice O l.length o) ∧ w'.ownsRow w.heap.size 69 33 (.slice O l.length o) l.length (flatN l) ∧ Below w.heap.size w w' := by
  obtain ⟨i0, hi, hz0, hz1, hz2⟩ := info_parts num_info
  have HR := Lib.hid hr; clear hr
  have HOK := Lib.hid hok; clear hok
  go_enter Tryz.func33, Tryz.ntmps33
  go_wp2_with fail
  go_loopg [3, 4] l.length (fun gg ov iv wr => ∃ (k : Nat) (B : Option Addr) (d : Nat), k ≤ l.length ∧ l.length - k ≤ gg ∧ iv = .int .i64 k ∧ ov = .slice B k d ∧ Hid (wr.ownsRow w.heap.size 69 33 (.slice B k d) k (flatN (l.take k))) ∧ Below w.heap.size w wr)
  case atStart => exact ⟨0, none, 0, by omega, by omega, rfl, rfl, own2_nil _ _ _ _, Below.refl _ _⟩
  case round =>
    obtain ⟨k, B, d, hk, hgk, rfl, rfl, O, hB⟩ := hrel
    by_cases hlt : k < l.length
    · obtain ⟨b, o, x, rfl, hbl, hxk, hcs⟩ := HR.out.at_ hlt
      have hft := flatN_take_succ hxk
      have h32 := HOK.out x (List.mem_of_getElem? hxk)
      have HFT := Lib.hid hft
      have hsz := hB.size
      clear hxk hft
      go_wp2_with fail
      refine Flow.wp_region_segs (fun u v => Below w.heap.size u v) (fun _ => Below.refl _ _) (fun u v x h k => Below.trans h k) [([0, 1, 2, 3, 4, 5, 6, 7, 8, 9, 10, 11], 12), ([], 13)] [14] (by kernel_rfl) (by kernel_rfl) ?_
      have HBD := Lib.hid hB.drew
      have HOD := Lib.hid (own_below O.out (Below.refl _ _).drew)
      clear O hB
      generalize hwd : World.drew wr = wd at *
      clear hwd
      have q1 : ∀ t : World, (∃ s : Flow.Cls (fun v => Below w.heap.size wd v), t = s.val) → t.rangeAt b (o + k * 33) (x.1.map enB) := by
        rintro t ⟨s, rfl⟩
        exact fun j v hv => Below.cellv (HBD.out.trans s.ok) (range_id hcs j v hv)
      have q2 : ∀ t : Flow.Cls (fun v => Below w.heap.size wd v), t.val.cell? ⟨b, o + k * 33 + 32, none⟩ = some (i64 x.2) := fun t => Below.cellv (HBD.out.trans t.ok) (range_no hcs h32)
      have Q1 := Lib.hid q1
      clear q1
      haveI nonE : Nonempty (Flow.Cls (fun v => Below w.heap.size wd v)) := ⟨⟨wd, Below.refl _ _⟩⟩
      rw [Flow.wpSegs_cons]
      simp only [Flow.pick, List.getElem?_toArray, List.getElem?_cons_succ, List.getElem?_cons_zero]
      iterate 5 go_big_quiet_step (fail)
      refine BigFrame.wpQuiet_want rfl (fun K hK => quiet_load_mid 66 _ rfl b (o + k * 33) rfl (x.1.map enB) _ Q1.out Tryz.underlying66 rfl (by rw [List.length_map, h32]; kernel_rfl) (hK _ ?_))
      clear hK K
      simp only [Act.put, List.setIfInBounds_toArray, List.set_cons_succ, List.set_cons_zero]
      repeat go_big_quiet_step (fail)
      refine BigFrame.wpQuiet_want rfl (fun K hK => quiet_build 69 _ rfl (cellsN x).toArray (by rw [Array.toList_map]; exact built_num (x.1.map enB) (by simp [h32]) x.2) (hK _ ?_))
      clear hK K
      simp only [Act.put, List.setIfInBounds_toArray, List.set_cons_succ, List.set_cons_zero]
      refine wpQuiet_nil ?_
      clear nonE q2 Q1
      rw [Flow.callAt_eq]
      simp only [List.getElem?_toArray, List.getElem?_cons_succ, List.getElem?_cons_zero]
      rw [if_pos (by rfl)]
      refine Flow.wp_behind (fun K hK => ?_)
      refine wp_buildSlice 48 69 1 _ rfl (cellsN x).toArray i0 _ Tryz.underlying48 hi hz0 (by rw [hz1]; decide) (by rw [hz1]; decide) ?fill ?_
      case fill =>
        rw [Array.toList_map]
        refine fill_one (n := 33) (by omega) hz1 (cellsN_length h32) ?_
        simp
      refine hK.out _ _ ⟨(Below.refl _ _).alloc HBD.out.size _, ?_⟩
      clear hK K
      rw [Flow.wpSegs_cons]
      simp only [Flow.pick]
      refine wpQuiet_nil ?_
      rw [Flow.callAt_eq]
      simp only [List.getElem?_toArray, List.getElem?_cons_succ, List.getElem?_cons_zero]
      rw [if_pos (by rfl)]
      refine Flow.wp_behind (fun K hK => ?_)
      refine wp_append_own _ _ _ 48 rfl w.heap.size 69 i0 (.agg ((List.replicate 32 (Value.int .u8 0)) ++ [i64 0]).toArray) 33 40 Tryz.underlying48 hi hz0 hz1 hz2 rfl (by decide) (.slice B k d) k (flatN (l.take k)) rfl (own_below HOD.out (below_new _ _)) ⟨wd.heap.size, 0, none⟩ 1 1 (cellsN x) rfl (cellsN_length h32) ?c1 ?c2 ?c3 ?c4 ?c5 ?_
      case c1 =>
        intro j u hj
        rw [addr_addN, new_cell _ _ _ _ _ rfl]
        simpa using hj
      case c2 => exact one_enB x
      case c3 => unfold maxLen; omega
      case c4 => omega
      case c5 => have := HBD.out.size; simp; omega
      intro v' w2 hown2 hg2 _
      obtain ⟨A3, c3, rfl⟩ := own2_slice hown2
      have b2 := own_grown_below (own_below HOD.out (below_new _ (.cells (cellsN x).toArray 69))) (by have := HBD.out.size; simp; omega) hg2
      refine hK.out _ _ ⟨b2, ?_⟩
      clear hK K
      have HO2 := Lib.hid hown2
      have HB2 := Lib.hid ((HBD.out.alloc HBD.out.size (.cells (cellsN x).toArray 69)).trans b2)
      clear hown2 hg2 b2
      haveI nonE : Nonempty (Flow.Cls (fun v => Below w.heap.size w2 v)) := ⟨⟨w2, Below.refl _ _⟩⟩
      simp only [Act.put, List.setIfInBounds_toArray, List.set_cons_succ, List.set_cons_zero]
      rw [Flow.wpSegs_nil]
      simp only [Flow.pick, List.getElem?_toArray, List.getElem?_cons_succ, List.getElem?_cons_zero]
      repeat go_big_quiet_step (fail)
      refine wpQuiet_nil ?_
      clear nonE
      go_wp2_with fail
      go_roundg (l.length - (k + 1))
      case measure => omega
      case rel =>
        refine ⟨k + 1, A3, c3, by omega, by omega, by go_num, rfl, ?_, HB2.out⟩
        rw [HFT.out]
        exact HO2
    · obtain rfl : k = l.length := by omega
      rw [List.take_length] at O
      go_wp2_with fail
      go_ret
      exact ⟨B, d, rfl, O.out, hB⟩
end Go.Proofs.YtcpennlojjlpaaaGreatDoor
