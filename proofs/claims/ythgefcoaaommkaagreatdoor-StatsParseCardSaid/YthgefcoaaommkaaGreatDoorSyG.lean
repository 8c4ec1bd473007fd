/- Contract: the reference's ParseAuthor: its error. -/
import Derived.Test.YthgefcoaaommkaaGreatDoorSyC
namespace Go.Proofs.YthgefcoaaommkaaGreatDoor
open Go.RowKit Go.Gn Go.Sr Go.Maps Go.Nr

def hexV (c : UInt8) : Int := if 48 ≤ c.toNat ∧ c.toNat ≤ 57 then (c.toNat : Int) - 48 else if 97 ≤ c.toNat ∧ c.toNat ≤ 102 then (c.toNat : Int) - 97 + 10 else -1
theorem hexV_yes {c : UInt8} (h : isHex c = true) : 0 ≤ hexV c ∧ hexV c ≤ 15 := by
  unfold isHex at h
  unfold hexV
  simp only [Bool.or_eq_true, Bool.and_eq_true, decide_eq_true_eq] at h
  split
  · omega
  split <;> omega
theorem hexV_no {c : UInt8} (h : isHex c = false) : hexV c = -1 := by
  have h' : ¬ (isHex c = true) := by rw [h]; exact Bool.false_ne_true
  unfold isHex at h'
  simp only [Bool.or_eq_true, Bool.and_eq_true, decide_eq_true_eq] at h'
  unfold hexV
  rw [if_neg (fun e => h' (.inl e)), if_neg (fun e => h' (.inr e))]
set_option maxRecDepth 100000 in
set_option maxHeartbeats 2000000 in
theorem refDigit_any (c : UInt8) (w : World) : Calls Tryz.prog 134 #[.int .u8 c.toNat] w fun e w' => e = .returned (i64 (hexV c)) ∧ w = w' := by
  have hc : c.toNat < 256 := c.toNat_lt
  obtain ⟨n, hn⟩ : ∃ n, c.toNat = n := ⟨_, rfl⟩
  have HV := Lib.hid (show hexV c = if 48 ≤ c.toNat ∧ c.toNat ≤ 57 then (c.toNat : Int) - 48 else if 97 ≤ c.toNat ∧ c.toNat ≤ 102 then (c.toNat : Int) - 97 + 10 else -1 from rfl)
  rw [hn] at HV hc ⊢
  by_cases h1 : 48 ≤ n
  · by_cases h2 : n ≤ 57
    · have V : Hid (hexV c = (n : Int) - 48) := Lib.hid (by rw [HV.out, if_pos ⟨h1, h2⟩])
      clear HV
      go_enter Tryz.func134, Tryz.ntmps134
      go_wp2_with fail
      go_ret
      exact ⟨by rw [V.out]; go_num, rfl⟩
    · by_cases h3 : 97 ≤ n
      · by_cases h4 : n ≤ 102
        · have V : Hid (hexV c = (n : Int) - 97 + 10) := Lib.hid (by rw [HV.out, if_neg (fun h => h2 h.2), if_pos ⟨h3, h4⟩])
          clear HV
          go_enter Tryz.func134, Tryz.ntmps134
          go_wp2_with fail
          go_ret
          exact ⟨by rw [V.out]; go_num, rfl⟩
        · have V : Hid (hexV c = -1) := Lib.hid (by rw [HV.out, if_neg (fun h => h2 h.2), if_neg (fun h => h4 h.2)])
          clear HV
          go_enter Tryz.func134, Tryz.ntmps134
          go_wp2_with fail
          go_ret
          exact ⟨by rw [V.out]; rfl, rfl⟩
      · have V : Hid (hexV c = -1) := Lib.hid (by rw [HV.out, if_neg (fun h => h2 h.2), if_neg (fun h => h3 h.1)])
        clear HV
        go_enter Tryz.func134, Tryz.ntmps134
        go_wp2_with fail
        go_ret
        exact ⟨by rw [V.out]; rfl, rfl⟩
  · have h3 : ¬ 97 ≤ n := by omega
    have V : Hid (hexV c = -1) := Lib.hid (by rw [HV.out, if_neg (fun h => h1 h.1), if_neg (fun h => h3 h.1)])
    clear HV
    go_enter Tryz.func134, Tryz.ntmps134
    go_wp2_with fail
    go_ret
    exact ⟨by rw [V.out]; rfl, rfl⟩
theorem idx_run (s : List UInt8) (k : Nat) (c : UInt8) (hk : s[k]? = some c) (w : World) : (Instr.index 9 (enS s) (i64 k)).run Tryz.prog w = .ok (.int .u8 c.toNat) w := by
  obtain ⟨hl, e⟩ := List.getElem?_eq_some_iff.1 hk
  have hlt : k < (⟨s.toArray⟩ : ByteArray).size := by show k < s.toArray.size; simpa using hl
  have h := bget hlt hl
  have hs : (⟨s.toArray⟩ : ByteArray)[k]? = some c := by
    rw [getElem?_pos (⟨s.toArray⟩ : ByteArray) k hlt, h, List.getD_eq_getElem?_getD, hk]; rfl
  simp [Instr.index, asIntOf, Result.andThen, hs]
set_option maxRecDepth 100000 in
set_option maxHeartbeats 8000000 in
theorem refParseAuthor_any (s : List UInt8) (w : World) (hl : s.length ≤ 1000000000) :
    Calls Tryz.prog 100 #[enS s] w fun e w' => (∃ (cs : List Value) (at_ : Int), (cs.length = 16 ∧ cs.toArray.all (·.oneCell') = true) ∧ e = .returned (.tuple #[.agg cs.toArray, i64 at_, i64 (authE s)])) ∧ Below w.heap.size w w' := by
  have KR0 := Lib.hid ((Blk16.made 48 w).below (below_new _ (.cells #[.int .u8 0, .int .u8 0, .int .u8 0, .int .u8 0, .int .u8 0, .int .u8 0, .int .u8 0, .int .u8 0, .int .u8 0, .int .u8 0, .int .u8 0, .int .u8 0, .int .u8 0, .int .u8 0, .int .u8 0, .int .u8 0] 48)))
  have KA0 : Hid (Blk16 48 ((w.alloc (.cells #[.int .u8 0, .int .u8 0, .int .u8 0, .int .u8 0, .int .u8 0, .int .u8 0, .int .u8 0, .int .u8 0, .int .u8 0, .int .u8 0, .int .u8 0, .int .u8 0, .int .u8 0, .int .u8 0, .int .u8 0, .int .u8 0] 48)).alloc (.cells #[.int .u8 0, .int .u8 0, .int .u8 0, .int .u8 0, .int .u8 0, .int .u8 0, .int .u8 0, .int .u8 0, .int .u8 0, .int .u8 0, .int .u8 0, .int .u8 0, .int .u8 0, .int .u8 0, .int .u8 0, .int .u8 0] 48)) (w.heap.size + 1)) := Lib.hid (by have := Blk16.made 48 (w.alloc (.cells #[.int .u8 0, .int .u8 0, .int .u8 0, .int .u8 0, .int .u8 0, .int .u8 0, .int .u8 0, .int .u8 0, .int .u8 0, .int .u8 0, .int .u8 0, .int .u8 0, .int .u8 0, .int .u8 0, .int .u8 0, .int .u8 0] 48)); simpa using this)
  have B0 := Lib.hid ((below_new w (.cells #[.int .u8 0, .int .u8 0, .int .u8 0, .int .u8 0, .int .u8 0, .int .u8 0, .int .u8 0, .int .u8 0, .int .u8 0, .int .u8 0, .int .u8 0, .int .u8 0, .int .u8 0, .int .u8 0, .int .u8 0, .int .u8 0] 48)).tr (below_new _ (.cells #[.int .u8 0, .int .u8 0, .int .u8 0, .int .u8 0, .int .u8 0, .int .u8 0, .int .u8 0, .int .u8 0, .int .u8 0, .int .u8 0, .int .u8 0, .int .u8 0, .int .u8 0, .int .u8 0, .int .u8 0, .int .u8 0] 48)))
  go_enter Tryz.func100, Tryz.ntmps100
  go_upto_block 0 with fail
  generalize (w.alloc (.cells #[.int .u8 0, .int .u8 0, .int .u8 0, .int .u8 0, .int .u8 0, .int .u8 0, .int .u8 0, .int .u8 0, .int .u8 0, .int .u8 0, .int .u8 0, .int .u8 0, .int .u8 0, .int .u8 0, .int .u8 0, .int .u8 0] 48)).alloc (.cells #[.int .u8 0, .int .u8 0, .int .u8 0, .int .u8 0, .int .u8 0, .int .u8 0, .int .u8 0, .int .u8 0, .int .u8 0, .int .u8 0, .int .u8 0, .int .u8 0, .int .u8 0, .int .u8 0, .int .u8 0, .int .u8 0] 48) = w1 at *
  go_wp2_with fail
  go_loopg [6] s.length (fun gg iv wr => ∃ k : Nat, k ≤ s.length ∧ k ≤ 32 ∧ s.length - k ≤ gg ∧ iv = i64 k ∧ Hid ((s.take k).all isHex = true) ∧ Hid (Blk16 48 wr w.heap.size) ∧ Hid (Blk16 48 wr (w.heap.size + 1)) ∧ Hid (Below w.heap.size w wr))
  case atStart => exact ⟨0, by omega, by omega, by omega, rfl, Lib.hid (by simp), KR0, KA0, B0⟩
  case round =>
    obtain ⟨k, hk, hk32, hgk, rfl, HH, K, KA, B⟩ := hrel
    by_cases hlt : k < s.length
    case neg =>
      obtain rfl : k = s.length := by omega
      have HA : Hid ((s.take 32).all isHex = true) := Lib.hid (by have := HH.out; rw [List.take_length] at this; rw [List.take_of_length_le hk32]; exact this)
      by_cases h4 : s.length < 32
      case pos =>
        have V : Hid (authE s = 4) := Lib.hid (by (show authE s = 4); unfold authE; rw [if_pos HA.out, if_pos h4])
        clear HA HH
        go_wp2_with (refine wpList_store_mid rfl 48 _ _ rfl w.heap.size 0 _ rfl rfl ?_ ?_ ?_ ?_)
        · exact K.out.there
        · kernel_rfl
        · kernel_rfl
        have BB := B.out.trans (belowCells (N := w.heap.size) (b := w.heap.size) (Nat.le_refl _) zero16 0 wr)
        have HRz : World.rangeAt (wr.setCells w.heap.size 0 zero16) w.heap.size 0 zero16 := fun j v hv => by rw [Nat.zero_add]; exact cells16 K.out zero16 rfl hv
        have hload := run_loadVar_mid (P := Tryz.prog) _ w.heap.size 0 48 zero16 _ HRz Tryz.underlying48 rfl (by kernel_rfl)
        clear HRz K
        refine bodyPost_ret (v := .tuple #[.agg zero16.toArray, i64 s.length, i64 4]) (results_cell3 (a := 2) (i := 3) (j := 4) rfl rfl hload rfl rfl) rfl ⟨⟨zero16, _, ⟨rfl, by kernel_rfl⟩, by rw [V.out]⟩, BB⟩
      have h5 : ¬ 32 < s.length := by omega
      have V : Hid (authE s = 0) := Lib.hid (by (show authE s = 0); unfold authE; rw [if_pos HA.out, if_neg h4, if_neg h5])
      clear HA HH
      obtain ⟨cs, h1, h2, h3⟩ := KA.out.ex
      have HR := range_blk (cs := cs.toList) (by simpa using h1)
      have hsz : cs.toList.toArray.size = 16 := by simpa using h2
      have hl16 : cs.toList.length = 16 := by simpa using h2
      have hone : cs.toList.toArray.all (·.oneCell') = true := all_oneCell_toArray fun v hv => by
        obtain ⟨i, hi⟩ := List.getElem?_of_mem hv
        have hi2 := (List.getElem?_eq_some_iff.1 hi).1
        obtain ⟨z, hz⟩ := h3 i (by omega)
        rw [← Array.getElem?_toList, hi] at hz
        cases hz; rfl
      have hinf : (Tryz.prog.info? 48).map (·.size) = some 16 := by kernel_rfl
      go_wp2_with (first | refine wpList_load_mid rfl 48 _ rfl (w.heap.size + 1) 0 rfl cs.toList _ HR Tryz.underlying48 rfl (by rw [hinf, hl16]) ?_ | refine wpList_store_mid rfl 48 _ _ rfl w.heap.size 0 _ rfl rfl ?_ ?_ ?_ ?_)
      · rw [hsz]; exact K.out.there
      · rw [hinf, hsz]
      · exact hone
      have BB := B.out.trans (belowCells (N := w.heap.size) (b := w.heap.size) (Nat.le_refl _) cs.toList 0 wr)
      have HRz : World.rangeAt (wr.setCells w.heap.size 0 cs.toList) w.heap.size 0 cs.toList := fun j v hv => by rw [Nat.zero_add]; exact cells16 K.out cs.toList hl16 hv
      have hload := run_loadVar_mid (P := Tryz.prog) _ w.heap.size 0 48 cs.toList _ HRz Tryz.underlying48 rfl (by rw [hinf, hl16])
      clear HRz K
      refine bodyPost_ret (v := .tuple #[.agg cs.toList.toArray, i64 0, i64 0]) (results_cell3 (a := 2) (i := 3) (j := 4) rfl rfl hload rfl rfl) rfl ⟨⟨cs.toList, _, ⟨hl16, hone⟩, by rw [V.out]⟩, BB⟩
    by_cases h32 : k < 32
    case neg =>
      obtain rfl : k = 32 := by omega
      have HA : Hid ((s.take 32).all isHex = true) := HH
      have h4 : ¬ s.length < 32 := by omega
      have h5 : 32 < s.length := by omega
      have V : Hid (authE s = 5) := Lib.hid (by (show authE s = 5); unfold authE; rw [if_pos HA.out, if_neg h4, if_pos h5])
      clear HA HH
      go_wp2_with (refine wpList_store_mid rfl 48 _ _ rfl w.heap.size 0 _ rfl rfl ?_ ?_ ?_ ?_)
      · exact K.out.there
      · kernel_rfl
      · kernel_rfl
      have BB := B.out.trans (belowCells (N := w.heap.size) (b := w.heap.size) (Nat.le_refl _) zero16 0 wr)
      have HRz : World.rangeAt (wr.setCells w.heap.size 0 zero16) w.heap.size 0 zero16 := fun j v hv => by rw [Nat.zero_add]; exact cells16 K.out zero16 rfl hv
      have hload := run_loadVar_mid (P := Tryz.prog) _ w.heap.size 0 48 zero16 _ HRz Tryz.underlying48 rfl (by kernel_rfl)
      clear HRz K
      refine bodyPost_ret (v := .tuple #[.agg zero16.toArray, i64 32, i64 5]) (results_cell3 (a := 2) (i := 3) (j := 4) rfl rfl hload rfl rfl) rfl ⟨⟨zero16, _, ⟨rfl, by kernel_rfl⟩, by rw [V.out]⟩, BB⟩
    have bg := bget (t := s) (p := k) (show k < s.toArray.size by simpa using hlt) hlt
    have HB1 := Lib.hid (authE_bad hlt h32)
    have HSN := Lib.hid (show (s.take (k + 1)).all isHex = ((s.take k).all isHex && isHex (s.getD k 0)) by rw [List.take_succ_eq_append_getElem hlt, List.all_append]; simp [hlt])
    have hget : s[k]? = some (s.getD k 0) := by simp [hlt]
    obtain ⟨c, hc⟩ : ∃ c, s.getD k 0 = c := ⟨_, rfl⟩
    rw [hc] at bg HB1 HSN hget
    have HI := Lib.hid (idx_run s k c hget)
    clear hc hget
    go_wp2_with fail
    refine (refDigit_any c _).mono ?_; rintro e w9 ⟨rfl, hw9⟩
    have hw9 := hw9.symm
    subst hw9
    by_cases hx : isHex c = true
    case neg =>
      have hxf : isHex c = false := by simpa using hx
      rw [hexV_no hxf]
      have V := Lib.hid (HB1.out hxf)
      clear hx hxf HB1 HSN HH
      go_wp2_with (refine wpList_store_mid rfl 48 _ _ rfl w.heap.size 0 _ rfl rfl ?_ ?_ ?_ ?_)
      · exact K.out.there
      · kernel_rfl
      · kernel_rfl
      have BB := B.out.trans (belowCells (N := w.heap.size) (b := w.heap.size) (Nat.le_refl _) zero16 0 w9)
      have HRz : World.rangeAt (w9.setCells w.heap.size 0 zero16) w.heap.size 0 zero16 := fun j v hv => by rw [Nat.zero_add]; exact cells16 K.out zero16 rfl hv
      have hload := run_loadVar_mid (P := Tryz.prog) _ w.heap.size 0 48 zero16 _ HRz Tryz.underlying48 rfl (by kernel_rfl)
      clear HRz K
      refine bodyPost_ret (v := .tuple #[.agg zero16.toArray, i64 k, i64 6]) (results_cell3 (a := 2) (i := 3) (j := 4) rfl rfl hload rfl rfl) rfl ⟨⟨zero16, _, ⟨rfl, by kernel_rfl⟩, by rw [V.out]⟩, BB⟩
    have hi := hexV_yes hx
    have HSN2 : Hid ((s.take (k + 1)).all isHex = true) := Lib.hid (by rw [HSN.out, HH.out, hx]; rfl)
    have HDG := Lib.hid (refDigit_any c)
    generalize hexV c = v at *
    obtain ⟨hv0, hv1⟩ := hi
    clear HSN HH HB1 hx bg
    have hk2 : k / 2 < 16 := by omega
    go_wp2_with fail
    refine Flow.wp_region_pre Flow.Later Flow.Later.refl Flow.Later.trans [14] (.held [0, 1, 2, 3, 4, 5, 6, 7, 8, 9] (.call 10 (.held [11, 12, 13] (.tail (.step [] 14 (.done [])))))) (by kernel_rfl) (by kernel_rfl) ?_
    have K1 := Lib.hid (K.out.below (Below.refl _ _).drew)
    have KA1 := Lib.hid (KA.out.below (Below.refl _ _).drew)
    have B1 := Lib.hid (B.out.drew)
    clear K KA B
    generalize World.drew _ = wd at *
    obtain ⟨z, cz, fz⟩ := KA1.out.cell hk2
    have qz : ∀ t : Flow.Cls (Flow.Later wd), t.val.cell? ⟨w.heap.size + 1, k / 2, none⟩ = some (.int .u8 z) := fun t => Flow.cls_cell cz t
    haveI nonE := Flow.cls_nonempty wd
    rw [Flow.wpPre_held]
    simp only [Flow.pick, List.getElem?_toArray, List.getElem?_cons_succ, List.getElem?_cons_zero]
    iterate 9 go_big_quiet_step (fail)
    refine BigFrame.wpQuiet_want rfl (fun K hK => quiet_index 9 _ _ rfl (.int .u8 c.toNat) HI.out (hK _ ?_))
    clear hK K
    simp only [Act.put, List.setIfInBounds_toArray, List.set_cons_succ, List.set_cons_zero]
    refine wpQuiet_nil ?_
    clear nonE qz
    rw [Flow.wpPre_call, Flow.callAt_eq]
    simp only [List.getElem?_toArray, List.getElem?_cons_succ, List.getElem?_cons_zero]
    rw [if_pos (by rfl)]
    refine Flow.wp_behind (fun K hK => ?_)
    go_wp2_with fail
    refine (HDG.out _).mono ?_; rintro e w9 ⟨rfl, hw9⟩
    have hw9 := hw9.symm
    subst hw9
    refine hK.out _ _ ⟨Below.refl _ _, ?_⟩
    clear hK K
    haveI nonE := Flow.cls_nonempty w9
    rw [Flow.wpPre_held]
    simp only [Flow.pick, List.getElem?_toArray, List.getElem?_cons_succ, List.getElem?_cons_zero]
    repeat go_big_quiet_step (fail)
    refine wpQuiet_nil ?_
    clear nonE
    rw [Flow.wpPre_tail, Flow.wpSched_step]
    simp only [Flow.pick]
    refine wpQuiet_nil ?_
    rw [Flow.callAt_eq]
    simp only [List.getElem?_toArray, List.getElem?_cons_succ, List.getElem?_cons_zero]
    rw [if_pos (by rfl)]
    refine Flow.wp_behind (fun K hK => ?_)
    go_wp2_with fail
    refine hK.out _ _ ⟨trivial, ?_⟩
    clear hK K
    rw [Flow.wpSched_done]
    simp only [Flow.pick]
    refine wpQuiet_nil ?_
    have K2 := Lib.hid (K1.out.other (c := w.heap.size + 1) (by omega) (j := k / 2) (.int .u8 (z * 16 % 256 + v)))
    have KA2 := Lib.hid (KA1.out.set hk2 (z * 16 % 256 + v))
    have B2 := Lib.hid (B1.out.setCell (p := ⟨w.heap.size + 1, k / 2, none⟩) (by simp) (.int .u8 (z * 16 % 256 + v)))
    go_wp2_with fail
    go_roundg (s.length - (k + 1))
    case measure => omega
    case rel => exact ⟨k + 1, by omega, by omega, by omega, by go_num, HSN2, K2, KA2, B2⟩
end Go.Proofs.YthgefcoaaommkaaGreatDoor
