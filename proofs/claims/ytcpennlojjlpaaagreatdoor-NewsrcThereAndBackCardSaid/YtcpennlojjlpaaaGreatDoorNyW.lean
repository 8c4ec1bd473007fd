/- The walk of the statement NewsrcThereAndBack. -/
import Derived.Test.YtcpennlojjlpaaaGreatDoorNyV
import Derived.Great.BuildSlice
import Derived.Laws.Tables
namespace Go.Proofs.YtcpennlojjlpaaaGreatDoor
open Go.RowKit Go.Nr Go.Gn

theorem built_idA (x : Int) : Tryz.prog.built 67 [(0, .int .u8 x)] = some (Value.int .u8 x :: List.replicate 31 (Value.int .u8 0)).toArray := by kernel_rfl
theorem bool_info : (Tryz.prog.info? 4).map (fun i => (i.zero, i.size, i.bytes)) = some (some (.bool false), 1, 1) := by kernel_rfl
theorem int_info57 : (Tryz.prog.info? 3).map (fun i => (i.zero, i.size, i.bytes)) = some (some (i64 0), 1, 8) := by kernel_rfl
theorem enB_idn {k : Nat} (h : k < 200) : (idn k).map enB = Value.int .u8 ((k : Int) + 1) :: List.replicate 31 (Value.int .u8 0) := by
  unfold idn
  rw [List.map_cons, List.map_replicate]
  congr 1
  unfold enB
  rw [UInt8.toNat_ofNat']
  congr 1
  omega
theorem cells_idn {k : Nat} {n : Int} (h : k < 200) : cellsN (idn k, n) = [.int .u8 ((k : Int) + 1), .int .u8 0, .int .u8 0, .int .u8 0, .int .u8 0, .int .u8 0, .int .u8 0, .int .u8 0, .int .u8 0, .int .u8 0, .int .u8 0, .int .u8 0, .int .u8 0, .int .u8 0, .int .u8 0, .int .u8 0, .int .u8 0, .int .u8 0, .int .u8 0, .int .u8 0, .int .u8 0, .int .u8 0, .int .u8 0, .int .u8 0, .int .u8 0, .int .u8 0, .int .u8 0, .int .u8 0, .int .u8 0, .int .u8 0, .int .u8 0, .int .u8 0, .int .i64 (n)] := by
  unfold cellsN
  simp only
  rw [enB_idn h]; rfl
theorem num_len {A : Option Addr} {c n m : Nat} (h : n = m) : (Value.slice A n c) = .slice A m c := by rw [h]
theorem andS_length (S AR : List Rg) (h1 : S.length ≤ 100) (h2 : AR.length ≤ 1000) : (andS S AR).length ≤ 1000000 := by
  exact Nat.le_trans (norm_length _) (Nat.le_trans (bothL_length S AR) (Nat.le_trans (Nat.mul_le_mul h1 h2) (by decide)))
set_option maxRecDepth 100000 in
set_option maxHeartbeats 16000000 in
theorem newsrcThereAndBack_walk (A : Option Addr) (c : Nat) (l : List Rg) (A1 : Option Addr) (a1 : Nat) (os : List Int) (gap : Int) (wg : (Lit.int .u8 gap).wf = true) (w : World) (hr : RdR w A l) (h1 : RdU w A1 os) (hE : Env w) (hT : Tab w) :
    Calls Tryz.prog 8 #[.slice A l.length c, .slice A1 os.length a1, .int .u8 gap] w fun e w' => e = .returned (.bool true) ∧ Below w.heap.size w w' := by
  have HK := Lib.hid (fun W (h : Below w.heap.size w W) => known_any W (hE.below h) (hT.below h))
  have R0 := Lib.hid hr
  have HU := Lib.hid h1
  have hgp : 0 ≤ gap ∧ gap ≤ 255 := by
    have em : IntKind.u8.min = 0 := by decide
    have eM : IntKind.u8.max = 255 := by decide
    simp [Lit.wf, em, eM] at wg
    omega
  clear hr h1 hE hT wg
  by_cases hl30 : 30 < l.length
  · go_enter Tryz.func8, Tryz.ntmps8
    go_wp2_with fail
    refine (HK.out _ (by first | exact Below.refl _ _ | exact below_new _ _)).mono ?_; rintro e w1 ⟨rfl, b⟩
    have b' : Below w.heap.size w w1 := Below.tr (by first | exact Below.refl _ _ | exact below_new _ _) b
    clear b
    have ra1 := Lib.hid (R0.out.below b'); clear R0
    have B1 := Lib.hid b'
    clear b'
    go_wp2_with fail
    refine (HK.out _ (B1.out.tr (by first | exact Below.refl _ _ | exact below_new _ _))).mono ?_; rintro e w2 ⟨rfl, b⟩
    have b' : Below w1.heap.size w1 w2 := Below.tr (by first | exact Below.refl _ _ | exact below_new _ _) b
    clear b
    have ra2 := Lib.hid (ra1.out.below b'); clear ra1
    have B2 := Lib.hid (B1.out.tr b'); clear B1
    clear b'
    go_wp2_with fail
    go_ret
    exact ⟨rfl, (B2.out.tr (by first | exact Below.refl _ _ | exact below_new _ _))⟩
  by_cases hl40 : 40 < os.length
  · go_enter Tryz.func8, Tryz.ntmps8
    go_wp2_with fail
    refine (HK.out _ (by first | exact Below.refl _ _ | exact below_new _ _)).mono ?_; rintro e w1 ⟨rfl, b⟩
    have b' : Below w.heap.size w w1 := Below.tr (by first | exact Below.refl _ _ | exact below_new _ _) b
    clear b
    have ra1 := Lib.hid (R0.out.below b'); clear R0
    have B1 := Lib.hid b'
    clear b'
    go_wp2_with fail
    refine (HK.out _ (B1.out.tr (by first | exact Below.refl _ _ | exact below_new _ _))).mono ?_; rintro e w2 ⟨rfl, b⟩
    have b' : Below w1.heap.size w1 w2 := Below.tr (by first | exact Below.refl _ _ | exact below_new _ _) b
    clear b
    have ra2 := Lib.hid (ra1.out.below b'); clear ra1
    have B2 := Lib.hid (B1.out.tr b'); clear B1
    clear b'
    go_wp2_with fail
    go_ret
    exact ⟨rfl, (B2.out.tr (by first | exact Below.refl _ _ | exact below_new _ _))⟩
  go_enter Tryz.func8, Tryz.ntmps8
  go_wp2_with fail
  refine (HK.out _ (by first | exact Below.refl _ _ | exact below_new _ _)).mono ?_; rintro e w1 ⟨rfl, b⟩
  have b' : Below w.heap.size w w1 := Below.tr (by first | exact Below.refl _ _ | exact below_new _ _) b
  clear b
  have ra1 := Lib.hid (R0.out.below b'); clear R0
  have B1 := Lib.hid b'
  clear b'
  have HO1 := Lib.hid (fun W (h : RdR W A l) => own_any46 A c l W h (by omega))
  have HF := Lib.hid (fun O o W (h : RdR W O l) (h2 : SlR O o l.length) => fromR_any O o l W h h2 (by omega))
  go_wp2_with fail
  refine (HO1.out _ (ra1.out.below (by first | exact Below.refl _ _ | exact below_new _ _))).mono ?_; rintro e w2 ⟨O1, o1, rfl, ho, b⟩
  have b' : Below w1.heap.size w1 w2 := Below.tr (by first | exact Below.refl _ _ | exact below_new _ _) b
  clear b
  have ra2 := Lib.hid (ra1.out.below b'); clear ra1
  have B2 := Lib.hid (B1.out.tr b'); clear B1
  clear b'
  have oo2 := Lib.hid ((RdR.of_own ho).1)
  have s_O := Lib.hid (SlR.of_own ho); clear ho
  go_wp2_with fail
  refine (HF.out O1 o1 _ (oo2.out.below (by first | exact Below.refl _ _ | exact below_new _ _)) s_O.out).mono ?_; rintro e w3 ⟨X, x, rfl, hR, hs', ht', b⟩
  have b' : Below w2.heap.size w2 w3 := Below.tr (by first | exact Below.refl _ _ | exact below_new _ _) b
  clear b
  have ra3 := Lib.hid (ra2.out.below b'); clear ra2
  have oo3 := Lib.hid (oo2.out.below b'); clear oo2
  have B3 := Lib.hid (B2.out.tr b'); clear B2
  clear b'
  have rx3 := Lib.hid hR; clear hR
  clear ht'; have s_X := Lib.hid hs'; clear hs'
  clear oo3
  clear HO1 HF s_O
  by_cases hall : l.all okB = true
  case neg =>
    have e1 : fromE l = 2 := by unfold fromE; rw [if_neg hall]
    rw [e1]
    have q1 : (((2 : Nat) : Int) != 0) = true := by decide
    go_wp2_with fail
    have ra4 := Lib.hid (ra3.out.below (below_new w3 (.cells #[.slice X (fromS l).length x] 26))); clear ra3
    have rx4 := Lib.hid (rx3.out.below (below_new w3 (.cells #[.slice X (fromS l).length x] 26))); clear rx3
    have B4 := Lib.hid (B3.out.tr (below_new w3 (.cells #[.slice X (fromS l).length x] 26))); clear B3
    have bs4 := Lib.hid (blk_new w3 (.cells #[.slice X (fromS l).length x] 26))
    go_ret
    exact ⟨rfl, (B4.out.tr (by first | exact Below.refl _ _ | exact below_new _ _))⟩
  case pos =>
    have e1 : fromE l = 0 := by unfold fromE; rw [if_pos hall]
    have hS := fromS_ok l
    have hSl := fromS_length l
    rw [e1]
    have q1 : (((0 : Nat) : Int) != 0) = false := by decide
    clear e1 hall
    generalize fromS l = S at *
    have HS := Lib.hid hS
    have HSL := Lib.hid hSl
    clear hS hSl
    obtain ⟨ib, hib, hb0, hb1, hb2⟩ := info_parts bool_info
    obtain ⟨i0, hi, hz0, hz1, hz2⟩ := info_parts num_info
    obtain ⟨i3, hi3, hy0, hy1, hy2⟩ := info_parts int_info57
    clear ra3
    have hmk : IntKind.i64 = IntKind.i64 := rfl
    go_wp2_with (at_make; refine wpList_make_full _ rfl _ _ 65 rfl 0 4 ib (.bool false) 1 Tryz.underlying65 hib hb0 hb1 .i64 .i64 os.length os.length os.length rfl rfl rfl rfl ?m1 ?m2 ?m3 ?_)
    case m1 => rw [hb2]; omega
    case m2 => unfold maxLen; omega
    case m3 => omega
    intro wu hmu hgu
    clear hmk
    have BN := Lib.hid (B3.out.tr (below_new w3 (.cells #[.slice X S.length x] 26)))
    have XN := Lib.hid (rx3.out.below (below_new w3 (.cells #[.slice X S.length x] 26)))
    have KN := Lib.hid (blk_new w3 (.cells #[.slice X S.length x] 26))
    clear B3 rx3
    have hsN : (w3.alloc (.cells #[.slice X S.length x] 26)).heap.size = w3.heap.size + 1 := by simp
    generalize w3.alloc (.cells #[.slice X S.length x] 26) = wN at *
    generalize w3.heap.size = bs at *
    have hbsN := blk_lt KN.out
    have hTB : TB wN wu none 0 (hereL 0) none 0 (thereL (1 + gap) []) none 0 (allL 0) (some ⟨bs + 1, 0, none⟩) os.length (usedL os.length []) := by
      refine ⟨(Below.refl _ _).grown hgu (Nat.le_refl _) (fun k hk => by cases hk), Gr.nil _ _ _ _, Gr.nil _ _ _ _, Gr.nil _ _ _ _, ⟨?_, fun p hp => by cases hp; show wN.heap.size ≤ bs + 1; omega⟩, Df.none_l, Df.none_l, Df.none_l, Df.none_l, Df.none_l, Df.none_l⟩
      have e3 : (fun x : Nat => [Value.bool false][x % 1]?.getD default) = fun _ => Value.bool false := by funext x; rw [Nat.mod_one]; rfl
      have e2 : (madeCells #[Value.bool false] os.length).toList = (usedL os.length []).map Value.bool := by
        rw [usedL_nil, List.map_replicate]
        simp [madeCells]
        rw [e3, List.map_const', List.length_range]
      rw [usedL_length, ← e2]; exact hmu
    have HTB := Lib.hid hTB
    have HG := Lib.hid hgp
    clear hmu hgu hTB
    go_wp2_with fail
    go_loopg [9, 10, 11, 13, 14] os.length (fun gg hv tv av iv kv wq => ∃ (i : Nat) (Ah : Option Addr) (ch : Nat) (At : Option Addr) (ct : Nat) (Aa : Option Addr) (ca : Nat) (ks : List Nat), i ≤ os.length ∧ os.length - i ≤ gg ∧ iv = .int .i64 i ∧ hv = .slice Ah (hereL i).length ch ∧ tv = .slice At (thereL (1 + gap) ks).length ct ∧ av = .slice Aa (allL i).length ca ∧ Hid (TB wN wq Ah ch (hereL i) At ct (thereL (1 + gap) ks) Aa ca (allL i) (some ⟨bs + 1, 0, none⟩) os.length (usedL os.length ks)) ∧ Hid (ks.Nodup ∧ (∀ x ∈ ks, x < os.length) ∧ ks.length = i))
    case atStart => exact ⟨0, none, 0, none, 0, none, 0, [], by omega, by omega, rfl, rfl, rfl, rfl, HTB, Lib.hid ⟨by simp, by simp, rfl⟩⟩
    case round =>
      obtain ⟨i, Ah, ch, At, ct, Aa, ca, ks, hi1, hgi, rfl, rfl, rfl, rfl, T1, P1⟩ := hrel
      obtain ⟨wo, hwo⟩ : ∃ wo : World, wo = wr := ⟨_, rfl⟩
      subst hwo
      have BQ := Lib.hid (BN.out.tr T1.out.bel)
      by_cases hlt : i < os.length
      · obtain ⟨b, oa, hAe, hbl, hoc⟩ := (HU.out.below BQ.out).2 (by omega)
        subst hAe
        have hzs : os[i]? = some os[i] := List.getElem?_eq_getElem hlt
        have hz' := HU.out.1 _ (List.mem_of_getElem? hzs)
        have hcell := hoc i _ hzs
        clear hoc hzs
        generalize os[i] = z at *
        obtain ⟨u, hu1, hu2⟩ := free_one P1.out.1 (by rw [P1.out.2.2]; exact hlt)
        have HUF := Lib.hid hu2
        clear hu2
        have hz0' := hz'.1
        have hz1' := hz'.2
        go_wp2_with fail
        have hn1 : 1 ≤ os.length := by omega
        have hzm0 : 0 ≤ z % (os.length : Int) := Int.emod_nonneg _ (by omega)
        have hzm1 : z % (os.length : Int) < os.length := Int.emod_lt_of_pos _ (by omega)
        go_loopg [14] os.length (fun gg kv wr2 => ∃ k : Nat, k < os.length ∧ kv = .int .i64 k ∧ (u + os.length - k) % os.length ≤ gg ∧ wr2 = wo)
        case atStart => exact ⟨(z % (os.length : Int)).toNat, by omega, by rw [Int.toNat_of_nonneg hzm0], Nat.le_of_lt (Nat.mod_lt _ (by omega)), rfl⟩
        case round =>
          obtain ⟨k, hk, rfl, hgk, hw2⟩ := hrel
          subst hw2
          by_cases hin : k ∈ ks
          · have hue := T1.out.useAt rfl (k := k) (v := true) (by rw [usedL_get ks hk, decide_eq_true hin])
            have huc := hue.1
            clear hue
            have hne : u ≠ k := fun e => HUF.out (e ▸ hin)
            have HST := Lib.hid (probe_step hu1 hk hne)
            clear hne
            go_wp2_with fail
            go_roundg ((u + os.length - (k + 1) % os.length) % os.length)
            case measure => have := HST.out; omega
            case rel => exact ⟨(k + 1) % os.length, Nat.mod_lt _ (by omega), by simp, Nat.le_refl _, rfl⟩
          · have hue := T1.out.useAt rfl (k := k) (v := false) (by rw [usedL_get ks hk, decide_eq_false hin])
            have huc := hue.1
            have huf := hue.2
            have hun : bs + 1 < wr.heap.size := T1.out.gu.lt rfl
            clear hue
            have HK2 := Lib.hid hin
            clear hin
            have LH := Lib.hid (cells_idn (k := i) (n := (i : Int) + 1) (by omega))
            have LT := Lib.hid (cells_idn (k := k) (n := 1 + (i : Int) * (1 + gap)) (by omega))
            have LA := Lib.hid (allL_length i)
            have LN1 := Lib.hid (hereL_length i)
            have LN2 := Lib.hid ((thereL_length (1 + gap) ks).trans P1.out.2.2)
            have T2' := T1.out.store rfl k true
            rw [usedL_set] at T2'
            have T2 := Lib.hid T2'
            clear T2'
            have hmu0 : 0 ≤ (i : Int) * (1 + gap) := Int.mul_nonneg (by omega) (by omega)
            have hmu1 : (i : Int) * (1 + gap) ≤ 40 * 256 := Int.mul_le_mul (by omega) (by omega) (by omega) (by omega)
    
            go_wp2_with (at_builtin; refine wpList_append_far _ rfl _ _ 48 rfl 69 i0 (.agg ((List.replicate 32 (Value.int .u8 0)) ++ [i64 0]).toArray) 33 40 Tryz.underlying48 hi hz0 hz1 hz2 rfl (by decide) (.slice Ah (hereL i).length ch) (hereL i).length (flatN (hereL i)) rfl (T2.out.below (below_new _ _)).gh.1 ⟨wr.heap.size, 0, none⟩ 1 1 (cellsN (idn i, (i : Int) + 1)) rfl ?c1 ?c2 ?c3 ?c4 ?c5 ?_)
            case c1 => exact LH.out.symm ▸ rfl
            case c2 =>
              intro j u hj
              rw [LH.out] at hj
              first | exact hj | (rw [addr_addN, Nat.zero_add, new_cell _ _ _ _ _ (by simp)]; simpa using hj)
            case c3 => exact one_enB (idn i, (i : Int) + 1)
            case c4 => unfold maxLen; have := LN1.out; omega
            case c5 => have := LN1.out; omega
            intro v' w2 hown2 hg2 hf2
            obtain ⟨A3, c3, rfl⟩ := own2_slice hown2
            have T4' := T2.out.growH (below_new _ _) hown2 hg2 (hf2.imp id fun ⟨g, h1, h2⟩ => ⟨g, h1, by first | omega | (simp only [World.size_setCell]; omega)⟩)
            rw [← hereL_succ] at T4'
            have T4 := Lib.hid T4'
            clear T4' hown2 hg2 hf2 T1 T2
            go_wp2_with (at_builtin; refine wpList_append_far _ rfl _ _ 48 rfl 69 i0 (.agg ((List.replicate 32 (Value.int .u8 0)) ++ [i64 0]).toArray) 33 40 Tryz.underlying48 hi hz0 hz1 hz2 rfl (by decide) (.slice At (thereL (1 + gap) ks).length ct) (thereL (1 + gap) ks).length (flatN (thereL (1 + gap) ks)) rfl (T4.out.below (below_new _ _)).gt.1 ⟨w2.heap.size, 0, none⟩ 1 1 (cellsN (idn k, 1 + (i : Int) * (1 + gap))) rfl ?c1 ?c2 ?c3 ?c4 ?c5 ?_)
            case c1 => exact LT.out.symm ▸ rfl
            case c2 =>
              intro j u hj
              rw [LT.out] at hj
              first | exact hj | (rw [addr_addN, Nat.zero_add, new_cell _ _ _ _ _ (by simp)]; simpa using hj)
            case c3 => exact one_enB (idn k, 1 + (i : Int) * (1 + gap))
            case c4 => unfold maxLen; have := LN2.out; omega
            case c5 => have := LN2.out; omega
            intro v' w3 hown2 hg2 hf2
            obtain ⟨A4, c4, rfl⟩ := own2_slice hown2
            have T5' := T4.out.growT (below_new _ _) hown2 hg2 (hf2.imp id fun ⟨g, h1, h2⟩ => ⟨g, h1, by first | omega | (simp only [World.size_setCell]; omega)⟩)
            have hts : thereL (1 + gap) (ks ++ [k]) = thereL (1 + gap) ks ++ [(idn k, 1 + (i : Int) * (1 + gap))] := by rw [thereL_snoc, P1.out.2.2]
            rw [← hts] at T5'
            have T5 := Lib.hid T5'
            clear T5' hown2 hg2 hf2 T4
            go_wp2_with (at_builtin; refine wpList_append_far _ rfl _ _ 57 rfl 3 i3 (i64 0) 1 8 Tryz.underlying57 hi3 hy0 hy1 hy2 rfl (by decide) (.slice Aa (allL i).length ca) (allL i).length ((allL i).map i64) rfl (T5.out.below (below_new _ _)).ga.1 ⟨w3.heap.size, 0, none⟩ 1 1 [i64 ((i : Int) + 1)] rfl ?c1 ?c2 ?c3 ?c4 ?c5 ?_)
            case c1 => rfl
            case c2 =>
              intro j u hj
              rw [addr_addN, Nat.zero_add, new_cell _ _ _ _ _ rfl]
              simpa using hj
            case c3 => intro u hu; rw [List.mem_singleton.1 hu]; rfl
            case c4 => unfold maxLen; have := LA.out; omega
            case c5 => have := LA.out; omega
            intro v' w4 hown2 hg2 hf2
            obtain ⟨A5, c5, rfl⟩ := own2_slice hown2
            have T6' := T5.out.growA (below_new _ _) hown2 hg2 (hf2.imp id fun ⟨g, h1, h2⟩ => ⟨g, h1, by first | omega | (simp only [World.size_setCell]; omega)⟩)
            rw [← allL_succ] at T6'
            have T6 := Lib.hid T6'
            have HTS := Lib.hid hts
            clear T6' hown2 hg2 hf2 T5 hts huc huf
            go_wp2_with fail
            go_roundg (os.length - (i + 1))
            case measure => omega
            case rel =>
              refine ⟨i + 1, A3, c3, A4, c4, A5, c5, ks ++ [k], by omega, by omega, by go_num, ?_, ?_, ?_, T6, Lib.hid ?_⟩
              · rw [hereL_succ, List.length_append]; rfl
              · rw [HTS.out, List.length_append]; rfl
              · rw [allL_succ, List.length_append]; rfl
              · have hp := Perm.step P1.out.1 P1.out.2.1 hk HK2.out
                exact ⟨hp.1, hp.2, by rw [List.length_append, P1.out.2.2]; rfl⟩
      · obtain rfl : i = os.length := by omega
        have hp : Perm os.length ks := ⟨P1.out.2.2, P1.out.1, P1.out.2.1⟩
        obtain ⟨f1, f2, f3, f4, f5, f6, f7, f8, f9⟩ := there_and_back (S := S) (by omega) hp (g := 1 + gap) (by omega) (by omega)
        have o1 := hereL_okN os.length
        have o2 := thereL_okN (1 + gap) ks
        have n1 := hereL_length os.length
        have n2 := (thereL_length (1 + gap) ks).trans hp.len
        have n3 := allL_length os.length
        have TB1 := Lib.hid T1.out.bel
        have g1 := T1.out.gh.1
        have g2 := T1.out.gt.1
        have g3 := T1.out.ga.1
        generalize hereL os.length = HL at *
        generalize thereL (1 + gap) ks = TL at *
        generalize allL os.length = AL at *
        clear T1
        obtain ⟨T, hT⟩ : ∃ q, moveS S HL TL = q := ⟨_, rfl⟩
        obtain ⟨AR, hAR⟩ : ∃ q, fromS (pts AL) = q := ⟨_, rfl⟩
        obtain ⟨WT, hWT⟩ : ∃ q, andS S AR = q := ⟨_, rfl⟩
        rw [hT] at f4 f5 f8 f9
        rw [hAR] at f6 f7 f8 f9
        rw [hWT] at f8 f9
        have hSl := HSL.out
        have f10 : WT.length ≤ 1000000 := by rw [← hWT]; exact andS_length S AR (by omega) f7
        have f11 : Okset WT := by rw [← hWT]; exact andS_ok HS.out
        have hcA := (RdI.of_own g3).2.2
        obtain ⟨CT, hCT⟩ : ∃ q, count WT = q := ⟨_, rfl⟩
        rw [hCT] at f9
        have HOF := Lib.hid (fun W (h : RdI W Aa AL) => (show Calls Tryz.prog 41 #[.slice Aa AL.length ca] W (GivesSet W AR 0) from by
          have h2 := of_any Aa ca AL W h hcA (by omega)
          rw [hAR, f1] at h2; exact h2))
        have HM1 := Lib.hid (fun W (h1 : RdR W X S) (h2 : RdN W Ah HL) (h3 : RdN W At TL) => (show Calls Tryz.prog 32 #[.agg #[.slice X S.length x], .slice Ah HL.length ch, .slice At TL.length ct] W (GivesSet W T 0) from by
          have h4 := move_any X x S Ah ch HL At ct TL W h1 HS.out.1 (by omega) h2 h3 o1 o2 (by omega) (by omega)
          rw [hT, f2] at h4; exact h4))
        have HM2 := Lib.hid (fun Y y W (h1 : RdR W Y T) (h2 : RdN W Ah HL) (h3 : RdN W At TL) => (show Calls Tryz.prog 32 #[.agg #[.slice Y T.length y], .slice At TL.length ct, .slice Ah HL.length ch] W (GivesSet W WT 0) from by
          have h4 := move_any Y y T At ct TL Ah ch HL W h1 f4.1 (by omega) h3 h2 o2 o1 (by omega) (by omega)
          rw [f8, f3] at h4; exact h4))
        have HIN := Lib.hid (fun Y y W (h1 : RdR W X S) (h2 : RdR W Y AR) => (show Calls Tryz.prog 23 #[.agg #[.slice X S.length x], .agg #[.slice Y AR.length y]] W (GivesSet W WT 0) from by
          have h4 := inter_any X Y x y S AR W h1 h2 HS.out f6 (by omega)
          rw [hWT] at h4; exact h4))
        have HEQ := Lib.hid (fun Y y Z z W (h1 : RdR W Y WT) (h2 : RdR W Z WT) => (show Calls Tryz.prog 36 #[.agg #[.slice Y WT.length y], .agg #[.slice Z WT.length z]] W (fun e w' => e = .returned (.bool true) ∧ Below W.heap.size W w') from by
          have h4 := equalSets_any Y Z y z WT WT W h1 h2 f10 f10
          rw [decide_eq_true rfl] at h4; exact h4))
        have HC1 := Lib.hid (fun Y y W (h1 : RdR W Y T) => (show Calls Tryz.prog 37 #[.agg #[.slice Y T.length y]] W (fun e w' => e = .returned (i64 CT) ∧ Below W.heap.size W w') from by
          have h4 := count_any Y y T W h1 f4.2 (by omega)
          rw [f9] at h4; exact h4))
        have HC2 := Lib.hid (fun Y y W (h1 : RdR W Y WT) => (show Calls Tryz.prog 37 #[.agg #[.slice Y WT.length y]] W (fun e w' => e = .returned (i64 CT) ∧ Below W.heap.size W w') from by
          have h4 := count_any Y y WT W h1 f11.2 f10
          rw [hCT] at h4; exact h4))
        have RH := Lib.hid (RdN.of_own g1 o1)
        have RT := Lib.hid (RdN.of_own g2 o2)
        have RA := Lib.hid (RdI.of_own g3).1
        have XQ := Lib.hid (XN.out.below TB1.out)
        have KQ := Lib.hid (blk_below TB1.out KN.out)
        clear f1 f2 f3 f4 f5 f6 f7 f8 f9 f10 f11 o1 o2 n1 n2 n3 g1 g2 g3 hT hAR hWT hCT hcA hp P1 XN KN BN
        go_wp2_with fail
        refine (HOF.out _ (RA.out.below (by first | exact Below.refl _ _ | exact below_new _ _))).mono ?_; rintro e w21 ⟨A5, c5, rfl, hr, hs, ht, b⟩
        have b' : Below wo.heap.size wo w21 := Below.tr (by first | exact Below.refl _ _ | exact below_new _ _) b
        clear b
        have rx21 := Lib.hid (XQ.out.below b'); clear XQ
        have rh21 := Lib.hid (RH.out.below b'); clear RH
        have rt21 := Lib.hid (RT.out.below b'); clear RT
        have ri21 := Lib.hid (RA.out.below b'); clear RA
        have bs21 := Lib.hid (blk_below b' KQ.out); clear KQ
        have B21 := Lib.hid (BQ.out.tr b'); clear BQ
        clear b'
        have r521 := Lib.hid hr; clear hr
        clear hs ht
        clear ri21
        have cbs0 := blk_cell bs21.out 0
        have pbs := blk_lt bs21.out
        go_wp2_with fail
        clear cbs0 pbs
        have rx22 := Lib.hid (rx21.out.below (below_new w21 (.cells #[.slice A5 AR.length c5] 26))); clear rx21
        have rh22 := Lib.hid (rh21.out.below (below_new w21 (.cells #[.slice A5 AR.length c5] 26))); clear rh21
        have rt22 := Lib.hid (rt21.out.below (below_new w21 (.cells #[.slice A5 AR.length c5] 26))); clear rt21
        have r522 := Lib.hid (r521.out.below (below_new w21 (.cells #[.slice A5 AR.length c5] 26))); clear r521
        have bs22 := Lib.hid (blk_below (below_new w21 (.cells #[.slice A5 AR.length c5] 26)) bs21.out); clear bs21
        have B22 := Lib.hid (B21.out.tr (below_new w21 (.cells #[.slice A5 AR.length c5] 26))); clear B21
        have b522 := Lib.hid (blk_new w21 (.cells #[.slice A5 AR.length c5] 26))
        refine (HM1.out _ (rx22.out.below (by first | exact Below.refl _ _ | exact below_new _ _)) (rh22.out.below (by first | exact Below.refl _ _ | exact below_new _ _)) (rt22.out.below (by first | exact Below.refl _ _ | exact below_new _ _))).mono ?_; rintro e w23 ⟨A6, c6, rfl, hr, hs, ht, b⟩
        have b' : Below (w21.alloc (.cells #[.slice A5 AR.length c5] 26)).heap.size (w21.alloc (.cells #[.slice A5 AR.length c5] 26)) w23 := Below.tr (by first | exact Below.refl _ _ | exact below_new _ _) b
        clear b
        have rx23 := Lib.hid (rx22.out.below b'); clear rx22
        have rh23 := Lib.hid (rh22.out.below b'); clear rh22
        have rt23 := Lib.hid (rt22.out.below b'); clear rt22
        have r523 := Lib.hid (r522.out.below b'); clear r522
        have bs23 := Lib.hid (blk_below b' bs22.out); clear bs22
        have b523 := Lib.hid (blk_below b' b522.out); clear b522
        have B23 := Lib.hid (B22.out.tr b'); clear B22
        clear b'
        have r623 := Lib.hid hr; clear hr
        clear hs ht
        go_wp2_with fail
        have rx24 := Lib.hid (rx23.out.below (below_new w23 (.cells #[.slice A6 T.length c6] 26))); clear rx23
        have rh24 := Lib.hid (rh23.out.below (below_new w23 (.cells #[.slice A6 T.length c6] 26))); clear rh23
        have rt24 := Lib.hid (rt23.out.below (below_new w23 (.cells #[.slice A6 T.length c6] 26))); clear rt23
        have r524 := Lib.hid (r523.out.below (below_new w23 (.cells #[.slice A6 T.length c6] 26))); clear r523
        have r624 := Lib.hid (r623.out.below (below_new w23 (.cells #[.slice A6 T.length c6] 26))); clear r623
        have bs24 := Lib.hid (blk_below (below_new w23 (.cells #[.slice A6 T.length c6] 26)) bs23.out); clear bs23
        have b524 := Lib.hid (blk_below (below_new w23 (.cells #[.slice A6 T.length c6] 26)) b523.out); clear b523
        have B24 := Lib.hid (B23.out.tr (below_new w23 (.cells #[.slice A6 T.length c6] 26))); clear B23
        have b624 := Lib.hid (blk_new w23 (.cells #[.slice A6 T.length c6] 26))
        refine (HM2.out A6 c6 _ (r624.out.below (by first | exact Below.refl _ _ | exact below_new _ _)) (rh24.out.below (by first | exact Below.refl _ _ | exact below_new _ _)) (rt24.out.below (by first | exact Below.refl _ _ | exact below_new _ _))).mono ?_; rintro e w25 ⟨A7, c7, rfl, hr, hs, ht, b⟩
        have b' : Below (w23.alloc (.cells #[.slice A6 T.length c6] 26)).heap.size (w23.alloc (.cells #[.slice A6 T.length c6] 26)) w25 := Below.tr (by first | exact Below.refl _ _ | exact below_new _ _) b
        clear b
        have rx25 := Lib.hid (rx24.out.below b'); clear rx24
        have rh25 := Lib.hid (rh24.out.below b'); clear rh24
        have rt25 := Lib.hid (rt24.out.below b'); clear rt24
        have r525 := Lib.hid (r524.out.below b'); clear r524
        have r625 := Lib.hid (r624.out.below b'); clear r624
        have bs25 := Lib.hid (blk_below b' bs24.out); clear bs24
        have b525 := Lib.hid (blk_below b' b524.out); clear b524
        have b625 := Lib.hid (blk_below b' b624.out); clear b624
        have B25 := Lib.hid (B24.out.tr b'); clear B24
        clear b'
        have r725 := Lib.hid hr; clear hr
        clear hs ht
        clear rh25
        clear rt25
        have cbs0 := blk_cell bs25.out 0
        have pbs := blk_lt bs25.out
        have cb50 := blk_cell b525.out 0
        have pb5 := blk_lt b525.out
        go_wp2_with fail
        clear cbs0 pbs cb50 pb5
        have rx26 := Lib.hid (rx25.out.below (below_new w25 (.cells #[.slice A7 WT.length c7] 26))); clear rx25
        have r526 := Lib.hid (r525.out.below (below_new w25 (.cells #[.slice A7 WT.length c7] 26))); clear r525
        have r626 := Lib.hid (r625.out.below (below_new w25 (.cells #[.slice A7 WT.length c7] 26))); clear r625
        have r726 := Lib.hid (r725.out.below (below_new w25 (.cells #[.slice A7 WT.length c7] 26))); clear r725
        have bs26 := Lib.hid (blk_below (below_new w25 (.cells #[.slice A7 WT.length c7] 26)) bs25.out); clear bs25
        have b526 := Lib.hid (blk_below (below_new w25 (.cells #[.slice A7 WT.length c7] 26)) b525.out); clear b525
        have b626 := Lib.hid (blk_below (below_new w25 (.cells #[.slice A7 WT.length c7] 26)) b625.out); clear b625
        have B26 := Lib.hid (B25.out.tr (below_new w25 (.cells #[.slice A7 WT.length c7] 26))); clear B25
        have b726 := Lib.hid (blk_new w25 (.cells #[.slice A7 WT.length c7] 26))
        refine (HIN.out A5 c5 _ (rx26.out.below (by first | exact Below.refl _ _ | exact below_new _ _)) (r526.out.below (by first | exact Below.refl _ _ | exact below_new _ _))).mono ?_; rintro e w27 ⟨A8, c8, rfl, hr, hs, ht, b⟩
        have b' : Below (w25.alloc (.cells #[.slice A7 WT.length c7] 26)).heap.size (w25.alloc (.cells #[.slice A7 WT.length c7] 26)) w27 := Below.tr (by first | exact Below.refl _ _ | exact below_new _ _) b
        clear b
        have rx27 := Lib.hid (rx26.out.below b'); clear rx26
        have r527 := Lib.hid (r526.out.below b'); clear r526
        have r627 := Lib.hid (r626.out.below b'); clear r626
        have r727 := Lib.hid (r726.out.below b'); clear r726
        have bs27 := Lib.hid (blk_below b' bs26.out); clear bs26
        have b527 := Lib.hid (blk_below b' b526.out); clear b526
        have b627 := Lib.hid (blk_below b' b626.out); clear b626
        have b727 := Lib.hid (blk_below b' b726.out); clear b726
        have B27 := Lib.hid (B26.out.tr b'); clear B26
        clear b'
        have r827 := Lib.hid hr; clear hr
        clear hs ht
        clear rx27
        clear r527
        clear b527
        clear bs27
        go_wp2_with fail
        have r628 := Lib.hid (r627.out.below (below_new w27 (.cells #[.slice A8 WT.length c8] 26))); clear r627
        have r728 := Lib.hid (r727.out.below (below_new w27 (.cells #[.slice A8 WT.length c8] 26))); clear r727
        have r828 := Lib.hid (r827.out.below (below_new w27 (.cells #[.slice A8 WT.length c8] 26))); clear r827
        have b628 := Lib.hid (blk_below (below_new w27 (.cells #[.slice A8 WT.length c8] 26)) b627.out); clear b627
        have b728 := Lib.hid (blk_below (below_new w27 (.cells #[.slice A8 WT.length c8] 26)) b727.out); clear b727
        have B28 := Lib.hid (B27.out.tr (below_new w27 (.cells #[.slice A8 WT.length c8] 26))); clear B27
        have b828 := Lib.hid (blk_new w27 (.cells #[.slice A8 WT.length c8] 26))
        refine Flow.wp_region_segs Flow.Later Flow.Later.refl Flow.Later.trans [([0, 1, 2, 3, 4, 5, 6, 7, 8, 9, 10, 11, 12, 13, 14, 15, 16], 17), ([18, 19, 20, 22], 21), ([], 23)] [24, 25, 26] (by kernel_rfl) (by kernel_rfl) ?_
        have b' : Below (w27.alloc (.cells #[.slice A8 WT.length c8] 26)).heap.size (w27.alloc (.cells #[.slice A8 WT.length c8] 26)) (World.drew (w27.alloc (.cells #[.slice A8 WT.length c8] 26))) := (Below.refl _ _).drew
        have r629 := Lib.hid (r628.out.below b'); clear r628
        have r729 := Lib.hid (r728.out.below b'); clear r728
        have r829 := Lib.hid (r828.out.below b'); clear r828
        have b629 := Lib.hid (blk_below b' b628.out); clear b628
        have b729 := Lib.hid (blk_below b' b728.out); clear b728
        have b829 := Lib.hid (blk_below b' b828.out); clear b828
        have B29 := Lib.hid (B28.out.tr b'); clear B28
        clear b'
        generalize World.drew _ = w29 at *
        have cb70 := blk_cell b729.out 0
        have qb70 : ∀ t : Flow.Cls (Flow.Later w29), t.val.cell? _ = some (.slice A7 WT.length c7) := fun t => Flow.cls_cell cb70 t
        have cb80 := blk_cell b829.out 0
        have qb80 : ∀ t : Flow.Cls (Flow.Later w29), t.val.cell? _ = some (.slice A8 WT.length c8) := fun t => Flow.cls_cell cb80 t
        haveI nonE := Flow.cls_nonempty w29
        rw [Flow.wpSegs_cons]
        simp only [Flow.pick, List.getElem?_toArray, List.getElem?_cons_succ, List.getElem?_cons_zero]
        repeat go_big_quiet_step (fail)
        refine wpQuiet_nil ?_
        clear nonE qb70 cb70 qb80 cb80
        rw [Flow.callAt_eq]
        simp only [List.getElem?_toArray, List.getElem?_cons_succ, List.getElem?_cons_zero]
        rw [if_pos (by rfl)]
        refine Flow.wp_behind (fun K0 hK => ?_)
        go_wp2_with fail
        refine (HEQ.out A7 c7 A8 c8 _ (r729.out.below (by first | exact Below.refl _ _ | exact below_new _ _)) (r829.out.below (by first | exact Below.refl _ _ | exact below_new _ _))).mono ?_; rintro e w30 ⟨rfl, b⟩
        have b' : Below w29.heap.size w29 w30 := Below.tr (by first | exact Below.refl _ _ | exact below_new _ _) b
        clear b
        refine hK.out _ _ ⟨b', ?_⟩
        clear hK K0
        have r630 := Lib.hid (r629.out.below b'); clear r629
        have r730 := Lib.hid (r729.out.below b'); clear r729
        have r830 := Lib.hid (r829.out.below b'); clear r829
        have b630 := Lib.hid (blk_below b' b629.out); clear b629
        have b730 := Lib.hid (blk_below b' b729.out); clear b729
        have b830 := Lib.hid (blk_below b' b829.out); clear b829
        have B30 := Lib.hid (B29.out.tr b'); clear B29
        clear b'
        have cb60 := blk_cell b630.out 0
        have qb60 : ∀ t : Flow.Cls (Flow.Later w30), t.val.cell? _ = some (.slice A6 T.length c6) := fun t => Flow.cls_cell cb60 t
        have cb80 := blk_cell b830.out 0
        have qb80 : ∀ t : Flow.Cls (Flow.Later w30), t.val.cell? _ = some (.slice A8 WT.length c8) := fun t => Flow.cls_cell cb80 t
        haveI nonE := Flow.cls_nonempty w30
        rw [Flow.wpSegs_cons]
        simp only [Flow.pick, List.getElem?_toArray, List.getElem?_cons_succ, List.getElem?_cons_zero]
        repeat go_big_quiet_step (fail)
        refine wpQuiet_nil ?_
        clear nonE qb60 cb60 qb80 cb80
        rw [Flow.callAt_eq]
        simp only [List.getElem?_toArray, List.getElem?_cons_succ, List.getElem?_cons_zero]
        rw [if_pos (by rfl)]
        refine Flow.wp_behind (fun K0 hK => ?_)
        go_wp2_with fail
        refine (HC1.out A6 c6 _ (r630.out.below (by first | exact Below.refl _ _ | exact below_new _ _))).mono ?_; rintro e w31 ⟨rfl, b⟩
        have b' : Below w30.heap.size w30 w31 := Below.tr (by first | exact Below.refl _ _ | exact below_new _ _) b
        clear b
        refine hK.out _ _ ⟨b', ?_⟩
        clear hK K0
        have r631 := Lib.hid (r630.out.below b'); clear r630
        have r731 := Lib.hid (r730.out.below b'); clear r730
        have r831 := Lib.hid (r830.out.below b'); clear r830
        have b631 := Lib.hid (blk_below b' b630.out); clear b630
        have b731 := Lib.hid (blk_below b' b730.out); clear b730
        have b831 := Lib.hid (blk_below b' b830.out); clear b830
        have B31 := Lib.hid (B30.out.tr b'); clear B30
        clear b'
        haveI nonE := Flow.cls_nonempty w31
        rw [Flow.wpSegs_cons]
        simp only [Flow.pick]
        refine wpQuiet_nil ?_
        clear nonE 
        rw [Flow.callAt_eq]
        simp only [List.getElem?_toArray, List.getElem?_cons_succ, List.getElem?_cons_zero]
        rw [if_pos (by rfl)]
        refine Flow.wp_behind (fun K0 hK => ?_)
        go_wp2_with fail
        refine (HC2.out A8 c8 _ (r831.out.below (by first | exact Below.refl _ _ | exact below_new _ _))).mono ?_; rintro e w32 ⟨rfl, b⟩
        have b' : Below w31.heap.size w31 w32 := Below.tr (by first | exact Below.refl _ _ | exact below_new _ _) b
        clear b
        refine hK.out _ _ ⟨b', ?_⟩
        clear hK K0
        have r632 := Lib.hid (r631.out.below b'); clear r631
        have r732 := Lib.hid (r731.out.below b'); clear r731
        have r832 := Lib.hid (r831.out.below b'); clear r831
        have b632 := Lib.hid (blk_below b' b631.out); clear b631
        have b732 := Lib.hid (blk_below b' b731.out); clear b731
        have b832 := Lib.hid (blk_below b' b831.out); clear b831
        have B32 := Lib.hid (B31.out.tr b'); clear B31
        clear b'
        haveI nonE := Flow.cls_nonempty w32
        rw [Flow.wpSegs_nil]
        simp only [Flow.pick, List.getElem?_toArray, List.getElem?_cons_succ, List.getElem?_cons_zero]
        repeat go_big_quiet_step (fail)
        refine wpQuiet_nil ?_
        clear nonE 
        go_wp2_with fail
        go_ret
        exact ⟨rfl, (B32.out.tr (by first | exact Below.refl _ _ | exact below_new _ _))⟩
end Go.Proofs.YtcpennlojjlpaaaGreatDoor
