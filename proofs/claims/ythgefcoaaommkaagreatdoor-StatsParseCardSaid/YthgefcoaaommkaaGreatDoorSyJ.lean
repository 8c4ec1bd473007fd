/- Contract: the model's parse. -/
import Derived.Test.YthgefcoaaommkaaGreatDoorSyI
import Derived.Test.YthgefcoaaommkaaGreatDoorSyF
namespace Go.Proofs.YthgefcoaaommkaaGreatDoor
open Go.RowKit Go.Gn Go.Sr Go.Maps Go.Nr

/-- What the model's parse keeps in memory. -/
structure PM (w wr : World) (A : Option Addr) (L : List (List UInt8)) (b : Nat) (bk n : Int) (bn : List UInt8) : Prop where
  l : RdC wr A (L.map enS)
  kb : wr.heap[b]? = some (.cells #[i64 bk, i64 n, enS bn] 129 (0, 0))
  lo : w.heap.size ≤ b
  la : ∀ bl ol, A = some ⟨bl, ol, none⟩ → bl ≠ b
  bel : Below w.heap.size w wr
theorem rdC_set {w : World} {A : Option Addr} {xs : List Value} (h : RdC w A xs) {b i : Nat} (hne : ∀ bl ol, A = some ⟨bl, ol, none⟩ → bl ≠ b) (v : Value) : RdC (w.setCell ⟨b, i, none⟩ v) A xs := fun hl => by
  obtain ⟨bl, ol, e, hc⟩ := h hl
  exact ⟨bl, ol, e, fun j u hj => by rw [cell_set_ne (hne bl ol e) v]; exact hc j u hj⟩
theorem rdC_of_rd {w : World} {A : Option Addr} {xs : List (List UInt8)} (h : Rd w A xs) : RdC w A (xs.map enS) := fun hl => by
  obtain ⟨b, o, e, _, hc⟩ := h (by simpa using hl)
  refine ⟨b, o, e, fun j u hj => ?_⟩
  rw [List.getElem?_map] at hj
  cases hx : xs[j]? with
  | none => rw [hx] at hj; cases hj
  | some x => rw [hx] at hj; cases hj; exact hc j x hx
theorem rd_low {w : World} {A : Option Addr} {xs : List (List UInt8)} (h : Rd w A xs) (hl : 0 < xs.length) : ∀ bl ol, A = some ⟨bl, ol, none⟩ → bl ≠ w.heap.size := fun bl ol e => by
  obtain ⟨b, o, e2, hb, _⟩ := h hl
  rw [e2] at e
  cases e
  omega
section
variable {w wr wr' : World} {A : Option Addr} {L : List (List UInt8)} {b : Nat} {bk n : Int} {bn : List UInt8}
theorem PM.below (h : PM w wr A L b bk n bn) (hb : Below wr.heap.size wr wr') : PM w wr' A L b bk n bn := ⟨h.l.below hb, blk_below hb h.kb, h.lo, h.la, h.bel.tr hb⟩
theorem PM.put (h : PM w wr A L b bk n bn) (k' n' : Int) (bn' : List UInt8) : PM w (((wr.setCell ⟨b, 0, none⟩ (i64 k')).setCell ⟨b, 1, none⟩ (i64 n')).setCell ⟨b, 2, none⟩ (enS bn')) A L b k' n' bn' := by
  refine ⟨rdC_set (rdC_set (rdC_set h.l h.la _) h.la _) h.la _, ?_, h.lo, h.la, ?_⟩
  · rw [blk_set (blk_set (blk_set h.kb 0 (i64 k')) 1 (i64 n')) 2 (enS bn')]; rfl
  · have hlo := h.lo
    exact ((h.bel.setCell (p := ⟨b, 0, none⟩) hlo _).setCell (p := ⟨b, 1, none⟩) hlo _).setCell (p := ⟨b, 2, none⟩) hlo _
end
theorem numT_no {s : List UInt8} (h : okW s = false) : numT s = 0 := by unfold numT; rw [if_neg (by rw [h]; exact Bool.false_ne_true)]
theorem vN_bool (k : Int) (s : List UInt8) : vN k s = true ∨ vN k s = false := by cases vN k s <;> simp
theorem rowP_no {v : Int → List UInt8 → Bool} {s : List UInt8} (h : wordsP (parts 32 s) = none) : rowP v s = .inr 3 := by unfold rowP; rw [h]
theorem rowP_name {v : Int → List UInt8 → Bool} {s : List UInt8} {x : Rw} (h : wordsP (parts 32 s) = some x) (h1 : 1 ≤ x.sort ∧ x.sort ≤ 3) (hv : v x.sort x.name = false) : rowP v s = .inr 12 := by
  unfold rowP; rw [h]; simp only; unfold chkR; rw [if_pos ⟨h1, hv⟩]
theorem rowP_rng {v : Int → List UInt8 → Bool} {s : List UInt8} {x : Rw} (h : wordsP (parts 32 s) = some x) (hv : 1 ≤ x.sort → x.sort ≤ 3 → v x.sort x.name = true) (hr : RngBad x) : rowP v s = .inr 2 := by
  unfold RngBad at hr
  unfold rowP; rw [h]; simp only; unfold chkR; rw [if_neg (fun e => by have := hv e.1.1 e.1.2; rw [e.2] at this; cases this), if_pos hr]
theorem rowP_fine {v : Int → List UInt8 → Bool} {s : List UInt8} {x : Rw} (h : wordsP (parts 32 s) = some x) (hv : 1 ≤ x.sort → x.sort ≤ 3 → v x.sort x.name = true) (hr : ¬ RngBad x) : rowP v s = .inl x := by
  unfold RngBad at hr
  unfold rowP; rw [h]; simp only; unfold chkR; rw [if_neg (fun e => by have := hv e.1.1 e.1.2; rw [e.2] at this; cases this), if_neg hr]
theorem mL_err {v : Int → List UInt8 → Bool} {st : Sx} {i : Nat} {s : List UInt8} {l : List (List UInt8)} {e : Nat} (h : l ≠ []) (hr : rowP v s = .inr e) : mL v st i (s :: l) = (i + 1, e) := by rw [mL_cons h, hr]
theorem mL_seq {v : Int → List UInt8 → Bool} {st : Sx} {i : Nat} {s : List UInt8} {l : List (List UInt8)} {x : Rw} (h : l ≠ []) (hr : rowP v s = .inl x) (hf : ¬ follows x st.prev st.day = true) : mL v st i (s :: l) = (i + 1, 30) := by rw [mL_cons h, hr]; simp only; rw [if_neg hf]
theorem mL_go {v : Int → List UInt8 → Bool} {st : Sx} {i : Nat} {s : List UInt8} {l : List (List UInt8)} {x : Rw} (h : l ≠ []) (hr : rowP v s = .inl x) (hf : follows x st.prev st.day = true) : mL v st i (s :: l) = mL v (putX st x) (i + 1) l := by rw [mL_cons h, hr]; simp only; rw [if_pos hf]
theorem inv_go {v : Int → List UInt8 → Bool} {st : Sx} {s : List UInt8} {x : Rw} (h : ∃ T, InvX st T) (hr : rowP v s = .inl x) (hf : follows x st.prev st.day = true) : ∃ T, InvX (putX st x) T := h.imp' (fun T => T ++ (s ++ [10])) fun _ ht => ht.step hr hf
set_option maxRecDepth 100000 in
set_option maxHeartbeats 32000000 in
theorem mParse_any (t : List UInt8) (w : World) (hl : t.length ≤ 1000000) :
    Calls Tryz.prog 27 #[enS t] w fun e w' => e = .returned (.tuple #[i64 ((outP (parseP vN t)).1 : Nat), i64 ((outP (parseP vN t)).2 : Nat)]) ∧ Below w.heap.size w w' := by
  have HR := Lib.hid (mL_all vN t)
  have HPL : Hid (Calls Tryz.prog 72 #[enS t, .int .u8 10] w (Gives w (parts 10 t))) := Lib.hid (refParts_any t 10 w (by omega))
  have HEL : Hid (∀ a ∈ parts 10 t, a.length ≤ t.length) := Lib.hid (parts_le 10 t)
  have hn1 := parts_pos 10 t
  have hn2 := parts_length_le 10 t
  obtain ⟨L, hL⟩ : ∃ z, parts 10 t = z := ⟨_, rfl⟩
  rw [hL] at HR HPL HEL hn1 hn2
  obtain ⟨R, hR⟩ : ∃ z, outP (parseP vN t) = z := ⟨_, rfl⟩
  rw [hR] at HR ⊢
  clear hL hR
  obtain ⟨R1, R2⟩ := R
  go_enter Tryz.func27, Tryz.ntmps27
  go_wp2_with fail
  refine HPL.out.mono ?_; rintro e w1 ⟨A, c, rfl, rdL, hcl, b1⟩
  have X1 := Lib.hid (rdC_of_rd rdL)
  have LA := Lib.hid (rd_low rdL hn1)
  have B1 := Lib.hid b1
  clear rdL b1 HPL
  have P0 : Hid (PM w (w1.alloc (.cells #[i64 (-1), i64 (-1), enS []] 129)) A L w1.heap.size (-1) (-1) []) := Lib.hid ⟨X1.out.below (below_new w1 (.cells #[i64 (-1), i64 (-1), enS []] 129)), blk_new w1 (.cells #[i64 (-1), i64 (-1), enS []] 129), B1.out.size, LA.out, B1.out.tr (below_new w1 (.cells #[i64 (-1), i64 (-1), enS []] 129))⟩
  clear X1 B1 LA
  go_upto_block 0 with fail
  generalize w1.alloc (.cells #[i64 (-1), i64 (-1), enS []] 129) = w2 at *
  generalize w1.heap.size = b at *
  go_wp2_with fail
  go_loopg [6, 7, 8, 9, 10] L.length (fun gg lv sv av uv iv wr => ∃ (i : Nat) (st : Sx) (bk n : Int) (bn : List UInt8) (last size art sum : Int), i + 1 ≤ L.length ∧ L.length - i ≤ gg ∧ iv = i64 i ∧ lv = i64 last ∧ sv = i64 size ∧ av = i64 art ∧ uv = i64 sum ∧ Hid (PM w wr A L b bk n bn) ∧ Hid (Mo st i bk bn last size art sum) ∧ Hid (mL vN st i (L.drop i) = (R1, R2)))
  case atStart => exact ⟨0, st0, -1, -1, [], -1, -1, 0, 0, by omega, by omega, rfl, rfl, rfl, rfl, rfl, P0, Lib.hid Mo.start, HR⟩
  case round =>
    obtain ⟨i, st, bk, n, bn, last, size, art, sum, hi, hgi, rfl, rfl, rfl, rfl, rfl, K, M, HM⟩ := hrel
    obtain ⟨s, hs⟩ : ∃ s, L[i]? = some s := ⟨_, List.getElem?_eq_getElem (by omega)⟩
    have hdr : L.drop i = s :: L.drop (i + 1) := List.drop_eq_getElem?_toList_append ▸ (by rw [hs]; rfl)
    rw [hdr] at HM
    clear hdr
    obtain ⟨b3, o3, hA, hcs⟩ := RdC.cell K.out.l (j := i) (v := enS s) (by rw [List.getElem?_map, hs]; rfl)
    cases hA
    have hart := M.out.fartb
    have hsum := M.out.fsumb
    have hib : (i : Int) ≤ 1000001 := by omega
    have hart1 : art ≤ 1000001000000 := by omega
    have hsum1 : sum ≤ 1000001000000 := by omega
    have hart0 := hart.1
    have hsum0 := hsum.1
    clear hart hsum
    by_cases hend : i + 1 = L.length
    case pos =>
      have hLl : (L.length : Int) = i + 1 := by omega
      have bi1 : decide ((i : Int) < (L.length : Int) - 1) = false := decide_eq_false (by omega)
      have bi2 : ((i : Int) == (L.length : Int) - 1) = true := by simp; omega
      have hdn : L.drop (i + 1) = [] := List.drop_eq_nil_of_le (by omega)
      rw [hdn] at HM
      by_cases hs0 : s = []
      case pos =>
        subst hs0
        have V : Hid (mEnd st i = (R1, R2)) := HM
        have ha := M.out.fart
        have hu := M.out.fsum
        by_cases e1 : sum = art
        case neg =>
          have V2 : Hid (R1 = i ∧ R2 = 3) := Lib.hid (by
            have h := V.out
            unfold mEnd at h
            rw [if_pos (by rw [← ha, ← hu]; exact e1)] at h
            cases h; exact ⟨rfl, rfl⟩)
          have b1 : (art != sum) = true := by simp; exact fun e => e1 e.symm
          as_aux_lemma =>
            clear V HM ha hu M e1
            go_wp2_with fail
            go_ret2
            rw [V2.out.1, V2.out.2]
            exact ⟨rfl, K.out.bel⟩
        have b1 : (art != sum) = false := by simp [e1]
        by_cases e2 : 1000000 < art
        case pos =>
          have V2 : Hid (R1 = i ∧ R2 = 9) := Lib.hid (by
            have h := V.out
            unfold mEnd at h
            rw [if_neg (by rw [← ha, ← hu]; exact fun q => q e1), if_pos (by rw [← ha]; exact e2)] at h
            cases h; exact ⟨rfl, rfl⟩)
          as_aux_lemma =>
            clear V HM ha hu M e1
            go_wp2_with fail
            go_ret2
            rw [V2.out.1, V2.out.2]
            exact ⟨rfl, K.out.bel⟩
        have V2 : Hid (R1 = 0 ∧ R2 = 0) := Lib.hid (by
          have h := V.out
          unfold mEnd at h
          rw [if_neg (by rw [← ha, ← hu]; exact fun q => q e1), if_neg (by rw [← ha]; exact e2)] at h
          cases h; exact ⟨rfl, rfl⟩)
        as_aux_lemma =>
          clear V HM ha hu M e1
          go_wp2_with fail
          go_ret2
          rw [V2.out.1, V2.out.2]
          exact ⟨rfl, K.out.bel⟩
      have V2 : Hid (R1 = i + 1 ∧ R2 = 4) := Lib.hid (by
        have h : (if s = [] then mEnd st i else (i + 1, 4)) = (R1, R2) := HM.out
        rw [if_neg hs0] at h
        cases h; exact ⟨rfl, rfl⟩)
      have bs : (s != []) = true := by simpa using hs0
      have bs2 : s.isEmpty = false := by simpa using hs0
      as_aux_lemma =>
        clear HM M hs0 hdn
        go_wp2_with fail
        go_ret2
        rw [V2.out.1, V2.out.2]
        exact ⟨by go_num, K.out.bel⟩
    have hne : L.drop (i + 1) ≠ [] := fun e => by
      have := congrArg List.length e
      simp at this; omega
    have hsl := HEL.out s (List.mem_of_getElem? hs)
    have hs32 := parts_le 32 s
    have HS : Hid (∀ u, Calls Tryz.prog 72 #[enS s, .int .u8 32] u (Gives u (parts 32 s))) := Lib.hid (fun u => refParts_any s 32 u (by omega))
    have HF := Lib.hid (fun (h : wordsP (parts 32 s) = none) => (mL_err (st := st) (i := i) hne (rowP_no (v := vN) h)).symm.trans HM.out)
    have HNm := Lib.hid (fun (x : Rw) (h : wordsP (parts 32 s) = some x) (h1 : 1 ≤ x.sort ∧ x.sort ≤ 3) (hv : vN x.sort x.name = false) => (mL_err (st := st) (i := i) hne (rowP_name h h1 hv)).symm.trans HM.out)
    have HRg := Lib.hid (fun (x : Rw) (h : wordsP (parts 32 s) = some x) (hv : 1 ≤ x.sort → x.sort ≤ 3 → vN x.sort x.name = true) (hr : RngBad x) => (mL_err (st := st) (i := i) hne (rowP_rng h hv hr)).symm.trans HM.out)
    have HSq := Lib.hid (fun (x : Rw) (h : wordsP (parts 32 s) = some x) (hv : 1 ≤ x.sort → x.sort ≤ 3 → vN x.sort x.name = true) (hr : ¬ RngBad x) (hf : ¬ follows x st.prev st.day = true) => (mL_seq (i := i) hne (rowP_fine h hv hr) hf).symm.trans HM.out)
    have HGo := Lib.hid (fun (x : Rw) (h : wordsP (parts 32 s) = some x) (hv : 1 ≤ x.sort → x.sort ≤ 3 → vN x.sort x.name = true) (hr : ¬ RngBad x) (hf : follows x st.prev st.day = true) => show mL vN (putX st x) (i + 1) (L.drop (i + 1)) = (R1, R2) ∧ (∃ T, InvX (putX st x) T) from ⟨(mL_go (i := i) hne (rowP_fine h hv hr) hf).symm.trans HM.out, inv_go M.out.inv (rowP_fine h hv hr) hf⟩)
    have hwn := parts_ne_nil 32 s
    clear HM hne hs
    obtain ⟨ws, hws⟩ : ∃ z, parts 32 s = z := ⟨_, rfl⟩
    rw [hws] at HS HF HNm HRg HSq HGo hwn hs32
    clear hws
    obtain ⟨a0, wr0, rfl⟩ : ∃ a r, ws = a :: r := List.exists_cons_of_ne_nil hwn
    clear hwn
    have HWL : Hid (∀ x ∈ a0 :: wr0, x.length ≤ s.length) := Lib.hid hs32
    clear hs32
    have hiL : (i : Int) < (L.length : Int) - 1 := by omega
    have bi1 : decide ((i : Int) < (L.length : Int) - 1) = true := decide_eq_true hiL
    have bi2 : ((i : Int) == (L.length : Int) - 1) = false := by simp; omega
    go_wp2_with fail
    refine (HS.out _).mono ?_; rintro e w4 ⟨Aw, cw, rfl, rdW, hcw, b4⟩
    have K4 := Lib.hid (K.out.below b4)
    have W4 := Lib.hid (rdC_of_rd rdW)
    clear rdW b4 K HS
    obtain ⟨bw, ow, hAw, hcw0⟩ := RdC.cell W4.out (j := 0) (v := enS a0) rfl
    cases hAw
    clear hcs
    have cw0 : w4.cell? ⟨bw, ow, none⟩ = some (enS a0) := hcw0
    go_wp2_with fail
    refine (kind_any a0 _).mono ?_; rintro e w5 ⟨rfl, b5⟩
    have K5 := Lib.hid (K4.out.below b5)
    have W5 := Lib.hid (W4.out.below b5)
    clear b5 K4 W4 hcw0 cw0
    have hkb := kU_bnd 5 a0 (by omega)
    rw [kU_5] at hkb
    obtain ⟨k, hk⟩ : ∃ z, kindW a0 = z := ⟨_, rfl⟩
    rw [hk] at hkb ⊢
    have HKD := Lib.hid hk
    clear hk
    obtain ⟨hk0, hk4⟩ := hkb
    by_cases kneg : k < 0
    case pos =>
      have V := Lib.hid (HF.out (wordsP_bad (.inl (by (show kindW a0 < 0); rw [HKD.out]; exact kneg))))
      as_aux_lemma =>
        clear HF HNm HRg HSq HGo HKD M
        go_wp2_with fail
        go_ret2
        have h := V.out; cases h
        exact ⟨by go_num, K5.out.bel⟩
    by_cases kz : k = 4
    · subst kz
      by_cases hlen : wr0.length = 2
      case neg =>
        have V := Lib.hid (HF.out (wordsP_bad (.inr (by (show ((a0 :: wr0).length : Int) ≠ if kindW a0 = 4 then 3 else 4); rw [HKD.out, if_pos rfl, List.length_cons]; omega))))
        have bl : (((wr0.length : Int) + 1) != 3) = true := by simp; omega
        as_aux_lemma =>
          clear HF HNm HRg HSq HGo HKD M
          go_wp2_with fail
          go_ret2
          have h := V.out; cases h
          exact ⟨by go_num, K5.out.bel⟩
      obtain ⟨a1, a2, rfl⟩ : ∃ a b, wr0 = [a, b] := by
        match wr0, hlen with
        | [a, b], _ => exact ⟨a, b, rfl⟩
      clear hlen
      obtain ⟨b0', o0', hA0, ca0⟩ := RdC.cell W5.out (j := 0) (v := enS a0) rfl
      cases hA0
      obtain ⟨b1', o1', hA1, ca1⟩ := RdC.cell W5.out (j := 1) (v := enS a1) rfl
      cases hA1
      obtain ⟨b2', o2', hA2, ca2⟩ := RdC.cell W5.out (j := 2) (v := enS a2) rfl
      cases hA2
      have HCa1 := Lib.hid (fun u => decimal_any a1 u (by have := HWL.out a1 (by simp); omega))
      obtain ⟨na1, hna1⟩ : ∃ q, numT a1 = q := ⟨_, rfl⟩
      obtain ⟨oka1, hoa1⟩ : ∃ q, okW a1 = q := ⟨_, rfl⟩
      have NBa1 := Lib.hid (numT_bnd (s := a1))
      rw [hna1, hoa1] at HCa1 NBa1
      have HNa1 := Lib.hid hna1
      have HOa1 := Lib.hid hoa1
      clear hna1 hoa1
      have HCa2 := Lib.hid (fun u => decimal_any a2 u (by have := HWL.out a2 (by simp); omega))
      obtain ⟨na2, hna2⟩ : ∃ q, numT a2 = q := ⟨_, rfl⟩
      obtain ⟨oka2, hoa2⟩ : ∃ q, okW a2 = q := ⟨_, rfl⟩
      have NBa2 := Lib.hid (numT_bnd (s := a2))
      rw [hna2, hoa2] at HCa2 NBa2
      have HNa2 := Lib.hid hna2
      have HOa2 := Lib.hid hoa2
      clear hna2 hoa2
      go_wp2_with fail
      refine (HCa1.out _).mono ?_; rintro e w9 ⟨rfl, hw9⟩
      have hw9 := hw9.symm
      subst hw9
      go_wp2_with fail
      refine (HCa2.out _).mono ?_; rintro e w9 ⟨rfl, hw9⟩
      have hw9 := hw9.symm
      subst hw9
      cases oka1 with
      | false =>
        have V := Lib.hid (HF.out (wordsP_size_no HKD.out ⟨a1, by simp, HOa1.out⟩))
        as_aux_lemma =>
          clear HF HNm HRg HSq HGo HKD M
          go_wp2_with fail
          go_ret2
          have h := V.out; cases h
          exact ⟨by go_num, K5.out.bel⟩
      | true =>
        cases oka2 with
        | false =>
          have V := Lib.hid (HF.out (wordsP_size_no HKD.out ⟨a2, by simp, HOa2.out⟩))
          as_aux_lemma =>
            clear HF HNm HRg HSq HGo HKD M
            go_wp2_with fail
            go_ret2
            have h := V.out; cases h
            exact ⟨by go_num, K5.out.bel⟩
        | true =>
          obtain ⟨la1, ua1⟩ := NBa1.out rfl
          obtain ⟨la2, ua2⟩ := NBa2.out rfl
          have HX := Lib.hid (show wordsP [a0, a1, a2] = some ⟨4, [], na1, (na2, 0)⟩ by have := wordsP_size HKD.out HOa1.out HOa2.out; rw [HNa1.out, HNa2.out] at this; exact this)
          clear HCa1 NBa1 HNa1 HOa1 HCa2 NBa2 HNa2 HOa2
          have HVV : Hid (1 ≤ (4 : Int) → (4 : Int) ≤ 3 → vN 4 [] = true) := Lib.hid (fun h1 h2 => by omega)
          by_cases r0 : 17 < na1
          case pos =>
            have V := Lib.hid (HRg.out _ HX.out HVV.out (.inr (.inl ⟨rfl, r0⟩)))
            as_aux_lemma =>
              clear HF HNm HRg HSq HGo HKD M
              go_wp2_with fail
              go_ret2
              have h := V.out; cases h
              exact ⟨by go_num, K5.out.bel⟩
          by_cases r1 : na2 < 1
          case pos =>
            have V := Lib.hid (HRg.out _ HX.out HVV.out (.inr (.inr (.inl r1))))
            as_aux_lemma =>
              clear HF HNm HRg HSq HGo HKD M
              go_wp2_with fail
              go_ret2
              have h := V.out; cases h
              exact ⟨by go_num, K5.out.bel⟩
          by_cases r2 : 1000000 < na2
          case pos =>
            have V := Lib.hid (HRg.out _ HX.out HVV.out (.inr (.inr (.inr (.inl r2)))))
            as_aux_lemma =>
              clear HF HNm HRg HSq HGo HKD M
              go_wp2_with fail
              go_ret2
              have h := V.out; cases h
              exact ⟨by go_num, K5.out.bel⟩
          have HNR : Hid (¬ RngBad ⟨4, [], na1, (na2, 0)⟩) := Lib.hid (by (show ¬ RngBad ⟨4, [], na1, (na2, 0)⟩); unfold RngBad; simp only; omega)
          have HSQ := Lib.hid (M.out.seq_size (x := ⟨4, [], na1, (na2, 0)⟩) rfl (by simp only; omega))
          by_cases q1 : na1 ≤ size
          case pos =>
            have V := Lib.hid (HSq.out _ HX.out HVV.out HNR.out (fun hf => (HSQ.out.1 hf) q1))
            as_aux_lemma =>
              clear HF HNm HRg HSq HGo HKD M HSQ
              go_wp2_with fail
              go_ret2
              have h := V.out; cases h
              exact ⟨by go_num, K5.out.bel⟩
          have HFo := Lib.hid (HSQ.out.2 q1)
          have HG := Lib.hid (HGo.out _ HX.out HVV.out HNR.out HFo.out)
          have M2 := Lib.hid (M.out.put_size (x := ⟨4, [], na1, (na2, 0)⟩) a1 rfl (by simp only; omega) (by simp only; omega) (by simp only; omega) (by simp only; omega) HFo.out HG.out.2)
          as_aux_lemma =>
            clear HF HNm HRg HSq HGo HKD M HSQ HX HVV HNR HFo
            go_wp2_with fail
            refine Flow.wp_region_segs Flow.Later Flow.Later.refl Flow.Later.trans [] [0, 1, 2, 3, 4, 5, 6, 7, 8, 9, 10, 11, 12, 13, 14, 15, 16, 17, 18, 19, 20, 21, 22, 23, 24, 25, 26, 27, 28, 29, 30, 31, 32, 33, 34] (by kernel_rfl) (by kernel_rfl) ?_
            have K6 := Lib.hid (K5.out.below (Below.refl _ _).drew)
            have W6 := Lib.hid (W5.out.below (Below.refl _ _).drew)
            clear K5 W5
            generalize World.drew _ = wd at *
            have K5 := K6
            have W5 := W6
            clear K6 W6
            haveI nonE := Flow.cls_nonempty wd
            rw [Flow.wpSegs_nil]
            simp only [Flow.pick, List.getElem?_toArray, List.getElem?_cons_succ, List.getElem?_cons_zero]
            repeat go_big_quiet_step (fail)
            refine wpQuiet_nil ?_
            clear nonE
            obtain ⟨b9, o9, hA9, ca9⟩ := RdC.cell W5.out (j := 1) (v := enS a1) rfl
            cases hA9
            have fb0 := blk_free K5.out.kb 0
            have fb1 := blk_free K5.out.kb 1
            have fb2 := blk_free K5.out.kb 2
            have e0 := blk_cell K5.out.kb 0
            have e1 := blk_cell K5.out.kb 1
            have e2 := blk_cell K5.out.kb 2
            have hlb := blk_lt K5.out.kb
            have K8 := Lib.hid (K5.out.put 4 na1 a1)
            go_wp2_with fail
            go_roundg (L.length - (i + 1))
            case measure => omega
            case rel => exact ⟨i + 1, _, _, _, _, _, _, _, _, by omega, by omega, by go_num, rfl, rfl, rfl, rfl, K8, M2, Lib.hid HG.out.1⟩
    have b4 : (k == 4) = false := by simpa using kz
    by_cases hlen : wr0.length = 3
    case neg =>
      have V := Lib.hid (HF.out (wordsP_bad (.inr (by (show ((a0 :: wr0).length : Int) ≠ if kindW a0 = 4 then 3 else 4); rw [HKD.out, if_neg kz, List.length_cons]; omega))))
      have bl : (((wr0.length : Int) + 1) != 4) = true := by simp; omega
      have kl : k < 4 := by omega
      as_aux_lemma =>
        clear HF HNm HRg HSq HGo HKD M
        go_wp2_with fail
        go_ret2
        have h := V.out; cases h
        exact ⟨by go_num, K5.out.bel⟩
    obtain ⟨a1, a2, a3, rfl⟩ : ∃ a b c, wr0 = [a, b, c] := by
      match wr0, hlen with
      | [a, b, c], _ => exact ⟨a, b, c, rfl⟩
    clear hlen
    by_cases k0 : k = 0
    · subst k0
      clear kz b4
      obtain ⟨b0', o0', hA0, ca0⟩ := RdC.cell W5.out (j := 0) (v := enS a0) rfl
      cases hA0
      obtain ⟨b1', o1', hA1, ca1⟩ := RdC.cell W5.out (j := 1) (v := enS a1) rfl
      cases hA1
      obtain ⟨b2', o2', hA2, ca2⟩ := RdC.cell W5.out (j := 2) (v := enS a2) rfl
      cases hA2
      obtain ⟨b3', o3', hA3, ca3⟩ := RdC.cell W5.out (j := 3) (v := enS a3) rfl
      cases hA3
      have HCa1 := Lib.hid (fun u => decimal_any a1 u (by have := HWL.out a1 (by simp); omega))
      obtain ⟨na1, hna1⟩ : ∃ q, numT a1 = q := ⟨_, rfl⟩
      obtain ⟨oka1, hoa1⟩ : ∃ q, okW a1 = q := ⟨_, rfl⟩
      have NBa1 := Lib.hid (numT_bnd (s := a1))
      rw [hna1, hoa1] at HCa1 NBa1
      have HNa1 := Lib.hid hna1
      have HOa1 := Lib.hid hoa1
      clear hna1 hoa1
      have HCa2 := Lib.hid (fun u => decimal_any a2 u (by have := HWL.out a2 (by simp); omega))
      obtain ⟨na2, hna2⟩ : ∃ q, numT a2 = q := ⟨_, rfl⟩
      obtain ⟨oka2, hoa2⟩ : ∃ q, okW a2 = q := ⟨_, rfl⟩
      have NBa2 := Lib.hid (numT_bnd (s := a2))
      rw [hna2, hoa2] at HCa2 NBa2
      have HNa2 := Lib.hid hna2
      have HOa2 := Lib.hid hoa2
      clear hna2 hoa2
      have HCa3 := Lib.hid (fun u => decimal_any a3 u (by have := HWL.out a3 (by simp); omega))
      obtain ⟨na3, hna3⟩ : ∃ q, numT a3 = q := ⟨_, rfl⟩
      obtain ⟨oka3, hoa3⟩ : ∃ q, okW a3 = q := ⟨_, rfl⟩
      have NBa3 := Lib.hid (numT_bnd (s := a3))
      rw [hna3, hoa3] at HCa3 NBa3
      have HNa3 := Lib.hid hna3
      have HOa3 := Lib.hid hoa3
      clear hna3 hoa3
      go_wp2_with fail
      refine (HCa1.out _).mono ?_; rintro e w9 ⟨rfl, hw9⟩
      have hw9 := hw9.symm
      subst hw9
      go_wp2_with fail
      refine (HCa2.out _).mono ?_; rintro e w9 ⟨rfl, hw9⟩
      have hw9 := hw9.symm
      subst hw9
      go_wp2_with fail
      refine (HCa3.out _).mono ?_; rintro e w9 ⟨rfl, hw9⟩
      have hw9 := hw9.symm
      subst hw9
      cases oka1 with
      | false =>
        have V := Lib.hid (HF.out (wordsP_day_no HKD.out ⟨a1, by simp, HOa1.out⟩))
        as_aux_lemma =>
          clear HF HNm HRg HSq HGo HKD M
          go_wp2_with fail
          go_ret2
          have h := V.out; cases h
          exact ⟨by go_num, K5.out.bel⟩
      | true =>
        cases oka2 with
        | false =>
          have V := Lib.hid (HF.out (wordsP_day_no HKD.out ⟨a2, by simp, HOa2.out⟩))
          as_aux_lemma =>
            clear HF HNm HRg HSq HGo HKD M
            go_wp2_with fail
            go_ret2
            have h := V.out; cases h
            exact ⟨by go_num, K5.out.bel⟩
        | true =>
          cases oka3 with
          | false =>
            have V := Lib.hid (HF.out (wordsP_day_no HKD.out ⟨a3, by simp, HOa3.out⟩))
            as_aux_lemma =>
              clear HF HNm HRg HSq HGo HKD M
              go_wp2_with fail
              go_ret2
              have h := V.out; cases h
              exact ⟨by go_num, K5.out.bel⟩
          | true =>
            obtain ⟨la1, ua1⟩ := NBa1.out rfl
            obtain ⟨la2, ua2⟩ := NBa2.out rfl
            obtain ⟨la3, ua3⟩ := NBa3.out rfl
            have HX := Lib.hid (show wordsP [a0, a1, a2, a3] = some ⟨0, [], na1, (na2, na3)⟩ by have := wordsP_day HKD.out HOa1.out HOa2.out HOa3.out; rw [HNa1.out, HNa2.out, HNa3.out] at this; exact this)
            clear HCa1 NBa1 HNa1 HOa1 HCa2 NBa2 HNa2 HOa2 HCa3 NBa3 HNa3 HOa3
            have HVV : Hid (1 ≤ (0 : Int) → (0 : Int) ≤ 3 → vN 0 [] = true) := Lib.hid (fun h1 h2 => by omega)
            by_cases r0 : 73048 < na1
            case pos =>
              have V := Lib.hid (HRg.out _ HX.out HVV.out (.inl ⟨rfl, r0⟩))
              as_aux_lemma =>
                clear HF HNm HRg HSq HGo HKD M
                go_wp2_with fail
                go_ret2
                have h := V.out; cases h
                exact ⟨by go_num, K5.out.bel⟩
            by_cases r1 : na2 < 1
            case pos =>
              have V := Lib.hid (HRg.out _ HX.out HVV.out (.inr (.inr (.inl r1))))
              as_aux_lemma =>
                clear HF HNm HRg HSq HGo HKD M
                go_wp2_with fail
                go_ret2
                have h := V.out; cases h
                exact ⟨by go_num, K5.out.bel⟩
            by_cases r2 : 1000000 < na2
            case pos =>
              have V := Lib.hid (HRg.out _ HX.out HVV.out (.inr (.inr (.inr (.inl r2)))))
              as_aux_lemma =>
                clear HF HNm HRg HSq HGo HKD M
                go_wp2_with fail
                go_ret2
                have h := V.out; cases h
                exact ⟨by go_num, K5.out.bel⟩
            by_cases r3 : na2 * 65536 < na3
            case pos =>
              have V := Lib.hid (HRg.out _ HX.out HVV.out (.inr (.inr (.inr (.inr r3)))))
              as_aux_lemma =>
                clear HF HNm HRg HSq HGo HKD M
                go_wp2_with fail
                go_ret2
                have h := V.out; cases h
                exact ⟨by go_num, K5.out.bel⟩
            have HNR : Hid (¬ RngBad ⟨0, [], na1, (na2, na3)⟩) := Lib.hid (by (show ¬ RngBad ⟨0, [], na1, (na2, na3)⟩); unfold RngBad; simp only; omega)
            have HSQ := Lib.hid (M.out.seq_day (x := ⟨0, [], na1, (na2, na3)⟩) rfl (by simp only; omega))
            by_cases q1 : 0 ≤ size
            case pos =>
              have V := Lib.hid (HSq.out _ HX.out HVV.out HNR.out (fun hf => (HSQ.out.1 hf).1 q1))
              as_aux_lemma =>
                clear HF HNm HRg HSq HGo HKD M HSQ
                go_wp2_with fail
                go_ret2
                have h := V.out; cases h
                exact ⟨by go_num, K5.out.bel⟩
            by_cases q2 : na1 ≤ last
            case pos =>
              have V := Lib.hid (HSq.out _ HX.out HVV.out HNR.out (fun hf => (HSQ.out.1 hf).2 q2))
              as_aux_lemma =>
                clear HF HNm HRg HSq HGo HKD M HSQ
                go_wp2_with fail
                go_ret2
                have h := V.out; cases h
                exact ⟨by go_num, K5.out.bel⟩
            have HFo := Lib.hid (HSQ.out.2 ⟨q1, q2⟩)
            have HG := Lib.hid (HGo.out _ HX.out HVV.out HNR.out HFo.out)
            have M2 := Lib.hid (M.out.put_day (x := ⟨0, [], na1, (na2, na3)⟩) a1 rfl (by simp only; omega) (by simp only; omega) (by simp only; omega) HFo.out HG.out.2)
            as_aux_lemma =>
              clear HF HNm HRg HSq HGo HKD M HSQ HX HVV HNR HFo
              go_wp2_with fail
              refine Flow.wp_region_segs Flow.Later Flow.Later.refl Flow.Later.trans [] [0, 1, 2, 3, 4, 5, 6, 7, 8, 9, 10, 11, 12, 13, 14, 15, 16, 17, 18, 19, 20, 21, 22, 23, 24, 25, 26, 27, 28, 29, 30, 31, 32, 33, 34] (by kernel_rfl) (by kernel_rfl) ?_
              have K6 := Lib.hid (K5.out.below (Below.refl _ _).drew)
              have W6 := Lib.hid (W5.out.below (Below.refl _ _).drew)
              clear K5 W5
              generalize World.drew _ = wd at *
              have K5 := K6
              have W5 := W6
              clear K6 W6
              haveI nonE := Flow.cls_nonempty wd
              rw [Flow.wpSegs_nil]
              simp only [Flow.pick, List.getElem?_toArray, List.getElem?_cons_succ, List.getElem?_cons_zero]
              repeat go_big_quiet_step (fail)
              refine wpQuiet_nil ?_
              clear nonE
              obtain ⟨b9, o9, hA9, ca9⟩ := RdC.cell W5.out (j := 1) (v := enS a1) rfl
              cases hA9
              have fb0 := blk_free K5.out.kb 0
              have fb1 := blk_free K5.out.kb 1
              have fb2 := blk_free K5.out.kb 2
              have e0 := blk_cell K5.out.kb 0
              have e1 := blk_cell K5.out.kb 1
              have e2 := blk_cell K5.out.kb 2
              have hlb := blk_lt K5.out.kb
              have K8 := Lib.hid (K5.out.put 0 na1 a1)
              go_wp2_with fail
              go_roundg (L.length - (i + 1))
              case measure => omega
              case rel => exact ⟨i + 1, _, _, _, _, _, _, _, _, by omega, by omega, by go_num, rfl, rfl, rfl, rfl, K8, M2, Lib.hid HG.out.1⟩
    have hk1 : 1 ≤ k := by omega
    have hk3 : k ≤ 3 := by omega
    have b0 : (k == 0) = false := by simpa using k0
    have kl : k < 4 := by omega
    obtain ⟨b0', o0', hA0, ca0⟩ := RdC.cell W5.out (j := 0) (v := enS a0) rfl
    cases hA0
    obtain ⟨b1', o1', hA1, ca1⟩ := RdC.cell W5.out (j := 1) (v := enS a1) rfl
    cases hA1
    obtain ⟨b2', o2', hA2, ca2⟩ := RdC.cell W5.out (j := 2) (v := enS a2) rfl
    cases hA2
    obtain ⟨b3', o3', hA3, ca3⟩ := RdC.cell W5.out (j := 3) (v := enS a3) rfl
    cases hA3
    have HCa2 := Lib.hid (fun u => decimal_any a2 u (by have := HWL.out a2 (by simp); omega))
    obtain ⟨na2, hna2⟩ : ∃ q, numT a2 = q := ⟨_, rfl⟩
    obtain ⟨oka2, hoa2⟩ : ∃ q, okW a2 = q := ⟨_, rfl⟩
    have NBa2 := Lib.hid (numT_bnd (s := a2))
    rw [hna2, hoa2] at HCa2 NBa2
    have HNa2 := Lib.hid hna2
    have HOa2 := Lib.hid hoa2
    clear hna2 hoa2
    have HCa3 := Lib.hid (fun u => decimal_any a3 u (by have := HWL.out a3 (by simp); omega))
    obtain ⟨na3, hna3⟩ : ∃ q, numT a3 = q := ⟨_, rfl⟩
    obtain ⟨oka3, hoa3⟩ : ∃ q, okW a3 = q := ⟨_, rfl⟩
    have NBa3 := Lib.hid (numT_bnd (s := a3))
    rw [hna3, hoa3] at HCa3 NBa3
    have HNa3 := Lib.hid hna3
    have HOa3 := Lib.hid hoa3
    clear hna3 hoa3
    go_wp2_with fail
    refine (HCa2.out _).mono ?_; rintro e w9 ⟨rfl, hw9⟩
    have hw9 := hw9.symm
    subst hw9
    go_wp2_with fail
    refine (HCa3.out _).mono ?_; rintro e w9 ⟨rfl, hw9⟩
    have hw9 := hw9.symm
    subst hw9
    cases oka2 with
    | false =>
      have V := Lib.hid (HF.out (wordsP_name_no (a1 := a1) HKD.out hk1 hk3 ⟨a2, by simp, HOa2.out⟩))
      as_aux_lemma =>
        clear HF HNm HRg HSq HGo HKD M
        go_wp2_with fail
        go_ret2
        have h := V.out; cases h
        exact ⟨by go_num, K5.out.bel⟩
    | true =>
      cases oka3 with
      | false =>
        have V := Lib.hid (HF.out (wordsP_name_no (a1 := a1) HKD.out hk1 hk3 ⟨a3, by simp, HOa3.out⟩))
        as_aux_lemma =>
          clear HF HNm HRg HSq HGo HKD M
          go_wp2_with fail
          go_ret2
          have h := V.out; cases h
          exact ⟨by go_num, K5.out.bel⟩
      | true =>
        obtain ⟨la2, ua2⟩ := NBa2.out rfl
        obtain ⟨la3, ua3⟩ := NBa3.out rfl
        have HX := Lib.hid (show wordsP [a0, a1, a2, a3] = some ⟨k, a1, 0, (na2, na3)⟩ by have := wordsP_name (a1 := a1) HKD.out hk1 hk3 HOa2.out HOa3.out; rw [HNa2.out, HNa3.out] at this; exact this)
        clear HCa2 NBa2 HNa2 HOa2 HCa3 NBa3 HNa3 HOa3
        have HV := Lib.hid (fun u => mValid_any k a1 u hk1 hk3 (by have := HWL.out a1 (by simp); omega))
        obtain ⟨vk, hvk⟩ : ∃ q, vN k a1 = q := ⟨_, rfl⟩
        rw [hvk] at HV
        have HVK := Lib.hid hvk
        clear hvk
        go_wp2_with fail
        refine (HV.out _).mono ?_; rintro e w6 ⟨rfl, b6⟩
        have K6 := Lib.hid (K5.out.below b6)
        have W6 := Lib.hid (W5.out.below b6)
        clear b6 K5 W5 HV ca0 ca1 ca2 ca3
        have K5 := K6
        have W5 := W6
        clear K6 W6
        have cb0 := blk_cell K5.out.kb 0
        have cb2 := blk_cell K5.out.kb 2
        obtain ⟨b0', o0', hA0, ca0⟩ := RdC.cell W5.out (j := 0) (v := enS a0) rfl
        cases hA0
        obtain ⟨b1', o1', hA1, ca1⟩ := RdC.cell W5.out (j := 1) (v := enS a1) rfl
        cases hA1
        obtain ⟨b2', o2', hA2, ca2⟩ := RdC.cell W5.out (j := 2) (v := enS a2) rfl
        cases hA2
        obtain ⟨b3', o3', hA3, ca3⟩ := RdC.cell W5.out (j := 3) (v := enS a3) rfl
        cases hA3
        cases vk with
        | false =>
          have V := Lib.hid (HNm.out _ HX.out ⟨hk1, hk3⟩ HVK.out)
          as_aux_lemma =>
            clear HF HNm HRg HSq HGo HKD M
            go_wp2_with fail
            go_ret2
            have h := V.out; cases h
            exact ⟨by go_num, K5.out.bel⟩
        | true =>
          have HVV : Hid (1 ≤ k → k ≤ 3 → vN k a1 = true) := Lib.hid (fun _ _ => HVK.out)
          by_cases r1 : na2 < 1
          case pos =>
            have V := Lib.hid (HRg.out _ HX.out HVV.out (.inr (.inr (.inl r1))))
            as_aux_lemma =>
              clear HF HNm HRg HSq HGo HKD M
              go_wp2_with fail
              go_ret2
              have h := V.out; cases h
              exact ⟨by go_num, K5.out.bel⟩
          by_cases r2 : 1000000 < na2
          case pos =>
            have V := Lib.hid (HRg.out _ HX.out HVV.out (.inr (.inr (.inr (.inl r2)))))
            as_aux_lemma =>
              clear HF HNm HRg HSq HGo HKD M
              go_wp2_with fail
              go_ret2
              have h := V.out; cases h
              exact ⟨by go_num, K5.out.bel⟩
          by_cases r3 : na2 * 65536 < na3
          case pos =>
            have V := Lib.hid (HRg.out _ HX.out HVV.out (.inr (.inr (.inr (.inr r3)))))
            as_aux_lemma =>
              clear HF HNm HRg HSq HGo HKD M
              go_wp2_with fail
              go_ret2
              have h := V.out; cases h
              exact ⟨by go_num, K5.out.bel⟩
          have HNR : Hid (¬ RngBad ⟨k, a1, 0, (na2, na3)⟩) := Lib.hid (by (show ¬ RngBad ⟨k, a1, 0, (na2, na3)⟩); unfold RngBad; simp only; omega)
          have HSQ := Lib.hid (M.out.seq_name (x := ⟨k, a1, 0, (na2, na3)⟩) hk1 hk3)
          clear ca0 ca1 ca2 ca3
          by_cases q1 : last < 0
          case pos =>
            have V := Lib.hid (HSq.out _ HX.out HVV.out HNR.out (fun hf => (HSQ.out.1 hf).1 q1))
            as_aux_lemma =>
              clear HF HNm HRg HSq HGo HKD M HSQ
              go_wp2_with fail
              refine Flow.wp_region_segs Flow.Later Flow.Later.refl Flow.Later.trans [] [0, 1, 2, 3, 4, 5, 6, 7, 8, 9, 10, 11, 12, 13, 14, 15, 16, 17, 18, 19, 20, 21, 22, 23, 24, 25, 26, 27, 28, 29, 30, 31, 32, 33, 34] (by kernel_rfl) (by kernel_rfl) ?_
              have K6 := Lib.hid (K5.out.below (Below.refl _ _).drew)
              have W6 := Lib.hid (W5.out.below (Below.refl _ _).drew)
              clear K5 W5
              generalize World.drew _ = wd at *
              have K5 := K6
              have W5 := W6
              clear K6 W6
              have p0 : ∀ t : Flow.Cls (Flow.Later wd), t.val.cell? ⟨b, 0, none⟩ = some (i64 _) := fun t => Flow.cls_cell (blk_cell K5.out.kb 0) t
              have p2 : ∀ t : Flow.Cls (Flow.Later wd), t.val.cell? ⟨b, 2, none⟩ = some (enS bn) := fun t => Flow.cls_cell (blk_cell K5.out.kb 2) t
              obtain ⟨b9, o9, hA9, ca9⟩ := RdC.cell W5.out (j := 1) (v := enS a1) rfl
              cases hA9
              have p1 : ∀ t : Flow.Cls (Flow.Later wd), t.val.cell? _ = some (enS a1) := fun t => Flow.cls_cell ca9 t
              haveI nonE := Flow.cls_nonempty wd
              have d1 : decide (1 ≤ k) = true := decide_eq_true (by omega)
              have d2 : decide (k ≤ 3) = true := decide_eq_true (by omega)
              have e1 : decide (last < 0) = true := decide_eq_true (by omega)
              rw [Flow.wpSegs_nil]
              simp only [Flow.pick, List.getElem?_toArray, List.getElem?_cons_succ, List.getElem?_cons_zero]
              repeat (first | go_big_quiet_step (fail) | rw [d1] | rw [d2] | rw [e1])
              refine wpQuiet_nil ?_
              clear nonE p0 p1 p2 ca9
              go_wp2_with fail
              go_ret2
              have h := V.out; cases h
              exact ⟨by go_num, K5.out.bel⟩
          by_cases q2 : 0 ≤ size
          case pos =>
            have V := Lib.hid (HSq.out _ HX.out HVV.out HNR.out (fun hf => (HSQ.out.1 hf).2.1 q2))
            as_aux_lemma =>
              clear HF HNm HRg HSq HGo HKD M HSQ
              go_wp2_with fail
              refine Flow.wp_region_segs Flow.Later Flow.Later.refl Flow.Later.trans [] [0, 1, 2, 3, 4, 5, 6, 7, 8, 9, 10, 11, 12, 13, 14, 15, 16, 17, 18, 19, 20, 21, 22, 23, 24, 25, 26, 27, 28, 29, 30, 31, 32, 33, 34] (by kernel_rfl) (by kernel_rfl) ?_
              have K6 := Lib.hid (K5.out.below (Below.refl _ _).drew)
              have W6 := Lib.hid (W5.out.below (Below.refl _ _).drew)
              clear K5 W5
              generalize World.drew _ = wd at *
              have K5 := K6
              have W5 := W6
              clear K6 W6
              have p0 : ∀ t : Flow.Cls (Flow.Later wd), t.val.cell? ⟨b, 0, none⟩ = some (i64 _) := fun t => Flow.cls_cell (blk_cell K5.out.kb 0) t
              have p2 : ∀ t : Flow.Cls (Flow.Later wd), t.val.cell? ⟨b, 2, none⟩ = some (enS bn) := fun t => Flow.cls_cell (blk_cell K5.out.kb 2) t
              obtain ⟨b9, o9, hA9, ca9⟩ := RdC.cell W5.out (j := 1) (v := enS a1) rfl
              cases hA9
              have p1 : ∀ t : Flow.Cls (Flow.Later wd), t.val.cell? _ = some (enS a1) := fun t => Flow.cls_cell ca9 t
              haveI nonE := Flow.cls_nonempty wd
              have d1 : decide (1 ≤ k) = true := decide_eq_true (by omega)
              have d2 : decide (k ≤ 3) = true := decide_eq_true (by omega)
              have e1 : decide (last < 0) = false := decide_eq_false (by omega)
              have e2 : decide (0 ≤ size) = true := decide_eq_true (by omega)
              rw [Flow.wpSegs_nil]
              simp only [Flow.pick, List.getElem?_toArray, List.getElem?_cons_succ, List.getElem?_cons_zero]
              repeat (first | go_big_quiet_step (fail) | rw [d1] | rw [d2] | rw [e1] | rw [e2])
              refine wpQuiet_nil ?_
              clear nonE p0 p1 p2 ca9
              go_wp2_with fail
              go_ret2
              have h := V.out; cases h
              exact ⟨by go_num, K5.out.bel⟩
          by_cases q3 : k < bk
          case pos =>
            have V := Lib.hid (HSq.out _ HX.out HVV.out HNR.out (fun hf => (HSQ.out.1 hf).2.2.1 q3))
            as_aux_lemma =>
              clear HF HNm HRg HSq HGo HKD M HSQ
              go_wp2_with fail
              refine Flow.wp_region_segs Flow.Later Flow.Later.refl Flow.Later.trans [] [0, 1, 2, 3, 4, 5, 6, 7, 8, 9, 10, 11, 12, 13, 14, 15, 16, 17, 18, 19, 20, 21, 22, 23, 24, 25, 26, 27, 28, 29, 30, 31, 32, 33, 34] (by kernel_rfl) (by kernel_rfl) ?_
              have K6 := Lib.hid (K5.out.below (Below.refl _ _).drew)
              have W6 := Lib.hid (W5.out.below (Below.refl _ _).drew)
              clear K5 W5
              generalize World.drew _ = wd at *
              have K5 := K6
              have W5 := W6
              clear K6 W6
              have p0 : ∀ t : Flow.Cls (Flow.Later wd), t.val.cell? ⟨b, 0, none⟩ = some (i64 _) := fun t => Flow.cls_cell (blk_cell K5.out.kb 0) t
              have p2 : ∀ t : Flow.Cls (Flow.Later wd), t.val.cell? ⟨b, 2, none⟩ = some (enS bn) := fun t => Flow.cls_cell (blk_cell K5.out.kb 2) t
              obtain ⟨b9, o9, hA9, ca9⟩ := RdC.cell W5.out (j := 1) (v := enS a1) rfl
              cases hA9
              have p1 : ∀ t : Flow.Cls (Flow.Later wd), t.val.cell? _ = some (enS a1) := fun t => Flow.cls_cell ca9 t
              haveI nonE := Flow.cls_nonempty wd
              have d1 : decide (1 ≤ k) = true := decide_eq_true (by omega)
              have d2 : decide (k ≤ 3) = true := decide_eq_true (by omega)
              have e1 : decide (last < 0) = false := decide_eq_false (by omega)
              have e2 : decide (0 ≤ size) = false := decide_eq_false (by omega)
              have e3 : decide (k < bk) = true := decide_eq_true (by omega)
              rw [Flow.wpSegs_nil]
              simp only [Flow.pick, List.getElem?_toArray, List.getElem?_cons_succ, List.getElem?_cons_zero]
              repeat (first | go_big_quiet_step (fail) | rw [d1] | rw [d2] | rw [e1] | rw [e2] | rw [e3])
              refine wpQuiet_nil ?_
              clear nonE p0 p1 p2 ca9
              go_wp2_with fail
              go_ret2
              have h := V.out; cases h
              exact ⟨by go_num, K5.out.bel⟩
          by_cases q4 : k = bk
          case pos =>
            subst q4
            by_cases q5 : 0 < scmp a1 bn
            case pos =>
              have HBL : Hid ((Op.bytesLess a1 bn || a1 == bn) = false) := Lib.hid (by
                have h1 : Op.bytesLess a1 bn = false := by rw [bytesLess_eq]; exact decide_eq_false fun h => by have := (scmp_lt a1 bn).2 h; omega
                have h2 : (a1 == bn) = false := by simp; intro e; have := (scmp_lin.zero a1 bn).2 e; omega
                (show (Op.bytesLess a1 bn || a1 == bn) = false)
                rw [h1, h2]; rfl)
              have HFo := Lib.hid (HSQ.out.2 ⟨q1, q2, q3, fun h => h.2 q5⟩)
              have HG := Lib.hid (HGo.out _ HX.out HVV.out HNR.out HFo.out)
              have M2 := Lib.hid (M.out.put_name (x := ⟨k, a1, 0, (na2, na3)⟩) hk1 hk3 HFo.out HG.out.2)
              as_aux_lemma =>
                clear HF HNm HRg HSq HGo HKD M HSQ HX HVV HNR HFo
                go_wp2_with fail
                refine Flow.wp_region_segs Flow.Later Flow.Later.refl Flow.Later.trans [] [0, 1, 2, 3, 4, 5, 6, 7, 8, 9, 10, 11, 12, 13, 14, 15, 16, 17, 18, 19, 20, 21, 22, 23, 24, 25, 26, 27, 28, 29, 30, 31, 32, 33, 34] (by kernel_rfl) (by kernel_rfl) ?_
                have K6 := Lib.hid (K5.out.below (Below.refl _ _).drew)
                have W6 := Lib.hid (W5.out.below (Below.refl _ _).drew)
                clear K5 W5
                generalize World.drew _ = wd at *
                have K5 := K6
                have W5 := W6
                clear K6 W6
                have p0 : ∀ t : Flow.Cls (Flow.Later wd), t.val.cell? ⟨b, 0, none⟩ = some (i64 _) := fun t => Flow.cls_cell (blk_cell K5.out.kb 0) t
                have p2 : ∀ t : Flow.Cls (Flow.Later wd), t.val.cell? ⟨b, 2, none⟩ = some (enS bn) := fun t => Flow.cls_cell (blk_cell K5.out.kb 2) t
                obtain ⟨b9, o9, hA9, ca9⟩ := RdC.cell W5.out (j := 1) (v := enS a1) rfl
                cases hA9
                have p1 : ∀ t : Flow.Cls (Flow.Later wd), t.val.cell? _ = some (enS a1) := fun t => Flow.cls_cell ca9 t
                haveI nonE := Flow.cls_nonempty wd
                have d1 : decide (1 ≤ k) = true := decide_eq_true (by omega)
                have d2 : decide (k ≤ 3) = true := decide_eq_true (by omega)
                have e1 : decide (last < 0) = false := decide_eq_false (by omega)
                have e2 : decide (0 ≤ size) = false := decide_eq_false (by omega)
                have e3 : decide (k < k) = false := decide_eq_false (by omega)
                have e4 : (k == k) = true := by simp
                have e5 : (Op.bytesLess a1 bn || a1 == bn) = false := HBL.out
                rw [Flow.wpSegs_nil]
                simp only [Flow.pick, List.getElem?_toArray, List.getElem?_cons_succ, List.getElem?_cons_zero]
                repeat (first | go_big_quiet_step (fail) | rw [d1] | rw [d2] | rw [e1] | rw [e2] | rw [e3] | rw [e4] | rw [e5])
                refine wpQuiet_nil ?_
                clear nonE p0 p1 p2 ca9
                try rw [e5]
                obtain ⟨b9, o9, hA9, ca9⟩ := RdC.cell W5.out (j := 1) (v := enS a1) rfl
                cases hA9
                have fb0 := blk_free K5.out.kb 0
                have fb1 := blk_free K5.out.kb 1
                have fb2 := blk_free K5.out.kb 2
                have e0 := blk_cell K5.out.kb 0
                have e1 := blk_cell K5.out.kb 1
                have e2 := blk_cell K5.out.kb 2
                have hlb := blk_lt K5.out.kb
                have K8 := Lib.hid (K5.out.put k 0 a1)
                go_wp2_with fail
                go_roundg (L.length - (i + 1))
                case measure => omega
                case rel => exact ⟨i + 1, _, _, _, _, _, _, _, _, by omega, by omega, by go_num, rfl, rfl, rfl, rfl, K8, M2, Lib.hid HG.out.1⟩
            have HBL : Hid ((Op.bytesLess a1 bn || a1 == bn) = true) := Lib.hid (by
              (show (Op.bytesLess a1 bn || a1 == bn) = true)
              by_cases e : a1 = bn
              · simp [e]
              · have h0 : ¬ scmp a1 bn = 0 := fun h => e ((scmp_lin.zero a1 bn).1 h)
                have h1 : Op.bytesLess a1 bn = true := by rw [bytesLess_eq]; exact decide_eq_true ((scmp_lt a1 bn).1 (by omega))
                rw [h1]; rfl)
            have V := Lib.hid (HSq.out _ HX.out HVV.out HNR.out (fun hf => (HSQ.out.1 hf).2.2.2 ⟨rfl, q5⟩))
            as_aux_lemma =>
              clear HF HNm HRg HSq HGo HKD M HSQ
              go_wp2_with fail
              refine Flow.wp_region_segs Flow.Later Flow.Later.refl Flow.Later.trans [] [0, 1, 2, 3, 4, 5, 6, 7, 8, 9, 10, 11, 12, 13, 14, 15, 16, 17, 18, 19, 20, 21, 22, 23, 24, 25, 26, 27, 28, 29, 30, 31, 32, 33, 34] (by kernel_rfl) (by kernel_rfl) ?_
              have K6 := Lib.hid (K5.out.below (Below.refl _ _).drew)
              have W6 := Lib.hid (W5.out.below (Below.refl _ _).drew)
              clear K5 W5
              generalize World.drew _ = wd at *
              have K5 := K6
              have W5 := W6
              clear K6 W6
              have p0 : ∀ t : Flow.Cls (Flow.Later wd), t.val.cell? ⟨b, 0, none⟩ = some (i64 _) := fun t => Flow.cls_cell (blk_cell K5.out.kb 0) t
              have p2 : ∀ t : Flow.Cls (Flow.Later wd), t.val.cell? ⟨b, 2, none⟩ = some (enS bn) := fun t => Flow.cls_cell (blk_cell K5.out.kb 2) t
              obtain ⟨b9, o9, hA9, ca9⟩ := RdC.cell W5.out (j := 1) (v := enS a1) rfl
              cases hA9
              have p1 : ∀ t : Flow.Cls (Flow.Later wd), t.val.cell? _ = some (enS a1) := fun t => Flow.cls_cell ca9 t
              haveI nonE := Flow.cls_nonempty wd
              have d1 : decide (1 ≤ k) = true := decide_eq_true (by omega)
              have d2 : decide (k ≤ 3) = true := decide_eq_true (by omega)
              have e1 : decide (last < 0) = false := decide_eq_false (by omega)
              have e2 : decide (0 ≤ size) = false := decide_eq_false (by omega)
              have e3 : decide (k < k) = false := decide_eq_false (by omega)
              have e4 : (k == k) = true := by simp
              have e5 : (Op.bytesLess a1 bn || a1 == bn) = true := HBL.out
              rw [Flow.wpSegs_nil]
              simp only [Flow.pick, List.getElem?_toArray, List.getElem?_cons_succ, List.getElem?_cons_zero]
              repeat (first | go_big_quiet_step (fail) | rw [d1] | rw [d2] | rw [e1] | rw [e2] | rw [e3] | rw [e4] | rw [e5])
              refine wpQuiet_nil ?_
              clear nonE p0 p1 p2 ca9
              try rw [e5]
              go_wp2_with fail
              go_ret2
              have h := V.out; cases h
              exact ⟨by go_num, K5.out.bel⟩
          have HFo := Lib.hid (HSQ.out.2 ⟨q1, q2, q3, fun h => q4 h.1⟩)
          have HG := Lib.hid (HGo.out _ HX.out HVV.out HNR.out HFo.out)
          have M2 := Lib.hid (M.out.put_name (x := ⟨k, a1, 0, (na2, na3)⟩) hk1 hk3 HFo.out HG.out.2)
          as_aux_lemma =>
            clear HF HNm HRg HSq HGo HKD M HSQ HX HVV HNR HFo
            go_wp2_with fail
            refine Flow.wp_region_segs Flow.Later Flow.Later.refl Flow.Later.trans [] [0, 1, 2, 3, 4, 5, 6, 7, 8, 9, 10, 11, 12, 13, 14, 15, 16, 17, 18, 19, 20, 21, 22, 23, 24, 25, 26, 27, 28, 29, 30, 31, 32, 33, 34] (by kernel_rfl) (by kernel_rfl) ?_
            have K6 := Lib.hid (K5.out.below (Below.refl _ _).drew)
            have W6 := Lib.hid (W5.out.below (Below.refl _ _).drew)
            clear K5 W5
            generalize World.drew _ = wd at *
            have K5 := K6
            have W5 := W6
            clear K6 W6
            have p0 : ∀ t : Flow.Cls (Flow.Later wd), t.val.cell? ⟨b, 0, none⟩ = some (i64 _) := fun t => Flow.cls_cell (blk_cell K5.out.kb 0) t
            have p2 : ∀ t : Flow.Cls (Flow.Later wd), t.val.cell? ⟨b, 2, none⟩ = some (enS bn) := fun t => Flow.cls_cell (blk_cell K5.out.kb 2) t
            obtain ⟨b9, o9, hA9, ca9⟩ := RdC.cell W5.out (j := 1) (v := enS a1) rfl
            cases hA9
            have p1 : ∀ t : Flow.Cls (Flow.Later wd), t.val.cell? _ = some (enS a1) := fun t => Flow.cls_cell ca9 t
            haveI nonE := Flow.cls_nonempty wd
            have d1 : decide (1 ≤ k) = true := decide_eq_true (by omega)
            have d2 : decide (k ≤ 3) = true := decide_eq_true (by omega)
            have e1 : decide (last < 0) = false := decide_eq_false (by omega)
            have e2 : decide (0 ≤ size) = false := decide_eq_false (by omega)
            have e3 : decide (k < bk) = false := decide_eq_false (by omega)
            have e4 : (k == bk) = false := by simp; omega
            rw [Flow.wpSegs_nil]
            simp only [Flow.pick, List.getElem?_toArray, List.getElem?_cons_succ, List.getElem?_cons_zero]
            repeat (first | go_big_quiet_step (fail) | rw [d1] | rw [d2] | rw [e1] | rw [e2] | rw [e3] | rw [e4])
            refine wpQuiet_nil ?_
            clear nonE p0 p1 p2 ca9
            obtain ⟨b9, o9, hA9, ca9⟩ := RdC.cell W5.out (j := 1) (v := enS a1) rfl
            cases hA9
            have fb0 := blk_free K5.out.kb 0
            have fb1 := blk_free K5.out.kb 1
            have fb2 := blk_free K5.out.kb 2
            have e0 := blk_cell K5.out.kb 0
            have e1 := blk_cell K5.out.kb 1
            have e2 := blk_cell K5.out.kb 2
            have hlb := blk_lt K5.out.kb
            have K8 := Lib.hid (K5.out.put k 0 a1)
            go_wp2_with fail
            go_roundg (L.length - (i + 1))
            case measure => omega
            case rel => exact ⟨i + 1, _, _, _, _, _, _, _, _, by omega, by omega, by go_num, rfl, rfl, rfl, rfl, K8, M2, Lib.hid HG.out.1⟩
end Go.Proofs.YthgefcoaaommkaaGreatDoor
