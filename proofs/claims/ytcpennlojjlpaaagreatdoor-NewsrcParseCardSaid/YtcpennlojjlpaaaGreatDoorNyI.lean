/- Contract: the reference's Parse. -/
import Derived.Test.YtcpennlojjlpaaaGreatDoorNyG
import Derived.Test.YtcpennlojjlpaaaGreatDoorNyH
import Derived.Test.YtcpennlojjlpaaaGreatDoorZl
namespace Go.Nr
open Go.Gn
theorem drop_split {s : List UInt8} {fr e : Nat} (h : fr ≤ e) (he : e < s.length) : s.drop fr = (s.take e).drop fr ++ s.getD e 0 :: s.drop (e + 1) := by
  have e1 : s.getD e 0 = s[e] := by simp [List.getD, he]
  rw [e1, ← List.drop_eq_getElem_cons he]
  have e2 : s.drop fr = (s.take e ++ s.drop e).drop fr := by rw [List.take_append_drop]
  rw [e2, List.drop_append_of_le_length (by rw [List.length_take]; omega)]
theorem mem_mid {s : List UInt8} {fr e : Nat} {x : UInt8} (h : x ∈ (s.take e).drop fr) : ∃ j, fr ≤ j ∧ j < e ∧ j < s.length ∧ x = s.getD j 0 := by
  obtain ⟨j, hj, hx⟩ := List.mem_iff_getElem.1 h
  rw [List.length_drop, List.length_take] at hj
  rw [List.getElem_drop, List.getElem_take] at hx
  exact ⟨fr + j, by omega, by omega, by omega, by rw [← hx]; simp [List.getD, show fr + j < s.length by omega]⟩
theorem mid_free {p : UInt8 → Bool} {s : List UInt8} {fr e : Nat} (h : ∀ j, fr ≤ j → j < e → p (s.getD j 0) = true) : ∀ x ∈ (s.take e).drop fr, p x = true := fun x hx => by
  obtain ⟨j, h1, h2, _, rfl⟩ := mem_mid hx
  exact h j h1 h2
theorem dropWhile_nil {p : UInt8 → Bool} : ∀ {t : List UInt8}, (∀ x ∈ t, p x = true) → t.dropWhile p = []
  | [], _ => rfl
  | x :: t, h => by rw [List.dropWhile_cons, if_pos (h x (by simp))]; exact dropWhile_nil fun y hy => h y (by simp [hy])
theorem pmark_none {ks : List (List UInt8)} {t : List UInt8} (h : ∀ x ∈ t, nb x = true) : pmark ks t = .inr 3 := by
  have e : t.dropWhile nb = [] := by exact dropWhile_nil h
  unfold pmark; rw [e]
theorem pmark_at {ks : List (List UInt8)} {nm rest : List UInt8} {c : UInt8} (h : ∀ x ∈ nm, nb x = true) (hc : nb c = false) : pmark ks (nm ++ c :: rest) =
    if check nm ≠ 0 then .inr 12 else if nm ∈ ks then .inr 7 else
    if rest = [] then .inl (nm, c == 58, []) else if rest.head? ≠ some 32 ∨ rest.length = 1 then .inr 3 else
    match pset (rest.drop 1) with
    | .inl l' => .inl (nm, c == 58, l')
    | .inr e => .inr e.2 := by
  obtain ⟨a, b⟩ := cut_at (b := rest) h hc
  unfold pmark
  rw [a, b]
  rfl
end Go.Nr
namespace Go.Proofs.YtcpennlojjlpaaaGreatDoor
open Go.RowKit Go.Nr Go.Gn

/-- A row of the reference's marks of the call's own. -/
structure RowG (w : World) (B : Nat) (C : Option Addr) (f : Nat) (out : List G) (xs : List (G × Option Addr × Nat)) : Prop where
  own : w.ownsRow B 87 3 (.slice C out.length f) out.length (mflat xs)
  sets : ∀ x ∈ xs, SetR w x.2.1 x.1.2.2
  eq : xs.map (·.1) = out
theorem RowG.below {w w' : World} {B : Nat} {C : Option Addr} {f : Nat} {out : List G} {xs : List (G × Option Addr × Nat)} (h : RowG w B C f out xs) (hb : Below w.heap.size w w') : RowG w' B C f out xs := ⟨own_below h.own hb, fun x hx => (h.sets x hx).below hb, h.eq⟩
theorem RowG.rd {w : World} {B : Nat} {C : Option Addr} {f : Nat} {out : List G} {xs : List (G × Option Addr × Nat)} (h : RowG w B C f out xs) : RdG w C out := ⟨xs, h.eq, RdGX.of_own h.own h.sets⟩
theorem SetR.set {w : World} {A : Option Addr} {l : List Rg} {g t : Nat} {T : TypeId} {v : Value} (h : SetR w A l) (hg : Ty w g T) (hT : T ≠ 37) : SetR (w.setCell ⟨g, t, none⟩ v) A l :=
  ⟨h.1.setCell (fun a ha e => hT (hg.uniq (by have := h.2 a ha; rw [e] at this; exact this))) v, fun a ha => (h.2 a ha).set⟩
theorem RowG.set {w : World} {B : Nat} {C : Option Addr} {f : Nat} {out : List G} {xs : List (G × Option Addr × Nat)} {g t : Nat} {v : Value} (h : RowG w B C f out xs) (hg : Ty w g 87) (hne : ∀ a, C = some a → a.block ≠ g) : RowG (w.setCell ⟨g, t, none⟩ v) B C f out xs :=
  ⟨own_keep h.own fun k _ e => blk_set_ne t v fun e2 => by
    rcases C with _ | a
    · cases e
    · exact hne a rfl (by injection e with e; rw [e, e2]), fun x hx => (h.sets x hx).set hg (by decide), h.eq⟩
theorem SetR.keep2 {w w' : World} {A : Option Addr} {l : List Rg} (h : SetR w A l) (hs : w.heap.size ≤ w'.heap.size) (hk : ∀ k, Ty w k 37 → w'.heap[k]? = w.heap[k]?) : SetR w' A l := by
  refine ⟨fun hl => ?_, fun a ha => (h.2 a ha).keep (hk _ (h.2 a ha))⟩
  obtain ⟨b, o, e, hlt, hc⟩ := h.1 hl
  have := hk b (h.2 _ e)
  refine ⟨b, o, e, by omega, fun j r hj => ?_⟩
  have := hc j r hj
  simp only [World.cell?] at *
  rw [‹w'.heap[b]? = w.heap[b]?›]
  exact this
theorem RowG.app {W w9 : World} {B : Nat} {C C9 Y : Option Addr} {f f9 y : Nat} {out : List G} {xs : List (G × Option Addr × Nat)} {nm : List UInt8} {bv : Bool} {l : List Rg} (h : RowG W B C f out xs) (hs : SetR W Y l)
    (ho : w9.ownsRow B 87 3 (.slice C9 (out.length + 1) f9) (out.length + 1) (mflat xs ++ [enS nm, .bool bv, .slice Y l.length y])) (hg : (W.alloc (.cells #[enS nm, .bool bv, .slice Y l.length y] 87)).grownBy w9 (Value.slice C out.length f).ownBlock) :
    RowG w9 B C9 f9 (out ++ [(nm, bv, l)]) (xs ++ [((nm, bv, l), Y, y)]) := by
  have h1 := h.below (below_new W (.cells #[enS nm, .bool bv, .slice Y l.length y] 87))
  have s1 := hs.below (below_new W (.cells #[enS nm, .bool bv, .slice Y l.length y] 87))
  have hk : ∀ k, Ty (W.alloc (.cells #[enS nm, .bool bv, .slice Y l.length y] 87)) k 37 → w9.heap[k]? = (W.alloc (.cells #[enS nm, .bool bv, .slice Y l.length y] 87)).heap[k]? := fun k hT => hg.block k hT.lt fun e => absurd (hT.uniq (own_row h1.own _ e.symm)) (by decide)
  refine ⟨?_, fun x hx => ?_, by rw [List.map_append, h.eq]; rfl⟩
  · have e : (out ++ [(nm, bv, l)]).length = out.length + 1 := by simp
    rw [e, mflat_append]; exact ho
  · rcases List.mem_append.1 hx with hx | hx
    · exact (h1.sets x hx).keep2 hg.size hk
    · simp at hx; rw [hx]; exact s1.keep2 hg.size hk
/-- Marks of the reference, or the line and the error. -/
def GivesRefParse (w : World) (r : List G ⊕ (Nat × Nat)) (e : Ending) (w' : World) : Prop :=
  Below w.heap.size w w' ∧ match r with
  | .inl gs => ∃ A c, e = .returned (.tuple #[.slice A gs.length c, i64 0, i64 0]) ∧ RdG w' A gs
  | .inr er => e = .returned (.tuple #[.slice none 0 0, i64 er.1, i64 er.2])

set_option maxRecDepth 100000 in
set_option maxHeartbeats 16000000 in
theorem refParse_any (s : List UInt8) (w : World) (hl : s.length ≤ 10000000) (hp : (parts 10 s).length ≤ 1025) (hln : ∀ t ∈ parts 10 s, t.length ≤ 4000) :
    Calls Tryz.prog 65 #[enS s] w (GivesRefParse w (pfile [] 1 s)) := by
  obtain ⟨r, hr⟩ : ∃ r, pfile [] 1 s = r := ⟨_, rfl⟩
  have V := Lib.hid hr
  rw [hr]
  have HLN := Lib.hid hln
  obtain ⟨i0, z0, hif, hz0, hz1, hz2, hz3⟩ := gr_parts
  clear hr hln
  go_enter Tryz.func65, Tryz.ntmps65
  go_wp2_with fail
  go_loopg [5, 6, 7] s.length (fun gg ov fv lv wr => ∃ (fr line : Nat) (C : Option Addr) (f : Nat) (out : List G) (xs : List (G × Option Addr × Nat)), fr ≤ s.length ∧ s.length - fr ≤ gg ∧ fv = .int .i64 fr ∧ lv = .int .i64 line ∧ ov = .slice C out.length f ∧ Hid (pfile out line (s.drop fr) = r) ∧ line + (parts 10 (s.drop fr)).length = (parts 10 s).length + 1 ∧ Hid (∀ t ∈ parts 10 (s.drop fr), t.length ≤ 4000) ∧ out.length + 1 = line ∧ Hid (RowG wr w.heap.size C f out xs) ∧ Below w.heap.size w wr)
  case atStart => exact ⟨0, 1, none, 0, [], [], by omega, by omega, rfl, rfl, rfl, (by show pfile [] 1 (s.drop 0) = r; rw [List.drop_zero]; exact V.out), by rw [List.drop_zero]; omega, (by rw [List.drop_zero]; exact HLN), rfl, ⟨own2_nil _ _ _ _, by simp, rfl⟩, Below.refl _ _⟩
  case round =>
    obtain ⟨fr, line, C, f, out, xs, hfs, hgf, rfl, rfl, rfl, Fq, hNq, Lq, hol, HO, hB⟩ := hrel
    by_cases hq0 : fr < s.length
    case neg =>
      obtain rfl : fr = s.length := by omega
      have e := Fq.out
      rw [List.drop_length, pfile_nil] at e
      go_wp2_with fail
      go_ret3
      rw [← e]
      exact ⟨hB, C, f, rfl, HO.out.rd⟩
    case pos =>
      have hls : s.length ≤ 10000000 := hl
      go_wp2_with fail
      go_loopg [8] s.length (fun gg ev wq => ∃ e : Nat, fr ≤ e ∧ e ≤ s.length ∧ s.length - e ≤ gg ∧ ev = .int .i64 e ∧ Hid (∀ j, fr ≤ j → j < e → nl (s.getD j 0) = true) ∧ wq = wr)
      case atStart => exact ⟨fr, Nat.le_refl _, by omega, by omega, rfl, (fun j h1 h2 => by omega), rfl⟩
      case round =>
        obtain ⟨e, hfe, hes, hge, rfl, N, rfl⟩ := hrel
        by_cases hk : e < s.length
        case neg =>
          obtain rfl : e = s.length := by omega
          have hfree := mid_free N.out
          rw [List.take_length] at hfree
          have e3 := Fq.out
          rw [pfile_short out line _ (by intro h; have := congrArg List.length h; simp at this; omega) hfree] at e3
          have E3 := Lib.hid e3
          clear e3 hfree
          go_wp2_with fail
          go_ret3
          rw [← E3.out]
          exact ⟨hB, rfl⟩
        case pos =>
          have bg := bget (t := s) (p := e) (show e < s.toArray.size by simpa using hk) hk
          obtain ⟨c0, hc0⟩ : ∃ c, s.getD e 0 = c := ⟨_, rfl⟩
          rw [hc0] at bg
          have HC0 := Lib.hid hc0
          clear hc0
          by_cases hc : c0 = 10
          case neg =>
            have e1 : ((c0.toNat : Int) != 10) = true := by
              simp; intro e; exact hc (UInt8.toNat_inj.1 (by simpa using (by omega : c0.toNat = 10)))
            have e2 : (c0.toNat != 10) = true := by
              simp; intro e; exact hc (UInt8.toNat_inj.1 (by simpa using e))
            have N2 : Hid (∀ j, fr ≤ j → j < e + 1 → nl (s.getD j 0) = true) := fun j h1 h2 => by
              rcases Nat.lt_or_ge j e with h | h
              · exact N.out j h1 h
              · obtain rfl : j = e := by omega
                rw [HC0.out]; simp [nl, hc]
            clear hc
            go_wp2_with fail
            go_roundg (s.length - (e + 1))
            case measure => omega
            case rel => exact ⟨e + 1, by omega, by omega, by omega, by go_num, N2.out, rfl⟩
          case pos =>
            subst hc
            have hsp := drop_split hfe hk
            rw [HC0.out] at hsp
            have hfree := mid_free N.out
            have hx0 := ext_mid s fr e
            have htl : ((s.take e).drop fr).length = e - fr := by rw [List.length_drop, List.length_take]; omega
            generalize (s.take e).drop fr = t at *
            have hstep := pfile_step out line t (s.drop (e + 1)) hfree
            rw [← hsp, Fq.out] at hstep
            have hpn := parts_nl (rest := s.drop (e + 1)) hfree
            rw [← hsp] at hpn
            have hpr := parts_pos 10 (s.drop (e + 1))
            have ht4 : t.length ≤ 4000 := Lq.out t (by rw [hpn]; simp)
            have HLr : Hid (∀ x ∈ parts 10 (s.drop (e + 1)), x.length ≤ 4000) := fun x hx => Lq.out x (by rw [hpn]; simp [hx])
            rw [hpn, List.length_cons] at hNq
            have HS := Lib.hid hstep
            have hout : out.length ≤ 1024 := by omega
            have HOL := Lib.hid hol
            have q0 : (((e : Int)) == (s.length : Int)) = false := by simp; omega
            have q1 : (((out.length : Int)) == 1024) = false := by simp; omega
            have hb1 : (fr : Int) ≤ (e : Int) := by omega
            have hb2 : (e : Int) ≤ (s.length : Int) := by omega
            have hb3 : (0 : Int) ≤ (fr : Int) := by omega
            have HB := Lib.hid hB
            clear hsp hfree hstep hpn hpr N HC0 Fq Lq hB htl hol
            go_wp2_with fail
            go_loopg [10] t.length (fun gg kv wq => ∃ k : Nat, k ≤ t.length ∧ t.length - k ≤ gg ∧ kv = .int .i64 k ∧ Hid (∀ j, 0 ≤ j → j < k → nb (t.getD j 0) = true) ∧ wq = wr)
            case atStart => exact ⟨0, by omega, by omega, rfl, (fun j h1 h2 => by omega), rfl⟩
            case round =>
              obtain ⟨k, hkt, hgk, rfl, N, rfl⟩ := hrel
              by_cases hk2 : k < t.length
              case neg =>
                obtain rfl : k = t.length := by omega
                have hfree := mid_free N.out
                rw [List.take_length, List.drop_zero] at hfree
                have e3 := HS.out
                rw [pmark_none hfree] at e3
                have E3 := Lib.hid e3
                clear e3 hfree HS
                go_wp2_with fail
                go_ret3
                rw [E3.out]
                exact ⟨HB.out, rfl⟩
              case pos =>
                have bt := bget (t := t) (p := k) (show k < t.toArray.size by simpa using hk2) hk2
                obtain ⟨c, hc⟩ : ∃ c, t.getD k 0 = c := ⟨_, rfl⟩
                rw [hc] at bt
                have HC := Lib.hid hc
                clear hc
                by_cases h58 : c = 58
                case pos =>
                  subst h58
                  have hsp2 := drop_split (fr := 0) (Nat.zero_le k) hk2
                  rw [HC.out, List.drop_zero, List.drop_zero] at hsp2
                  have hfr2 := mid_free N.out
                  rw [List.drop_zero] at hfr2
                  have hxa := ext_take t k
                  have hxb := ext_drop t (k + 1)
                  have hnl : (t.take k).length = k := by rw [List.length_take]; omega
                  have hrl : (t.drop (k + 1)).length ≤ 4000 := by rw [List.length_drop]; omega
                  generalize t.take k = nm at *
                  generalize t.drop (k + 1) = rest at *
                  have hpm := pmark_at (ks := out.map (·.1)) (rest := rest) hfr2 (c := 58) rfl
                  rw [← hsp2] at hpm
                  have hs2 := HS.out
                  rw [hpm] at hs2
                  have HMem := Lib.hid (gidx_mem out nm)
                  have q5 : (((k : Int)) == (t.length : Int)) = false := by simp; omega
                  have hb4 : (0 : Int) ≤ (k : Int) := by omega
                  have hb5 : (k : Int) ≤ (t.length : Int) := by omega
                  have hb6 : (k : Int) + 1 ≤ (t.length : Int) := by omega
                  have hb7 : (k : Int) < (t.length : Int) := by omega
                  have hn1 : nm.length ≤ 9223372036854775807 := by omega
                  have HCk := Lib.hid (fun W => refCheck_any nm W hn1)
                  have HFi := Lib.hid (fun W (h : RdG W C out) => refFind_any C f out nm W h (by omega))
                  obtain ⟨er, her⟩ : ∃ er, check nm = er := ⟨_, rfl⟩
                  rw [her] at HCk hs2
                  have HS2 := Lib.hid hs2
                  clear hsp2 hfr2 hpm hs2 her N HC HS hnl
                  go_wp2_with fail
                  refine Flow.wp_region_segs (fun u v => Below (World.drew wr).heap.size u v) (fun _ => Below.refl _ _) (fun u v x h k => Below.trans h k) [([0, 1, 2, 3, 4, 5, 6, 7], 8), ([], 9)] [] (by kernel_rfl) (by kernel_rfl) ?_
                  have b' : Below wr.heap.size wr (World.drew wr) := (Below.refl _ _).drew
                  have O31 := Lib.hid (HO.out.below b'); clear HO
                  have B31 := Lib.hid (HB.out.tr b'); clear HB
                  clear b'
                  generalize World.drew wr = wd at *
                  haveI nonE : Nonempty (Flow.Cls (fun v => Below wd.heap.size wd v)) := ⟨⟨wd, Below.refl _ _⟩⟩
                  rw [Flow.wpSegs_cons]
                  simp only [Flow.pick, List.getElem?_toArray, List.getElem?_cons_succ, List.getElem?_cons_zero]
                  repeat go_big_quiet_step (fail)
                  refine wpQuiet_nil ?_
                  clear nonE
                  rw [Flow.callAt_eq]
                  simp only [List.getElem?_toArray, List.getElem?_cons_succ, List.getElem?_cons_zero]
                  rw [if_pos (by rfl)]
                  refine Flow.wp_behind (fun K hK => ?_)
                  go_wp2_with fail
                  refine hK.out _ _ ⟨below_new _ _, ?_⟩
                  clear hK K
                  rw [Flow.wpSegs_cons]
                  simp only [Flow.pick]
                  refine wpQuiet_nil ?_
                  rw [Flow.callAt_eq]
                  simp only [List.getElem?_toArray, List.getElem?_cons_succ, List.getElem?_cons_zero]
                  rw [if_pos (by rfl)]
                  refine Flow.wp_behind (fun K hK => ?_)
                  go_wp2_with fail
                  refine hK.out _ _ ⟨below_swap _ _ _ (Nat.le_refl _), ?_⟩
                  clear hK K
                  haveI nonE : Nonempty (Flow.Cls (fun v => Below wd.heap.size (wd.alloc (.cells #[enS nm, .bool true, .slice none 0 0] 87)) v)) := ⟨⟨_, Below.refl _ _⟩⟩
                  rw [Flow.wpSegs_nil]
                  simp only [Flow.pick]
                  refine wpQuiet_nil ?_
                  clear nonE
                  have HCW := Lib.hid (fun (a : Addr) (ha : C = some a) => (O31.out.own.lt a.block (by rw [ha]; rfl)).2)
                  have hwd := B31.out.size
                  go_wp2_with fail
                  have O32 := Lib.hid (O31.out.below (below_new wd (.cells #[enS nm, .bool true, .slice none 0 0] 87))); clear O31
                  have B32 := Lib.hid (B31.out.tr (below_new wd (.cells #[enS nm, .bool true, .slice none 0 0] 87))); clear B31
                  have gb32 := Lib.hid (blk_new wd (.cells #[enS nm, .bool true, .slice none 0 0] 87))
                  refine (HCk.out _).mono ?_; rintro e w33 ⟨rfl, b⟩
                  have b' : Below (wd.alloc (.cells #[enS nm, .bool true, .slice none 0 0] 87)).heap.size (wd.alloc (.cells #[enS nm, .bool true, .slice none 0 0] 87)) w33 := Below.tr (by first | exact Below.refl _ _ | exact below_new _ _) b
                  clear b
                  have O33 := Lib.hid (O32.out.below b'); clear O32
                  have gb33 := Lib.hid (blk_below b' gb32.out); clear gb32
                  have B33 := Lib.hid (B32.out.tr b'); clear B32
                  clear b'
                  by_cases h0 : er = 0
                  case neg =>
                    have q6 : ((er : Int) != 0) = true := by simp; omega
                    have hr : Hid (r = .inr (line, 12)) := by (show r = _); rw [HS2.out]; rw [if_pos h0]
                    have cgb0 := blk_cell gb33.out 0
                    have cgb1 := blk_cell gb33.out 1
                    have cgb2 := blk_cell gb33.out 2
                    have pgb := blk_lt gb33.out
                    go_wp2_with fail
                    clear cgb0 cgb1 cgb2 pgb
                    go_ret3
                    rw [hr.out]
                    exact ⟨B33.out, rfl⟩
                  case pos =>
                    subst h0
                    have q6 : (((0 : Nat) : Int) != 0) = false := by simp
                    by_cases hin : gidx out nm < out.length
                    case pos =>
                      have VF : findI out nm = (gidx out nm : Int) := by unfold findI; rw [if_pos hin]
                      have hmem := HMem.out.1 hin
                      rw [VF] at HFi
                      generalize gidx out nm = gi at *
                      have q7 : (0 : Int) ≤ (gi : Int) := by omega
                      have cgb0 := blk_cell gb33.out 0
                      have cgb1 := blk_cell gb33.out 1
                      have cgb2 := blk_cell gb33.out 2
                      have pgb := blk_lt gb33.out
                      go_wp2_with fail
                      clear cgb0 cgb1 cgb2 pgb
                      refine (HFi.out _ ((O33.out.below (by first | exact Below.refl _ _ | exact below_new _ _))).rd).mono ?_; rintro e w34 ⟨rfl, rfl⟩
                      have hr : Hid (r = .inr (line, 7)) := by (show r = _); rw [HS2.out]; rw [if_neg (by simp), if_pos hmem]
                      have cgb0 := blk_cell gb33.out 0
                      have cgb1 := blk_cell gb33.out 1
                      have cgb2 := blk_cell gb33.out 2
                      have pgb := blk_lt gb33.out
                      go_wp2_with fail
                      clear cgb0 cgb1 cgb2 pgb
                      go_ret3
                      rw [hr.out]
                      exact ⟨B33.out, rfl⟩
                    case neg =>
                      have VF : findI out nm = -1 := by unfold findI; rw [if_neg hin]
                      have hmem : ¬ nm ∈ out.map (·.1) := fun h => hin (HMem.out.2 h)
                      rw [VF] at HFi
                      clear VF hin
                      have HNM := Lib.hid hmem; clear hmem
                      have cgb0 := blk_cell gb33.out 0
                      have cgb1 := blk_cell gb33.out 1
                      have cgb2 := blk_cell gb33.out 2
                      have pgb := blk_lt gb33.out
                      go_wp2_with fail
                      clear cgb0 cgb1 cgb2 pgb
                      refine (HFi.out _ ((O33.out.below (by first | exact Below.refl _ _ | exact below_new _ _))).rd).mono ?_; rintro e w34 ⟨rfl, rfl⟩
                      cases rest with
                      | nil =>
                        have hr : Hid (r = pfile (out ++ [(nm, true, [])]) (line + 1) (s.drop (e + 1))) := by (show r = _); rw [HS2.out]; rw [if_neg (by simp), if_neg HNM.out, if_pos rfl]; rfl
                        have GO : Hid (RowG w33 w.heap.size C f out xs) := O33.out
                        have GK : Hid (w33.heap[wd.heap.size]? = some (.cells #[enS nm, .bool true, .slice none 0 0] 87 (0, 0))) := gb33.out
                        have GS : Hid (SetR w33 none []) := SetR.nil
                        have GB : Hid (Below w.heap.size w w33) := B33.out
                        have hg0 := blk_cell GK.out 0
                        have hg1 := blk_cell GK.out 1
                        have hg2 := blk_cell GK.out 2
                        go_wp2_with (at_builtin; refine wpList_append_own _ rfl _ _ 79 rfl w.heap.size 87 i0 z0 3 48 Tryz.underlying79 hif hz0 hz1 hz2 hz3 (by decide) (.slice C out.length f) out.length (mflat xs) rfl (own_below GO.out.own (below_new _ _)) ⟨w33.heap.size, 0, none⟩ 1 1 [enS nm, .bool true, .slice none 0 0] rfl rfl ?c1 ?c2 ?c3 ?c4 ?c5 ?_)
                        case c1 =>
                          intro j u hj
                          rw [addr_addN, new_cell _ _ _ _ _ rfl]
                          simpa using hj
                        case c2 => intro u hu; simp at hu; rcases hu with rfl | rfl | rfl <;> rfl
                        case c3 => unfold maxLen; omega
                        case c4 => omega
                        case c5 => have := GB.out.size; simp at this ⊢; omega
                        intro v' w9 hown9 hg9 _
                        obtain ⟨C9, f9, rfl⟩ := own2_slice hown9
                        have b9 := own_grown_below (own_below GO.out.own (below_new _ (.cells #[enS nm, .bool true, .slice none 0 0] 87))) (by have := GB.out.size; simp at this ⊢; omega) hg9
                        have HO9 := Lib.hid hown9
                        have HG9 := Lib.hid hg9
                        have B9 := Lib.hid ((GB.out.tr (below_new _ (.cells #[enS nm, .bool true, .slice none 0 0] 87))).trans b9)
                        clear hown9 hg9 b9 hg0 hg1 hg2
                        go_wp2_with fail
                        go_roundg (s.length - (e + 1))
                        case measure => omega
                        case rel => exact ⟨e + 1, line + 1, C9, f9, out ++ [(nm, true, [])], xs ++ [((nm, true, []), none, 0)], by omega, by omega, by go_num, by go_num, by rw [List.length_append]; rfl, hr.out.symm, by omega, HLr, by have := HOL.out; rw [List.length_append]; simp; omega, RowG.app GO.out GS.out HO9.out HG9.out, B9.out⟩
                      | cons d t2 =>
                        have bg0 : ∀ h : 0 < (⟨(d :: t2).toArray⟩ : ByteArray).size, (⟨(d :: t2).toArray⟩ : ByteArray)[0]'h = d := fun h => by rw [bget h (by simp)]; simp [List.getD]
                        have hd0 : (⟨(d :: t2).toArray⟩ : ByteArray).size = t2.length + 1 := by show (d :: t2).toArray.size = _; simp
                        simp only [List.length_cons] at hrl
                        by_cases hd : d = 32
                        case neg =>
                          have e1 : ((d.toNat : Int) != 32) = true := by
                            simp; intro e; exact hd (UInt8.toNat_inj.1 (by simpa using (by omega : d.toNat = 32)))
                          have e2 : (d.toNat != 32) = true := by
                            simp; intro e; exact hd (UInt8.toNat_inj.1 (by simpa using e))
                          have hr : Hid (r = .inr (line, 3)) := by (show r = _); rw [HS2.out]; rw [if_neg (by simp), if_neg HNM.out, if_neg (by simp), if_pos (by left; simpa using hd)]
                          go_wp2_with fail
                          go_ret3
                          rw [hr.out]
                          exact ⟨B33.out, rfl⟩
                        case pos =>
                          subst hd
                          have e1 : (((32 : UInt8).toNat : Int) != 32) = false := by decide
                          have e2 : ((32 : UInt8).toNat != 32) = false := by decide
                          cases t2 with
                          | nil =>
                            simp only [List.length_nil, Nat.zero_add] at hd0 hrl
                            have hr : Hid (r = .inr (line, 3)) := by (show r = _); rw [HS2.out]; rw [if_neg (by simp), if_neg HNM.out, if_neg (by simp), if_pos (by right; rfl)]
                            go_wp2_with fail
                            go_ret3
                            rw [hr.out]
                            exact ⟨B33.out, rfl⟩
                          | cons d2 t3 =>
                            simp only [List.length_cons] at hrl hd0
                            have hx3 : (⟨((32 : UInt8) :: d2 :: t3).toArray⟩ : ByteArray).extract 1 (t3.length + 1 + 1) = ⟨(d2 :: t3).toArray⟩ := by
                              have := ext_drop (32 :: d2 :: t3) 1
                              simpa using this
                            have hpl := parts_length_le 44 (d2 :: t3)
                            have HPs := Lib.hid (fun W => refParseSetT_any (d2 :: t3) W (by simp only [List.length_cons]; omega) (by simp only [List.length_cons] at hpl; omega))
                            have e5 : (((t3.length : Int) + 1 + 1) == 1) = false := by simp; omega
                            cases hps : pset (d2 :: t3) with
                            | inr er =>
                              obtain ⟨at_, er⟩ := er
                              obtain ⟨p1, p2, p3⟩ := ps_inr hps
                              have her := pset_err hps
                              rw [p1, p2, p3] at HPs
                              have q8 : ((er : Int) != 0) = true := by simp; omega
                              have HPE := Lib.hid hps
                              clear hps p1 p2 p3
                              go_wp2_with fail
                              refine (HPs.out _).mono ?_; rintro e w35 ⟨Y, y, rfl, hsr, b⟩
                              have b' : Below w33.heap.size w33 w35 := Below.tr (by first | exact Below.refl _ _ | exact below_new _ _) b
                              clear b
                              have O35 := Lib.hid (O33.out.below b'); clear O33
                              have gb35 := Lib.hid (blk_below b' gb33.out); clear gb33
                              have B35 := Lib.hid (B33.out.tr b'); clear B33
                              clear b'
                              have SR35 := Lib.hid hsr; clear hsr
                              have hr : Hid (r = .inr (line, er)) := by (show r = _); rw [HS2.out]; rw [if_neg (by simp), if_neg HNM.out, if_neg (by simp), if_neg (by simp)]; simp only [List.drop_succ_cons, List.drop_zero, HPE.out]
                              go_wp2_with fail
                              go_ret3
                              rw [hr.out]
                              exact ⟨B35.out, rfl⟩
                            | inl l =>
                              obtain ⟨p1, p2, p3⟩ := ps_inl hps
                              rw [p1, p2, p3] at HPs
                              have HPE := Lib.hid hps
                              clear hps p1 p2 p3
                              go_wp2_with fail
                              refine (HPs.out _).mono ?_; rintro e w35 ⟨Y, y, rfl, hsr, b⟩
                              have b' : Below w33.heap.size w33 w35 := Below.tr (by first | exact Below.refl _ _ | exact below_new _ _) b
                              clear b
                              have O35 := Lib.hid (O33.out.below b'); clear O33
                              have gb35 := Lib.hid (blk_below b' gb33.out); clear gb33
                              have B35 := Lib.hid (B33.out.tr b'); clear B33
                              clear b'
                              have SR35 := Lib.hid hsr; clear hsr
                              have hr : Hid (r = pfile (out ++ [(nm, true, l)]) (line + 1) (s.drop (e + 1))) := by (show r = _); rw [HS2.out]; rw [if_neg (by simp), if_neg HNM.out, if_neg (by simp), if_neg (by simp)]; simp only [List.drop_succ_cons, List.drop_zero, HPE.out]; rfl
                              have GO : Hid (RowG (w35.setCell ⟨wd.heap.size, 2, none⟩ (.slice Y l.length y)) w.heap.size C f out xs) := O35.out.set ⟨_, _, gb35.out⟩ (fun a ha => by have := HCW.out a ha; omega)
                              have GK : Hid ((w35.setCell ⟨wd.heap.size, 2, none⟩ (.slice Y l.length y)).heap[wd.heap.size]? = some (.cells #[enS nm, .bool true, .slice Y l.length y] 87 (0, 0))) := Lib.hid (by have h := blk_set gb35.out 2 (.slice Y l.length y); simpa using h)
                              have GS : Hid (SetR (w35.setCell ⟨wd.heap.size, 2, none⟩ (.slice Y l.length y)) Y l) := SR35.out.set ⟨_, _, gb35.out⟩ (by decide)
                              have GB : Hid (Below w.heap.size w (w35.setCell ⟨wd.heap.size, 2, none⟩ (.slice Y l.length y))) := B35.out.setCell (p := ⟨wd.heap.size, 2, none⟩) hwd _
                              have hc0 := blk_cell gb35.out 0
                              have hc1 := blk_cell gb35.out 1
                              have hc2 := blk_cell gb35.out 2
                              have hf2 := blk_free gb35.out 2
                              go_wp2_with (at_builtin; refine wpList_append_own _ rfl _ _ 79 rfl w.heap.size 87 i0 z0 3 48 Tryz.underlying79 hif hz0 hz1 hz2 hz3 (by decide) (.slice C out.length f) out.length (mflat xs) rfl (own_below GO.out.own (below_new _ _)) ⟨w35.heap.size, 0, none⟩ 1 1 [enS nm, .bool true, .slice Y l.length y] rfl rfl ?c1 ?c2 ?c3 ?c4 ?c5 ?_)
                              case c1 =>
                                intro j u hj
                                rw [addr_addN, new_cell _ _ _ _ _ (by simp [World.setCell])]
                                simpa using hj
                              case c2 => intro u hu; simp at hu; rcases hu with rfl | rfl | rfl <;> rfl
                              case c3 => unfold maxLen; omega
                              case c4 => omega
                              case c5 => have := GB.out.size; simp at this ⊢; omega
                              intro v' w9 hown9 hg9 _
                              obtain ⟨C9, f9, rfl⟩ := own2_slice hown9
                              have b9 := own_grown_below (own_below GO.out.own (below_new _ (.cells #[enS nm, .bool true, .slice Y l.length y] 87))) (by have := GB.out.size; simp at this ⊢; omega) hg9
                              have HO9 := Lib.hid hown9
                              have HG9 := Lib.hid hg9
                              have B9 := Lib.hid ((GB.out.tr (below_new _ (.cells #[enS nm, .bool true, .slice Y l.length y] 87))).trans b9)
                              clear hown9 hg9 b9 hc0 hc1 hc2 hf2
                              go_wp2_with fail
                              go_roundg (s.length - (e + 1))
                              case measure => omega
                              case rel => exact ⟨e + 1, line + 1, C9, f9, out ++ [(nm, true, l)], xs ++ [((nm, true, l), Y, y)], by omega, by omega, by go_num, by go_num, by rw [List.length_append]; rfl, hr.out.symm, by omega, HLr, by have := HOL.out; rw [List.length_append]; simp; omega, RowG.app GO.out GS.out HO9.out HG9.out, B9.out⟩
                case neg =>
                  by_cases h33 : c = 33
                  case pos =>
                    subst h33
                    have hsp2 := drop_split (fr := 0) (Nat.zero_le k) hk2
                    rw [HC.out, List.drop_zero, List.drop_zero] at hsp2
                    have hfr2 := mid_free N.out
                    rw [List.drop_zero] at hfr2
                    have hxa := ext_take t k
                    have hxb := ext_drop t (k + 1)
                    have hnl : (t.take k).length = k := by rw [List.length_take]; omega
                    have hrl : (t.drop (k + 1)).length ≤ 4000 := by rw [List.length_drop]; omega
                    generalize t.take k = nm at *
                    generalize t.drop (k + 1) = rest at *
                    have hpm := pmark_at (ks := out.map (·.1)) (rest := rest) hfr2 (c := 33) rfl
                    rw [← hsp2] at hpm
                    have hs2 := HS.out
                    rw [hpm] at hs2
                    have HMem := Lib.hid (gidx_mem out nm)
                    have q5 : (((k : Int)) == (t.length : Int)) = false := by simp; omega
                    have hb4 : (0 : Int) ≤ (k : Int) := by omega
                    have hb5 : (k : Int) ≤ (t.length : Int) := by omega
                    have hb6 : (k : Int) + 1 ≤ (t.length : Int) := by omega
                    have hb7 : (k : Int) < (t.length : Int) := by omega
                    have hn1 : nm.length ≤ 9223372036854775807 := by omega
                    have HCk := Lib.hid (fun W => refCheck_any nm W hn1)
                    have HFi := Lib.hid (fun W (h : RdG W C out) => refFind_any C f out nm W h (by omega))
                    obtain ⟨er, her⟩ : ∃ er, check nm = er := ⟨_, rfl⟩
                    rw [her] at HCk hs2
                    have HS2 := Lib.hid hs2
                    clear hsp2 hfr2 hpm hs2 her N HC HS hnl
                    go_wp2_with fail
                    refine Flow.wp_region_segs (fun u v => Below (World.drew wr).heap.size u v) (fun _ => Below.refl _ _) (fun u v x h k => Below.trans h k) [([0, 1, 2, 3, 4, 5, 6, 7], 8), ([], 9)] [] (by kernel_rfl) (by kernel_rfl) ?_
                    have b' : Below wr.heap.size wr (World.drew wr) := (Below.refl _ _).drew
                    have O31 := Lib.hid (HO.out.below b'); clear HO
                    have B31 := Lib.hid (HB.out.tr b'); clear HB
                    clear b'
                    generalize World.drew wr = wd at *
                    haveI nonE : Nonempty (Flow.Cls (fun v => Below wd.heap.size wd v)) := ⟨⟨wd, Below.refl _ _⟩⟩
                    rw [Flow.wpSegs_cons]
                    simp only [Flow.pick, List.getElem?_toArray, List.getElem?_cons_succ, List.getElem?_cons_zero]
                    repeat go_big_quiet_step (fail)
                    refine wpQuiet_nil ?_
                    clear nonE
                    rw [Flow.callAt_eq]
                    simp only [List.getElem?_toArray, List.getElem?_cons_succ, List.getElem?_cons_zero]
                    rw [if_pos (by rfl)]
                    refine Flow.wp_behind (fun K hK => ?_)
                    go_wp2_with fail
                    refine hK.out _ _ ⟨below_new _ _, ?_⟩
                    clear hK K
                    rw [Flow.wpSegs_cons]
                    simp only [Flow.pick]
                    refine wpQuiet_nil ?_
                    rw [Flow.callAt_eq]
                    simp only [List.getElem?_toArray, List.getElem?_cons_succ, List.getElem?_cons_zero]
                    rw [if_pos (by rfl)]
                    refine Flow.wp_behind (fun K hK => ?_)
                    go_wp2_with fail
                    refine hK.out _ _ ⟨below_swap _ _ _ (Nat.le_refl _), ?_⟩
                    clear hK K
                    haveI nonE : Nonempty (Flow.Cls (fun v => Below wd.heap.size (wd.alloc (.cells #[enS nm, .bool false, .slice none 0 0] 87)) v)) := ⟨⟨_, Below.refl _ _⟩⟩
                    rw [Flow.wpSegs_nil]
                    simp only [Flow.pick]
                    refine wpQuiet_nil ?_
                    clear nonE
                    have HCW := Lib.hid (fun (a : Addr) (ha : C = some a) => (O31.out.own.lt a.block (by rw [ha]; rfl)).2)
                    have hwd := B31.out.size
                    go_wp2_with fail
                    have O32 := Lib.hid (O31.out.below (below_new wd (.cells #[enS nm, .bool false, .slice none 0 0] 87))); clear O31
                    have B32 := Lib.hid (B31.out.tr (below_new wd (.cells #[enS nm, .bool false, .slice none 0 0] 87))); clear B31
                    have gb32 := Lib.hid (blk_new wd (.cells #[enS nm, .bool false, .slice none 0 0] 87))
                    refine (HCk.out _).mono ?_; rintro e w33 ⟨rfl, b⟩
                    have b' : Below (wd.alloc (.cells #[enS nm, .bool false, .slice none 0 0] 87)).heap.size (wd.alloc (.cells #[enS nm, .bool false, .slice none 0 0] 87)) w33 := Below.tr (by first | exact Below.refl _ _ | exact below_new _ _) b
                    clear b
                    have O33 := Lib.hid (O32.out.below b'); clear O32
                    have gb33 := Lib.hid (blk_below b' gb32.out); clear gb32
                    have B33 := Lib.hid (B32.out.tr b'); clear B32
                    clear b'
                    by_cases h0 : er = 0
                    case neg =>
                      have q6 : ((er : Int) != 0) = true := by simp; omega
                      have hr : Hid (r = .inr (line, 12)) := by (show r = _); rw [HS2.out]; rw [if_pos h0]
                      have cgb0 := blk_cell gb33.out 0
                      have cgb1 := blk_cell gb33.out 1
                      have cgb2 := blk_cell gb33.out 2
                      have pgb := blk_lt gb33.out
                      go_wp2_with fail
                      clear cgb0 cgb1 cgb2 pgb
                      go_ret3
                      rw [hr.out]
                      exact ⟨B33.out, rfl⟩
                    case pos =>
                      subst h0
                      have q6 : (((0 : Nat) : Int) != 0) = false := by simp
                      by_cases hin : gidx out nm < out.length
                      case pos =>
                        have VF : findI out nm = (gidx out nm : Int) := by unfold findI; rw [if_pos hin]
                        have hmem := HMem.out.1 hin
                        rw [VF] at HFi
                        generalize gidx out nm = gi at *
                        have q7 : (0 : Int) ≤ (gi : Int) := by omega
                        have cgb0 := blk_cell gb33.out 0
                        have cgb1 := blk_cell gb33.out 1
                        have cgb2 := blk_cell gb33.out 2
                        have pgb := blk_lt gb33.out
                        go_wp2_with fail
                        clear cgb0 cgb1 cgb2 pgb
                        refine (HFi.out _ ((O33.out.below (by first | exact Below.refl _ _ | exact below_new _ _))).rd).mono ?_; rintro e w34 ⟨rfl, rfl⟩
                        have hr : Hid (r = .inr (line, 7)) := by (show r = _); rw [HS2.out]; rw [if_neg (by simp), if_pos hmem]
                        have cgb0 := blk_cell gb33.out 0
                        have cgb1 := blk_cell gb33.out 1
                        have cgb2 := blk_cell gb33.out 2
                        have pgb := blk_lt gb33.out
                        go_wp2_with fail
                        clear cgb0 cgb1 cgb2 pgb
                        go_ret3
                        rw [hr.out]
                        exact ⟨B33.out, rfl⟩
                      case neg =>
                        have VF : findI out nm = -1 := by unfold findI; rw [if_neg hin]
                        have hmem : ¬ nm ∈ out.map (·.1) := fun h => hin (HMem.out.2 h)
                        rw [VF] at HFi
                        clear VF hin
                        have HNM := Lib.hid hmem; clear hmem
                        have cgb0 := blk_cell gb33.out 0
                        have cgb1 := blk_cell gb33.out 1
                        have cgb2 := blk_cell gb33.out 2
                        have pgb := blk_lt gb33.out
                        go_wp2_with fail
                        clear cgb0 cgb1 cgb2 pgb
                        refine (HFi.out _ ((O33.out.below (by first | exact Below.refl _ _ | exact below_new _ _))).rd).mono ?_; rintro e w34 ⟨rfl, rfl⟩
                        cases rest with
                        | nil =>
                          have hr : Hid (r = pfile (out ++ [(nm, false, [])]) (line + 1) (s.drop (e + 1))) := by (show r = _); rw [HS2.out]; rw [if_neg (by simp), if_neg HNM.out, if_pos rfl]; rfl
                          have GO : Hid (RowG w33 w.heap.size C f out xs) := O33.out
                          have GK : Hid (w33.heap[wd.heap.size]? = some (.cells #[enS nm, .bool false, .slice none 0 0] 87 (0, 0))) := gb33.out
                          have GS : Hid (SetR w33 none []) := SetR.nil
                          have GB : Hid (Below w.heap.size w w33) := B33.out
                          have hg0 := blk_cell GK.out 0
                          have hg1 := blk_cell GK.out 1
                          have hg2 := blk_cell GK.out 2
                          go_wp2_with (at_builtin; refine wpList_append_own _ rfl _ _ 79 rfl w.heap.size 87 i0 z0 3 48 Tryz.underlying79 hif hz0 hz1 hz2 hz3 (by decide) (.slice C out.length f) out.length (mflat xs) rfl (own_below GO.out.own (below_new _ _)) ⟨w33.heap.size, 0, none⟩ 1 1 [enS nm, .bool false, .slice none 0 0] rfl rfl ?c1 ?c2 ?c3 ?c4 ?c5 ?_)
                          case c1 =>
                            intro j u hj
                            rw [addr_addN, new_cell _ _ _ _ _ rfl]
                            simpa using hj
                          case c2 => intro u hu; simp at hu; rcases hu with rfl | rfl | rfl <;> rfl
                          case c3 => unfold maxLen; omega
                          case c4 => omega
                          case c5 => have := GB.out.size; simp at this ⊢; omega
                          intro v' w9 hown9 hg9 _
                          obtain ⟨C9, f9, rfl⟩ := own2_slice hown9
                          have b9 := own_grown_below (own_below GO.out.own (below_new _ (.cells #[enS nm, .bool false, .slice none 0 0] 87))) (by have := GB.out.size; simp at this ⊢; omega) hg9
                          have HO9 := Lib.hid hown9
                          have HG9 := Lib.hid hg9
                          have B9 := Lib.hid ((GB.out.tr (below_new _ (.cells #[enS nm, .bool false, .slice none 0 0] 87))).trans b9)
                          clear hown9 hg9 b9 hg0 hg1 hg2
                          go_wp2_with fail
                          go_roundg (s.length - (e + 1))
                          case measure => omega
                          case rel => exact ⟨e + 1, line + 1, C9, f9, out ++ [(nm, false, [])], xs ++ [((nm, false, []), none, 0)], by omega, by omega, by go_num, by go_num, by rw [List.length_append]; rfl, hr.out.symm, by omega, HLr, by have := HOL.out; rw [List.length_append]; simp; omega, RowG.app GO.out GS.out HO9.out HG9.out, B9.out⟩
                        | cons d t2 =>
                          have bg0 : ∀ h : 0 < (⟨(d :: t2).toArray⟩ : ByteArray).size, (⟨(d :: t2).toArray⟩ : ByteArray)[0]'h = d := fun h => by rw [bget h (by simp)]; simp [List.getD]
                          have hd0 : (⟨(d :: t2).toArray⟩ : ByteArray).size = t2.length + 1 := by show (d :: t2).toArray.size = _; simp
                          simp only [List.length_cons] at hrl
                          by_cases hd : d = 32
                          case neg =>
                            have e1 : ((d.toNat : Int) != 32) = true := by
                              simp; intro e; exact hd (UInt8.toNat_inj.1 (by simpa using (by omega : d.toNat = 32)))
                            have e2 : (d.toNat != 32) = true := by
                              simp; intro e; exact hd (UInt8.toNat_inj.1 (by simpa using e))
                            have hr : Hid (r = .inr (line, 3)) := by (show r = _); rw [HS2.out]; rw [if_neg (by simp), if_neg HNM.out, if_neg (by simp), if_pos (by left; simpa using hd)]
                            go_wp2_with fail
                            go_ret3
                            rw [hr.out]
                            exact ⟨B33.out, rfl⟩
                          case pos =>
                            subst hd
                            have e1 : (((32 : UInt8).toNat : Int) != 32) = false := by decide
                            have e2 : ((32 : UInt8).toNat != 32) = false := by decide
                            cases t2 with
                            | nil =>
                              simp only [List.length_nil, Nat.zero_add] at hd0 hrl
                              have hr : Hid (r = .inr (line, 3)) := by (show r = _); rw [HS2.out]; rw [if_neg (by simp), if_neg HNM.out, if_neg (by simp), if_pos (by right; rfl)]
                              go_wp2_with fail
                              go_ret3
                              rw [hr.out]
                              exact ⟨B33.out, rfl⟩
                            | cons d2 t3 =>
                              simp only [List.length_cons] at hrl hd0
                              have hx3 : (⟨((32 : UInt8) :: d2 :: t3).toArray⟩ : ByteArray).extract 1 (t3.length + 1 + 1) = ⟨(d2 :: t3).toArray⟩ := by
                                have := ext_drop (32 :: d2 :: t3) 1
                                simpa using this
                              have hpl := parts_length_le 44 (d2 :: t3)
                              have HPs := Lib.hid (fun W => refParseSetT_any (d2 :: t3) W (by simp only [List.length_cons]; omega) (by simp only [List.length_cons] at hpl; omega))
                              have e5 : (((t3.length : Int) + 1 + 1) == 1) = false := by simp; omega
                              cases hps : pset (d2 :: t3) with
                              | inr er =>
                                obtain ⟨at_, er⟩ := er
                                obtain ⟨p1, p2, p3⟩ := ps_inr hps
                                have her := pset_err hps
                                rw [p1, p2, p3] at HPs
                                have q8 : ((er : Int) != 0) = true := by simp; omega
                                have HPE := Lib.hid hps
                                clear hps p1 p2 p3
                                go_wp2_with fail
                                refine (HPs.out _).mono ?_; rintro e w35 ⟨Y, y, rfl, hsr, b⟩
                                have b' : Below w33.heap.size w33 w35 := Below.tr (by first | exact Below.refl _ _ | exact below_new _ _) b
                                clear b
                                have O35 := Lib.hid (O33.out.below b'); clear O33
                                have gb35 := Lib.hid (blk_below b' gb33.out); clear gb33
                                have B35 := Lib.hid (B33.out.tr b'); clear B33
                                clear b'
                                have SR35 := Lib.hid hsr; clear hsr
                                have hr : Hid (r = .inr (line, er)) := by (show r = _); rw [HS2.out]; rw [if_neg (by simp), if_neg HNM.out, if_neg (by simp), if_neg (by simp)]; simp only [List.drop_succ_cons, List.drop_zero, HPE.out]
                                go_wp2_with fail
                                go_ret3
                                rw [hr.out]
                                exact ⟨B35.out, rfl⟩
                              | inl l =>
                                obtain ⟨p1, p2, p3⟩ := ps_inl hps
                                rw [p1, p2, p3] at HPs
                                have HPE := Lib.hid hps
                                clear hps p1 p2 p3
                                go_wp2_with fail
                                refine (HPs.out _).mono ?_; rintro e w35 ⟨Y, y, rfl, hsr, b⟩
                                have b' : Below w33.heap.size w33 w35 := Below.tr (by first | exact Below.refl _ _ | exact below_new _ _) b
                                clear b
                                have O35 := Lib.hid (O33.out.below b'); clear O33
                                have gb35 := Lib.hid (blk_below b' gb33.out); clear gb33
                                have B35 := Lib.hid (B33.out.tr b'); clear B33
                                clear b'
                                have SR35 := Lib.hid hsr; clear hsr
                                have hr : Hid (r = pfile (out ++ [(nm, false, l)]) (line + 1) (s.drop (e + 1))) := by (show r = _); rw [HS2.out]; rw [if_neg (by simp), if_neg HNM.out, if_neg (by simp), if_neg (by simp)]; simp only [List.drop_succ_cons, List.drop_zero, HPE.out]; rfl
                                have GO : Hid (RowG (w35.setCell ⟨wd.heap.size, 2, none⟩ (.slice Y l.length y)) w.heap.size C f out xs) := O35.out.set ⟨_, _, gb35.out⟩ (fun a ha => by have := HCW.out a ha; omega)
                                have GK : Hid ((w35.setCell ⟨wd.heap.size, 2, none⟩ (.slice Y l.length y)).heap[wd.heap.size]? = some (.cells #[enS nm, .bool false, .slice Y l.length y] 87 (0, 0))) := Lib.hid (by have h := blk_set gb35.out 2 (.slice Y l.length y); simpa using h)
                                have GS : Hid (SetR (w35.setCell ⟨wd.heap.size, 2, none⟩ (.slice Y l.length y)) Y l) := SR35.out.set ⟨_, _, gb35.out⟩ (by decide)
                                have GB : Hid (Below w.heap.size w (w35.setCell ⟨wd.heap.size, 2, none⟩ (.slice Y l.length y))) := B35.out.setCell (p := ⟨wd.heap.size, 2, none⟩) hwd _
                                have hc0 := blk_cell gb35.out 0
                                have hc1 := blk_cell gb35.out 1
                                have hc2 := blk_cell gb35.out 2
                                have hf2 := blk_free gb35.out 2
                                go_wp2_with (at_builtin; refine wpList_append_own _ rfl _ _ 79 rfl w.heap.size 87 i0 z0 3 48 Tryz.underlying79 hif hz0 hz1 hz2 hz3 (by decide) (.slice C out.length f) out.length (mflat xs) rfl (own_below GO.out.own (below_new _ _)) ⟨w35.heap.size, 0, none⟩ 1 1 [enS nm, .bool false, .slice Y l.length y] rfl rfl ?c1 ?c2 ?c3 ?c4 ?c5 ?_)
                                case c1 =>
                                  intro j u hj
                                  rw [addr_addN, new_cell _ _ _ _ _ (by simp [World.setCell])]
                                  simpa using hj
                                case c2 => intro u hu; simp at hu; rcases hu with rfl | rfl | rfl <;> rfl
                                case c3 => unfold maxLen; omega
                                case c4 => omega
                                case c5 => have := GB.out.size; simp at this ⊢; omega
                                intro v' w9 hown9 hg9 _
                                obtain ⟨C9, f9, rfl⟩ := own2_slice hown9
                                have b9 := own_grown_below (own_below GO.out.own (below_new _ (.cells #[enS nm, .bool false, .slice Y l.length y] 87))) (by have := GB.out.size; simp at this ⊢; omega) hg9
                                have HO9 := Lib.hid hown9
                                have HG9 := Lib.hid hg9
                                have B9 := Lib.hid ((GB.out.tr (below_new _ (.cells #[enS nm, .bool false, .slice Y l.length y] 87))).trans b9)
                                clear hown9 hg9 b9 hc0 hc1 hc2 hf2
                                go_wp2_with fail
                                go_roundg (s.length - (e + 1))
                                case measure => omega
                                case rel => exact ⟨e + 1, line + 1, C9, f9, out ++ [(nm, false, l)], xs ++ [((nm, false, l), Y, y)], by omega, by omega, by go_num, by go_num, by rw [List.length_append]; rfl, hr.out.symm, by omega, HLr, by have := HOL.out; rw [List.length_append]; simp; omega, RowG.app GO.out GS.out HO9.out HG9.out, B9.out⟩
                  case neg =>
                    have e1 : ((c.toNat : Int) != 58) = true := by
                      simp; intro e; exact h58 (UInt8.toNat_inj.1 (by simpa using (by omega : c.toNat = 58)))
                    have e2 : (c.toNat != 58) = true := by
                      simp; intro e; exact h58 (UInt8.toNat_inj.1 (by simpa using e))
                    have e3 : ((c.toNat : Int) != 33) = true := by
                      simp; intro e; exact h33 (UInt8.toNat_inj.1 (by simpa using (by omega : c.toNat = 33)))
                    have e4 : (c.toNat != 33) = true := by
                      simp; intro e; exact h33 (UInt8.toNat_inj.1 (by simpa using e))
                    have N2 : Hid (∀ j, 0 ≤ j → j < k + 1 → nb (t.getD j 0) = true) := fun j h1 h2 => by
                      rcases Nat.lt_or_ge j k with h | h
                      · exact N.out j h1 h
                      · obtain rfl : j = k := by omega
                        rw [HC.out]; simp [nb, h58, h33]
                    clear h58 h33
                    go_wp2_with fail
                    go_roundg (t.length - (k + 1))
                    case measure => omega
                    case rel => exact ⟨k + 1, by omega, by omega, by go_num, N2.out, rfl⟩
end Go.Proofs.YtcpennlojjlpaaaGreatDoor
