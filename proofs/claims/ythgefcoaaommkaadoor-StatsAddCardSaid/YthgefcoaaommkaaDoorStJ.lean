/- Contract: an event added to statistics. -/
import Derived.Test.YthgefcoaaommkaaDoorStE
import Derived.Test.YthgefcoaaommkaaDoorStI
namespace Go.Proofs.YthgefcoaaommkaaDoor
open Go.RowKit Go.Gn Go.Sr Go.Maps

/-- Counts up to a bound. -/
def bndL {κ : Type} (L : List (κ × C)) (B : Int) : Prop := ∀ q ∈ L, 0 ≤ q.2.1 ∧ q.2.1 ≤ B ∧ 0 ≤ q.2.2 ∧ q.2.2 ≤ B
theorem bndL.mono {κ : Type} {L : List (κ × C)} {B B' : Int} (h : bndL L B) (hB : B ≤ B') : bndL L B' := fun q hq => by have := h q hq; omega
theorem bndL.get {κ : Type} [DecidableEq κ] {L : List (κ × C)} {B : Int} (h : bndL L B) (hB : 0 ≤ B) (k : κ) : 0 ≤ ((getA L k).getD (0, 0)).1 ∧ ((getA L k).getD (0, 0)).1 ≤ B ∧ 0 ≤ ((getA L k).getD (0, 0)).2 ∧ ((getA L k).getD (0, 0)).2 ≤ B := by
  cases hg : getA L k with
  | none => simp; exact hB
  | some c => exact h _ (getA_some hg)
theorem bndL.add {κ : Type} [DecidableEq κ] {L : List (κ × C)} {B : Int} (h : bndL L B) (hB : 0 ≤ B) (k : κ) {c : C} (h1 : 0 ≤ c.1 ∧ c.1 ≤ 65536) (h2 : 0 ≤ c.2 ∧ c.2 ≤ 65536) : bndL (addA L k c) (B + 65536) := fun q hq => by
  rcases (mem_putA q).1 hq with rfl | ⟨hq, _⟩
  · have := h.get hB k
    simp only [plus]; omega
  · have := h q hq; omega
theorem bndL.addAll {κ : Type} [DecidableEq κ] {c : C} (h1 : 0 ≤ c.1 ∧ c.1 ≤ 65536) (h2 : 0 ≤ c.2 ∧ c.2 ≤ 65536) : ∀ (ks : List κ) {L : List (κ × C)} {B : Int}, bndL L B → 0 ≤ B → bndL (addAll ks c L) (B + ks.length * 65536)
  | [], L, B, h, _ => by simpa [Go.Sr.addAll] using h
  | k :: r, L, B, h, hB => by
    have := bndL.addAll h1 h2 r (h.add hB k h1 h2) (by omega)
    refine bndL.mono this ?_
    simp only [List.length_cons]; omega
theorem addA_length {κ : Type} [DecidableEq κ] (L : List (κ × C)) (k : κ) (c : C) : (addA L k c).length ≤ L.length + 1 := by
  unfold addA
  rw [putA_length]; split <;> omega
theorem addAll_length {κ : Type} [DecidableEq κ] (c : C) : ∀ (ks : List κ) (L : List (κ × C)), (addAll ks c L).length ≤ L.length + ks.length
  | [], L => by simp [Go.Sr.addAll]
  | k :: r, L => by
    have h1 := addAll_length c r (addA L k c)
    have h2 := addA_length L k c
    show (addAll r c (addA L k c)).length ≤ _
    simp only [List.length_cons]; omega
theorem bndL.ok {κ : Type} [DecidableEq κ] {L : List (κ × C)} {B : Int} (h : bndL L B) (hB : 0 ≤ B) (hb : B ≤ 100000000000) (k : κ) : okC ((getA L k).getD (0, 0)) := by
  have := h.get hB k
  unfold okC; omega
theorem bndL.small {κ : Type} {L : List (κ × C)} {B : Int} (h : bndL L B) (hb : B ≤ 100000000000) : ∀ q ∈ L, smallC q.2 := fun q hq => by
  have := h q hq
  unfold smallC; omega
theorem addAll_take {κ : Type} [DecidableEq κ] (f : List UInt8 → κ) (c : C) (L : List (κ × C)) {l : List (List UInt8)} {k : Nat} {x : List UInt8} (h : l[k]? = some x) : addAll ((l.take (k + 1)).map f) c L = addA (addAll ((l.take k).map f) c L) (f x) c := by
  obtain ⟨hl, hx⟩ := List.getElem?_eq_some_iff.1 h
  rw [List.take_succ_eq_append_getElem hl, hx, List.map_append, addAll_append]
  rfl
theorem StM.putZ {w : World} {p bd bn : Nat} {ds : List (Int × C)} {ns : List (Ky × C)} {zs : List Int} (h : StM w p bd bn ds ns zs) {k : Nat} (_hk : k < 18) (v : Int) : StM (w.setCell ⟨p, 2 + k, none⟩ (i64 v)) p bd bn ds ns (zs.set k v) := by
  refine ⟨?_, h.md.keep (blk_set_ne _ _ h.pd.symm), h.mn.keep (blk_set_ne _ _ h.pn.symm), h.ne, by rw [List.length_set]; exact h.zl⟩
  rw [blk_set h.blk]
  congr 2
  rw [Nat.add_comm 2 k]
  simp [List.map_set]
theorem check_len {s : List UInt8} (h : check s = 0) : s.length ≤ 80 := ((check_zero s).1 h).1
set_option maxRecDepth 100000 in
set_option maxHeartbeats 4000000 in
theorem add_no (p bd bn : Nat) (ds : List (Int × C)) (ns : List (Ky × C)) (zs : List Int) (m : EvM) (w : World) (hg : GoodM w m) (hf : FewM m) (hE : Env w) (h : StM w p bd bn ds ns zs) (hc : chkE m.e ≠ 0) (hcr : chkE m.e ≤ 12) :
    Calls Tryd.prog 17 #[.pointer (some ⟨p, 0, none⟩), evA m] w fun e w' => e = .returned (.int .i64 (chkE m.e : Nat)) ∧ StM w' p bd bn ds ns zs ∧ Below w.heap.size w w' := by
  obtain ⟨ev, ga, gc, sa, sc⟩ := m
  have hch := evCheck_any ⟨ev, ga, gc, sa, sc⟩ (w.alloc (.cells #[i64 ev.minute, auB ev.author 0, auB ev.author 1, auB ev.author 2, auB ev.author 3, auB ev.author 4, auB ev.author 5, auB ev.author 6, auB ev.author 7, auB ev.author 8, auB ev.author 9, auB ev.author 10, auB ev.author 11, auB ev.author 12, auB ev.author 13, auB ev.author 14, auB ev.author 15, .slice ga ev.groups.length gc, .slice sa ev.sites.length sc, i64 ev.bytes] 37)) (hg.below (below_new _ _)) hf (hE.below (below_new _ _))
  have H0 := Lib.hid h
  dsimp only at hc hcr hch ⊢
  obtain ⟨v, hv⟩ : ∃ q, chkE ev = q := ⟨_, rfl⟩
  rw [hv] at hch hc hcr ⊢
  clear hg hf hE h hv
  unfold evA evL at *
  dsimp only at hch ⊢
  have hrg := range_blk (cs := [i64 ev.minute, auB ev.author 0, auB ev.author 1, auB ev.author 2, auB ev.author 3, auB ev.author 4, auB ev.author 5, auB ev.author 6, auB ev.author 7, auB ev.author 8, auB ev.author 9, auB ev.author 10, auB ev.author 11, auB ev.author 12, auB ev.author 13, auB ev.author 14, auB ev.author 15, .slice ga ev.groups.length gc, .slice sa ev.sites.length sc, i64 ev.bytes]) (blk_new w (.cells #[i64 ev.minute, auB ev.author 0, auB ev.author 1, auB ev.author 2, auB ev.author 3, auB ev.author 4, auB ev.author 5, auB ev.author 6, auB ev.author 7, auB ev.author 8, auB ev.author 9, auB ev.author 10, auB ev.author 11, auB ev.author 12, auB ev.author 13, auB ev.author 14, auB ev.author 15, .slice ga ev.groups.length gc, .slice sa ev.sites.length sc, i64 ev.bytes] 37))
  go_enter Tryd.func17, Tryd.ntmps17
  go_wp2_with (refine wpList_load_mid rfl 37 _ rfl w.heap.size 0 rfl [i64 ev.minute, auB ev.author 0, auB ev.author 1, auB ev.author 2, auB ev.author 3, auB ev.author 4, auB ev.author 5, auB ev.author 6, auB ev.author 7, auB ev.author 8, auB ev.author 9, auB ev.author 10, auB ev.author 11, auB ev.author 12, auB ev.author 13, auB ev.author 14, auB ev.author 15, .slice ga ev.groups.length gc, .slice sa ev.sites.length sc, i64 ev.bytes] _ hrg Tryd.underlying37 rfl ev_size ?_)
  clear hrg
  refine hch.mono ?_; rintro e w1 ⟨rfl, b1⟩
  clear hch
  have hlb : ((v : Int) != 0) = true := by simp; omega
  have B := Lib.hid ((below_new w (.cells #[i64 ev.minute, auB ev.author 0, auB ev.author 1, auB ev.author 2, auB ev.author 3, auB ev.author 4, auB ev.author 5, auB ev.author 6, auB ev.author 7, auB ev.author 8, auB ev.author 9, auB ev.author 10, auB ev.author 11, auB ev.author 12, auB ev.author 13, auB ev.author 14, auB ev.author 15, .slice ga ev.groups.length gc, .slice sa ev.sites.length sc, i64 ev.bytes] 37)).tr b1)
  clear b1
  go_wp2_with fail
  go_ret
  exact ⟨rfl, H0.out.below B.out, B.out⟩
set_option maxRecDepth 100000 in
set_option maxHeartbeats 8000000 in
theorem add_yes (p bd bn : Nat) (ds : List (Int × C)) (ns : List (Ky × C)) (zs : List Int) (m : EvM) (w : World) (B : Int) (hg : GoodM w m) (hf : FewM m) (hE : Env w) (h : StM w p bd bn ds ns zs) (hc : chkE m.e = 0)
    (hB0 : 0 ≤ B) (hB1 : B ≤ 10000000000) (hbd : bndL ds B) (hbn : bndL ns B) (hap : (0 < m.e.groups.length → ∀ b o, m.ga = some ⟨b, o, none⟩ → b ≠ p ∧ b ≠ bd ∧ b ≠ bn) ∧ (0 < m.e.sites.length → ∀ b o, m.sa = some ⟨b, o, none⟩ → b ≠ p ∧ b ≠ bd ∧ b ≠ bn)) (hzs : ∀ k, 0 ≤ zs.getD k 0 ∧ zs.getD k 0 ≤ 1000000000000) (hld : ds.length ≤ 10000) (hln : ns.length ≤ 100000) (htot : (sumC (ds.map (·.2))).1 < 1000000) :
    Calls Tryd.prog 17 #[.pointer (some ⟨p, 0, none⟩), evA m] w fun e w' => e = .returned (.int .i64 0) ∧ StM w' p bd bn (addA ds (dayE m.e) (oneE m.e)) (addAll (keysE m.e) (oneE m.e) ns) (upAt zs (blen m.e.bytes)) ∧ ButL [p, bd, bn] w w' := by
  obtain ⟨ev, ga, gc, sa, sc⟩ := m
  have hch := evCheck_any ⟨ev, ga, gc, sa, sc⟩ (w.alloc (.cells #[i64 ev.minute, auB ev.author 0, auB ev.author 1, auB ev.author 2, auB ev.author 3, auB ev.author 4, auB ev.author 5, auB ev.author 6, auB ev.author 7, auB ev.author 8, auB ev.author 9, auB ev.author 10, auB ev.author 11, auB ev.author 12, auB ev.author 13, auB ev.author 14, auB ev.author 15, .slice ga ev.groups.length gc, .slice sa ev.sites.length sc, i64 ev.bytes] 37)) (hg.below (below_new _ _)) hf (hE.below (below_new _ _))
  have H0 := Lib.hid h
  dsimp only at hc hch ⊢
  have HGE := Lib.hid (chkE_zero hc)
  rw [hc] at hch
  have hau : ev.author.length = 16 := hg.au
  have HRG : Hid (Rd w ga ev.groups) := Lib.hid hg.rg
  have HRS : Hid (Rd w sa ev.sites) := Lib.hid hg.rs
  have hm0 := HGE.out.minute.1
  have hm1 := HGE.out.minute.2
  have hb0 := HGE.out.bytes.1
  have hb1 := HGE.out.bytes.2
  have hng : ev.groups.length ≤ 20 := HGE.out.ng.2
  have hns : ev.sites.length ≤ 50 := HGE.out.ns
  have HZS := Lib.hid hzs
  have HAP : Hid ((0 < ev.groups.length → ∀ b o, ga = some ⟨b, o, none⟩ → b ≠ p ∧ b ≠ bd ∧ b ≠ bn) ∧ (0 < ev.sites.length → ∀ b o, sa = some ⟨b, o, none⟩ → b ≠ p ∧ b ≠ bd ∧ b ≠ bn)) := Lib.hid hap
  have HBD := Lib.hid hbd
  have HBN := Lib.hid hbn
  have htt := total_any p bd bn ds ns zs
  clear hg hf hE h hc hbd hbn hap hzs
  unfold evA evL at *
  dsimp only at hch ⊢
  have hrg := range_blk (cs := [i64 ev.minute, auB ev.author 0, auB ev.author 1, auB ev.author 2, auB ev.author 3, auB ev.author 4, auB ev.author 5, auB ev.author 6, auB ev.author 7, auB ev.author 8, auB ev.author 9, auB ev.author 10, auB ev.author 11, auB ev.author 12, auB ev.author 13, auB ev.author 14, auB ev.author 15, .slice ga ev.groups.length gc, .slice sa ev.sites.length sc, i64 ev.bytes]) (blk_new w (.cells #[i64 ev.minute, auB ev.author 0, auB ev.author 1, auB ev.author 2, auB ev.author 3, auB ev.author 4, auB ev.author 5, auB ev.author 6, auB ev.author 7, auB ev.author 8, auB ev.author 9, auB ev.author 10, auB ev.author 11, auB ev.author 12, auB ev.author 13, auB ev.author 14, auB ev.author 15, .slice ga ev.groups.length gc, .slice sa ev.sites.length sc, i64 ev.bytes] 37))
  go_enter Tryd.func17, Tryd.ntmps17
  go_wp2_with (refine wpList_load_mid rfl 37 _ rfl w.heap.size 0 rfl [i64 ev.minute, auB ev.author 0, auB ev.author 1, auB ev.author 2, auB ev.author 3, auB ev.author 4, auB ev.author 5, auB ev.author 6, auB ev.author 7, auB ev.author 8, auB ev.author 9, auB ev.author 10, auB ev.author 11, auB ev.author 12, auB ev.author 13, auB ev.author 14, auB ev.author 15, .slice ga ev.groups.length gc, .slice sa ev.sites.length sc, i64 ev.bytes] _ hrg Tryd.underlying37 rfl ev_size ?_)
  clear hrg
  refine hch.mono ?_; rintro e w1 ⟨rfl, b1⟩
  clear hch
  have HK1 := Lib.hid (blk_below b1 (blk_new w (.cells #[i64 ev.minute, auB ev.author 0, auB ev.author 1, auB ev.author 2, auB ev.author 3, auB ev.author 4, auB ev.author 5, auB ev.author 6, auB ev.author 7, auB ev.author 8, auB ev.author 9, auB ev.author 10, auB ev.author 11, auB ev.author 12, auB ev.author 13, auB ev.author 14, auB ev.author 15, .slice ga ev.groups.length gc, .slice sa ev.sites.length sc, i64 ev.bytes] 37)))
  have B1 := Lib.hid ((below_new w (.cells #[i64 ev.minute, auB ev.author 0, auB ev.author 1, auB ev.author 2, auB ev.author 3, auB ev.author 4, auB ev.author 5, auB ev.author 6, auB ev.author 7, auB ev.author 8, auB ev.author 9, auB ev.author 10, auB ev.author 11, auB ev.author 12, auB ev.author 13, auB ev.author 14, auB ev.author 15, .slice ga ev.groups.length gc, .slice sa ev.sites.length sc, i64 ev.bytes] 37)).tr b1)
  have H1 := Lib.hid (H0.out.below B1.out)
  clear b1
  go_wp2_with fail
  refine (total_any p bd bn ds ns zs w1 H1.out (HBD.out.small (by omega)) (by omega)).mono ?_; rintro e w2 ⟨rfl, b2⟩
  have HK2 := Lib.hid (blk_below b2 HK1.out)
  have B2 := Lib.hid (B1.out.tr b2)
  have H2 := Lib.hid (H1.out.below b2)
  clear b2 H1 B1 HK1
  obtain ⟨tt, htt2⟩ : ∃ q, sumC (ds.map (·.2)) = q := ⟨_, rfl⟩
  rw [htt2] at htot ⊢
  obtain ⟨t1, t2⟩ := tt
  simp only at htot
  have hbx := blk_lt HK2.out
  have k0 := blk_cell HK2.out 0
  unfold cV
  dsimp only
  have hfd : ∀ (a b : Int) (u : World), (Instr.field 29 (.agg #[i64 a, i64 b]) 0).run Tryd.prog u = .ok (i64 a) u := fun _ _ _ => by kernel_rfl
  go_wp2_with fail
  refine (day_yes ev.minute w2 hm0 hm1).mono ?_; rintro e w2' ⟨rfl, rfl⟩
  have k19 := blk_cell HK2.out 19
  go_wp2_with fail
  have hday : (Lit.int .i64 (ev.minute / 1440)).wf = true := by
    have em : IntKind.i64.min = -9223372036854775808 := by decide
    have eM : IntKind.i64.max = 9223372036854775807 := by decide
    simp [Lit.wf, em, eM]; omega
  have hone : okC (1, ev.bytes) := by unfold okC; simp only; omega
  have B3 := Lib.hid (B2.out.tr (below_new w2 (.cells #[i64 1, i64 ev.bytes] 29)))
  have H3 := Lib.hid (H2.out.below (below_new w2 (.cells #[i64 1, i64 ev.bytes] 29)))
  have HK3 := Lib.hid (blk_below (below_new w2 (.cells #[i64 1, i64 ev.bytes] 29)) HK2.out)
  have HO3 := Lib.hid (blk_new w2 (.cells #[i64 1, i64 ev.bytes] 29))
  have hbo := hbx
  clear k0 k19 hfd H2 B2 HK2
  refine (count_any p bd bn ds ns zs (ev.minute / 1440) (1, ev.bytes) (w2.alloc (.cells #[i64 1, i64 ev.bytes] 29)) H3.out hday hone (HBD.out.ok hB0 (by omega) _) (by omega)).mono ?_; rintro e w4 ⟨rfl, h4, b4⟩
  obtain ⟨ds4, hds4⟩ : ∃ q, addA ds (ev.minute / 1440) (1, ev.bytes) = q := ⟨_, rfl⟩
  rw [hds4] at h4
  have HD4 := Lib.hid hds4
  have H4 := Lib.hid h4
  have hpl := H0.out.lp
  have hdl := H0.out.ld
  have hnl := H0.out.ln
  have HK4 := Lib.hid ((b4.block w.heap.size (blk_lt HK3.out) (by simp; omega)).trans HK3.out)
  have HO4 := Lib.hid ((b4.block w2.heap.size (blk_lt HO3.out) (by simp; omega)).trans HO3.out)
  have BL4 := Lib.hid ((ButL.of_below B3.out : ButL [p, bd, bn] w _).trans (b4.sub (by simp)))
  have hbo1 : w.heap.size < w2.heap.size := hbo
  clear h4 b4 H3 B3 HK3 HO3 hds4 hbo hbx
  generalize w2.heap.size = bo at *
  have hcb := blk_lt HK4.out
  have hob := blk_lt HO4.out
  have k17 := blk_cell HK4.out 17
  go_wp2_with fail
  clear k17 hcb hob
  go_loopg [10, 43] ev.groups.length (fun gg _ iv wr => ∃ k : Nat, k ≤ ev.groups.length ∧ ev.groups.length - k ≤ gg ∧ iv = .int .i64 k ∧ Hid (StM wr p bd bn ds4 (addAll ((ev.groups.take k).map fun g => (dayE ev, 1, g)) (oneE ev) ns) zs) ∧ Hid (ButL [p, bd, bn] w4 wr))
  case atStart => exact ⟨0, by omega, by omega, rfl, H4, Lib.hid (ButL.refl _ _)⟩
  case round =>
    obtain ⟨k, hk, hgk, rfl, H5, BL5⟩ := hrel
    have HK5 := Lib.hid ((BL5.out.block w.heap.size (blk_lt HK4.out) (by simp; omega)).trans HK4.out)
    have HO5 := Lib.hid ((BL5.out.block bo (blk_lt HO4.out) (by simp; omega)).trans HO4.out)
    have BLW := Lib.hid (BL4.out.trans BL5.out)
    by_cases hlt : k < ev.groups.length
    · obtain ⟨b, oa, x, hga, hbl, hxk, hcell⟩ := HRG.out.at_ hlt
      subst hga
      have hxm := List.mem_of_getElem? hxk
      have hxl := check_len (HGE.out.groups x hxm)
      have hbr : b ≠ p ∧ b ≠ bd ∧ b ≠ bn := HAP.out.1 (by omega) b oa rfl
      have hcell2 : wr.cell? ⟨b, oa + k, none⟩ = some (enS x) := by rw [World.cell?_of_block (w := w) (BLW.out.block b hbl (by simp; omega))]; exact hcell
      have hat := addAll_take (fun g => (dayE ev, (1 : Int), g)) (oneE ev) ns hxk
      have o0 := blk_cell HO5.out 0
      have o1 := blk_cell HO5.out 1
      have hlen := addAll_length (oneE ev) ((ev.groups.take k).map fun g => (dayE ev, (1 : Int), g)) ns
      rw [List.length_map, List.length_take] at hlen
      have hbb := bndL.addAll (c := oneE ev) (by unfold oneE; omega) (by unfold oneE; omega) ((ev.groups.take k).map fun g => (dayE ev, (1 : Int), g)) HBN.out (by omega)
      have hbb2 := hbb.mono (B' := B + 50 * 65536) (by rw [List.length_map, List.length_take]; omega)
      have HBB := Lib.hid hbb2
      have HAT := Lib.hid hat
      clear hcell hxk hxm hat hbb hbb2 hbr
      generalize addAll ((ev.groups.take k).map fun g => (dayE ev, (1 : Int), g)) (oneE ev) ns = ns5 at *
      go_wp2_with fail
      refine (countName_any p bd bn ds4 ns5 zs (ev.minute / 1440, 1, x) (1, ev.bytes) wr H5.out ⟨hday, (show (Lit.int .i64 1).wf = true by decide), by unfold maxLen; simp only; omega⟩ hone (HBB.out.ok (by omega) (by omega) _) (by omega)).mono ?_; rintro e w6 ⟨rfl, h6, b6⟩
      have h6' : StM w6 p bd bn ds4 (addAll ((ev.groups.take (k + 1)).map fun g => (dayE ev, 1, g)) (oneE ev) ns) zs := by rw [HAT.out]; exact h6
      have H6 := Lib.hid h6'
      have BL6 := Lib.hid (BL5.out.trans (b6.sub (S := [p, bd, bn]) (by simp)))
      clear h6 h6' b6
      go_wp2_with fail
      go_roundg (ev.groups.length - (k + 1))
      case measure => omega
      case rel => exact ⟨k + 1, by omega, by omega, by go_num, H6, BL6⟩
    · obtain rfl : k = ev.groups.length := by omega
      rw [List.take_length] at H5
      have hlen := addAll_length (oneE ev) (ev.groups.map fun g => (dayE ev, (1 : Int), g)) ns
      rw [List.length_map] at hlen
      have hbb := bndL.addAll (c := oneE ev) (by unfold oneE; omega) (by unfold oneE; omega) (ev.groups.map fun g => (dayE ev, (1 : Int), g)) HBN.out (by omega)
      have hbb2 := hbb.mono (B' := B + 50 * 65536) (by rw [List.length_map]; omega)
      obtain ⟨ns1, hn1⟩ : ∃ q, addAll (ev.groups.map fun g => (dayE ev, (1 : Int), g)) (oneE ev) ns = q := ⟨_, rfl⟩
      rw [hn1] at H5 hbb2 hlen
      have HN1 := Lib.hid hn1
      have HBN1 := Lib.hid hbb2
      have hB1' : B + 50 * 65536 ≤ 20000000000 := by omega
      obtain ⟨B1', hBe⟩ : ∃ q, B + 50 * 65536 = q := ⟨_, rfl⟩
      rw [hBe] at HBN1 hB1'
      have hB1p : 0 ≤ B1' := by omega
      clear hn1 hbb hbb2 hBe
      obtain ⟨wA, hwA⟩ : ∃ u : World, u = wr := ⟨_, rfl⟩
      subst hwA
      have H7 := Lib.hid H5.out
      have hkb := blk_lt HK5.out
      have k18 := blk_cell HK5.out 18
      clear BL5 H5
      go_wp2_with fail
      clear k18 hkb
      go_loopg [12, 57] ev.sites.length (fun gg _ iv wr => ∃ k : Nat, k ≤ ev.sites.length ∧ ev.sites.length - k ≤ gg ∧ iv = .int .i64 k ∧ Hid (StM wr p bd bn ds4 (addAll ((ev.sites.take k).map fun g => (dayE ev, 2, g)) (oneE ev) ns1) zs) ∧ Hid (ButL [p, bd, bn] wA wr))
      case atStart => exact ⟨0, by omega, by omega, rfl, H7, Lib.hid (ButL.refl _ _)⟩
      case round =>
        obtain ⟨k, hk, hgk, rfl, H5, BL5⟩ := hrel
        have HK8 := Lib.hid ((BL5.out.block w.heap.size (blk_lt HK5.out) (by simp; omega)).trans HK5.out)
        have HO8 := Lib.hid ((BL5.out.block bo (blk_lt HO5.out) (by simp; omega)).trans HO5.out)
        have BLX := Lib.hid (BLW.out.trans BL5.out)
        by_cases hlt : k < ev.sites.length
        · obtain ⟨b, oa, x, hga, hbl, hxk, hcell⟩ := HRS.out.at_ hlt
          subst hga
          have hxm := List.mem_of_getElem? hxk
          have hxl := siteE_zero (HGE.out.sites x hxm)
          have hbr : b ≠ p ∧ b ≠ bd ∧ b ≠ bn := HAP.out.2 (by omega) b oa rfl
          have hcell2 : wr.cell? ⟨b, oa + k, none⟩ = some (enS x) := by rw [World.cell?_of_block (w := w) (BLX.out.block b hbl (by simp; omega))]; exact hcell
          have hat := addAll_take (fun g => (dayE ev, (2 : Int), g)) (oneE ev) ns1 hxk
          have o0 := blk_cell HO8.out 0
          have o1 := blk_cell HO8.out 1
          have hlen := addAll_length (oneE ev) ((ev.sites.take k).map fun g => (dayE ev, (2 : Int), g)) ns1
          rw [List.length_map, List.length_take] at hlen
          have hbb := bndL.addAll (c := oneE ev) (by unfold oneE; omega) (by unfold oneE; omega) ((ev.sites.take k).map fun g => (dayE ev, (2 : Int), g)) HBN1.out (by omega)
          have hbb2 := hbb.mono (B' := B1' + 50 * 65536) (by rw [List.length_map, List.length_take]; omega)
          have HBB := Lib.hid hbb2
          have HAT := Lib.hid hat
          clear hcell hxk hxm hat hbb hbb2 hbr
          generalize addAll ((ev.sites.take k).map fun g => (dayE ev, (2 : Int), g)) (oneE ev) ns1 = ns5 at *
          go_wp2_with fail
          refine (countName_any p bd bn ds4 ns5 zs (ev.minute / 1440, 2, x) (1, ev.bytes) wr H5.out ⟨hday, (show (Lit.int .i64 2).wf = true by decide), by unfold maxLen; simp only; omega⟩ hone (HBB.out.ok (by omega) (by omega) _) (by omega)).mono ?_; rintro e w6 ⟨rfl, h6, b6⟩
          have h6' : StM w6 p bd bn ds4 (addAll ((ev.sites.take (k + 1)).map fun g => (dayE ev, 2, g)) (oneE ev) ns1) zs := by rw [HAT.out]; exact h6
          have H6 := Lib.hid h6'
          have BL6 := Lib.hid (BL5.out.trans (b6.sub (S := [p, bd, bn]) (by simp)))
          clear h6 h6' b6
          go_wp2_with fail
          go_roundg (ev.sites.length - (k + 1))
          case measure => omega
          case rel => exact ⟨k + 1, by omega, by omega, by go_num, H6, BL6⟩
        · obtain rfl : k = ev.sites.length := by omega
          rw [List.take_length] at H5
          have hlen := addAll_length (oneE ev) (ev.sites.map fun g => (dayE ev, (2 : Int), g)) ns1
          rw [List.length_map] at hlen
          have hbb := bndL.addAll (c := oneE ev) (by unfold oneE; omega) (by unfold oneE; omega) (ev.sites.map fun g => (dayE ev, (2 : Int), g)) HBN1.out (by omega)
          have hbb2 := hbb.mono (B' := B1' + 50 * 65536) (by rw [List.length_map]; omega)
          obtain ⟨ns2, hn2⟩ : ∃ q, addAll (ev.sites.map fun g => (dayE ev, (2 : Int), g)) (oneE ev) ns1 = q := ⟨_, rfl⟩
          rw [hn2] at H5 hbb2 hlen
          have HN2 := Lib.hid hn2
          have HBN2 := Lib.hid hbb2
          clear hn2 hbb hbb2
          obtain ⟨wB, hwB⟩ : ∃ u : World, u = wr := ⟨_, rfl⟩
          subst hwB
          have H9 := Lib.hid H5.out
          clear BL5 H5
          go_wp2_with fail
          refine Flow.wp_region_segs (ButL [bn]) (ButL.refl _) (fun _ _ _ => ButL.trans) [([0, 1, 2, 3, 6], 4), ([5], 7)] [] (by kernel_rfl) (by kernel_rfl) ?_
          have H9D := Lib.hid (H9.out.below (Below.refl _ _).drew)
          have BXD := Lib.hid (BLX.out.late (ButL.of_below (Below.refl _ _).drew : ButL [] _ _) (by simp))
          have HKD := Lib.hid (blk_below (Below.refl _ _).drew HK8.out)
          have HOD := Lib.hid (blk_below (Below.refl _ _).drew HO8.out)
          clear H9 BLX HK8 HO8
          generalize World.drew wB = wd at *
          have qa : ∀ t : World, (∃ s : Flow.Cls (ButL [bn] wd), t = s.val) → t.rangeAt w.heap.size 1 [auB ev.author 0, auB ev.author 1, auB ev.author 2, auB ev.author 3, auB ev.author 4, auB ev.author 5, auB ev.author 6, auB ev.author 7, auB ev.author 8, auB ev.author 9, auB ev.author 10, auB ev.author 11, auB ev.author 12, auB ev.author 13, auB ev.author 14, auB ev.author 15] := by
            rintro t ⟨s, rfl⟩
            have hb : s.val.heap[w.heap.size]? = _ := (s.ok.block w.heap.size (blk_lt HKD.out) (by simp; omega)).trans HKD.out
            intro j v hj
            have := range_blk (cs := [i64 ev.minute, auB ev.author 0, auB ev.author 1, auB ev.author 2, auB ev.author 3, auB ev.author 4, auB ev.author 5, auB ev.author 6, auB ev.author 7, auB ev.author 8, auB ev.author 9, auB ev.author 10, auB ev.author 11, auB ev.author 12, auB ev.author 13, auB ev.author 14, auB ev.author 15, .slice ga ev.groups.length gc, .slice sa ev.sites.length sc, i64 ev.bytes]) hb (j + 1) v (by
              rw [List.getElem?_cons_succ]
              have hl := (List.getElem?_eq_some_iff.1 hj).1
              show ([auB ev.author 0, auB ev.author 1, auB ev.author 2, auB ev.author 3, auB ev.author 4, auB ev.author 5, auB ev.author 6, auB ev.author 7, auB ev.author 8, auB ev.author 9, auB ev.author 10, auB ev.author 11, auB ev.author 12, auB ev.author 13, auB ev.author 14, auB ev.author 15] ++ [.slice ga ev.groups.length gc, .slice sa ev.sites.length sc, i64 ev.bytes])[j]? = some v
              rw [List.getElem?_append_left hl]
              exact hj)
            rw [Nat.zero_add] at this
            rw [Nat.add_comm 1 j]; exact this
          have qo0 : ∀ t : Flow.Cls (ButL [bn] wd), t.val.cell? ⟨bo, 0, none⟩ = some (i64 1) := fun t => blk_cell ((t.ok.block bo (blk_lt HOD.out) (by simp; omega)).trans HOD.out) 0
          have qo1 : ∀ t : Flow.Cls (ButL [bn] wd), t.val.cell? ⟨bo, 1, none⟩ = some (i64 ev.bytes) := fun t => blk_cell ((t.ok.block bo (blk_lt HOD.out) (by simp; omega)).trans HOD.out) 1
          have QA := Lib.hid qa
          clear qa
          haveI nonE : Nonempty (Flow.Cls (ButL [bn] wd)) := ⟨⟨wd, ButL.refl _ _⟩⟩
          rw [Flow.wpSegs_cons]
          simp only [Flow.pick, List.getElem?_toArray, List.getElem?_cons_succ, List.getElem?_cons_zero]
          iterate 3 go_big_quiet_step (fail)
          refine BigFrame.wpQuiet_want rfl (fun K hK => quiet_load_mid 34 _ rfl w.heap.size 1 rfl [auB ev.author 0, auB ev.author 1, auB ev.author 2, auB ev.author 3, auB ev.author 4, auB ev.author 5, auB ev.author 6, auB ev.author 7, auB ev.author 8, auB ev.author 9, auB ev.author 10, auB ev.author 11, auB ev.author 12, auB ev.author 13, auB ev.author 14, auB ev.author 15] _ QA.out Tryd.underlying34 rfl (by kernel_rfl) (hK _ ?_))
          clear hK K
          simp only [Act.put, List.setIfInBounds_toArray, List.set_cons_succ, List.set_cons_zero]
          repeat go_big_quiet_step (fail)
          refine wpQuiet_nil ?_
          clear nonE qo0 qo1 QA
          rw [Flow.callAt_eq]
          simp only [List.getElem?_toArray, List.getElem?_cons_succ, List.getElem?_cons_zero]
          rw [if_pos (by rfl)]
          refine Flow.wp_behind (fun K hK => ?_)
          go_wp2_with fail
          refine (authorText_any ev.author wd hau).mono ?_; rintro e w8 ⟨rfl, b8⟩
          refine hK.out _ _ ⟨ButL.of_below b8, ?_⟩
          clear hK K
          have H10 := Lib.hid (H9D.out.below b8)
          have HK10 := Lib.hid (blk_below b8 HKD.out)
          have BX10 := Lib.hid (BXD.out.trans (ButL.of_below b8))
          clear b8 H9D HKD BXD HOD
          haveI nonE : Nonempty (Flow.Cls (ButL [bn] w8)) := ⟨⟨w8, ButL.refl _ _⟩⟩
          rw [Flow.wpSegs_cons]
          simp only [Flow.pick, List.getElem?_toArray, List.getElem?_cons_succ, List.getElem?_cons_zero]
          refine BigFrame.wpQuiet_want rfl (fun K hK => quiet_build 59 _ rfl #[i64 (ev.minute / 1440), i64 3, enS (hexT ev.author)] (by kernel_rfl) (hK _ ?_))
          clear hK K
          simp only [Act.put, List.setIfInBounds_toArray, List.set_cons_succ, List.set_cons_zero]
          refine wpQuiet_nil ?_
          clear nonE
          rw [Flow.callAt_eq]
          simp only [List.getElem?_toArray, List.getElem?_cons_succ, List.getElem?_cons_zero]
          rw [if_pos (by rfl)]
          refine Flow.wp_behind (fun K hK => ?_)
          go_wp2_with fail
          have hxl := hexT_length ev.author
          refine (countName_any p bd bn ds4 ns2 zs (ev.minute / 1440, 3, hexT ev.author) (1, ev.bytes) w8 H10.out ⟨hday, (show (Lit.int .i64 3).wf = true by decide), by unfold maxLen; simp only; omega⟩ hone (HBN2.out.ok (by omega) (by omega) _) (by omega)).mono ?_; rintro e w9 ⟨rfl, h11, b11⟩
          refine hK.out _ _ ⟨b11, ?_⟩
          clear hK K
          have H11 := Lib.hid h11
          have HK11 := Lib.hid ((b11.block w.heap.size (blk_lt HK10.out) (by simp; omega)).trans HK10.out)
          have BX11 := Lib.hid (BX10.out.trans (b11.sub (S := [p, bd, bn]) (by simp)))
          clear h11 b11 H10 HK10 BX10
          rw [Flow.wpSegs_nil]
          simp only [Flow.pick]
          refine wpQuiet_nil ?_
          go_wp2_with fail
          refine Flow.wp_region_pre Flow.Later Flow.Later.refl Flow.Later.trans [13] (.held [0, 1, 2, 3, 5, 6] (.pure [10, 11] (.call 4 (.pure [7] (.held [8] (.pure [9, 12] (.tail (.step [] 13 (.done []))))))))) (by kernel_rfl) (by kernel_rfl) ?_
          have H12 := Lib.hid (H11.out.below (Below.refl _ _).drew)
          have HK12 := Lib.hid (blk_below (Below.refl _ _).drew HK11.out)
          have BX12 := Lib.hid (BX11.out.trans (ButL.of_below (Below.refl _ _).drew))
          clear H11 HK11 BX11
          generalize World.drew w9 = wd2 at *
          have qb : ∀ t : Flow.Cls (Flow.Later wd2), t.val.cell? ⟨w.heap.size, 19, none⟩ = some (i64 ev.bytes) := fun t => Flow.cls_cell (blk_cell HK12.out 19) t
          haveI nonE := Flow.cls_nonempty wd2
          rw [Flow.wpPre_held]
          simp only [Flow.pick, List.getElem?_toArray, List.getElem?_cons_succ, List.getElem?_cons_zero]
          repeat go_big_quiet_step (fail)
          refine wpQuiet_nil ?_
          clear nonE qb
          have blle := blen_le hb0 hb1
          have qz : wd2.cell? ⟨p, 2 + blen ev.bytes, none⟩ = some (i64 (zs.getD (blen ev.bytes) 0)) := H12.out.cz (by omega)
          have hzb := HZS.out (blen ev.bytes)
          have hfz := H12.out.fz (2 + blen ev.bytes)
          have hbl := Tryd.bits_Len ev.bytes wd2 hb0 (by omega)
          rw [blen_lib hb1] at hbl
          obtain ⟨bl, hblx⟩ : ∃ q, blen ev.bytes = q := ⟨_, rfl⟩
          rw [hblx] at blle qz hzb hfz hbl
          obtain ⟨z, hz⟩ : ∃ q, zs.getD bl 0 = q := ⟨_, rfl⟩
          rw [hz] at qz hzb
          haveI nonE := Flow.cls_nonempty_true
          rw [Flow.wpPre_pure]
          simp only [Flow.pick, List.getElem?_toArray, List.getElem?_cons_succ, List.getElem?_cons_zero]
          repeat go_big_quiet_step (fail)
          refine wpQuiet_nil ?_
          clear nonE
          rw [Flow.wpPre_call, Flow.callAt_eq]
          simp only [List.getElem?_toArray, List.getElem?_cons_succ, List.getElem?_cons_zero]
          rw [if_pos (by rfl)]
          refine Flow.wp_behind (fun K hK => ?_)
          go_wp2_with fail
          refine hbl.mono ?_; rintro e w10 ⟨rfl, rfl⟩
          refine hK.out _ _ ⟨Below.refl _ _, ?_⟩
          clear hK K hbl
          haveI nonE := Flow.cls_nonempty_true
          rw [Flow.wpPre_pure]
          simp only [Flow.pick, List.getElem?_toArray, List.getElem?_cons_succ, List.getElem?_cons_zero]
          repeat go_big_quiet_step (fail)
          refine wpQuiet_nil ?_
          clear nonE
          have qz2 : ∀ t : Flow.Cls (Flow.Later w10), t.val.cell? ⟨p, 2 + bl, none⟩ = some (i64 z) := fun t => Flow.cls_cell qz t
          haveI nonE := Flow.cls_nonempty w10
          rw [Flow.wpPre_held]
          simp only [Flow.pick, List.getElem?_toArray, List.getElem?_cons_succ, List.getElem?_cons_zero]
          repeat go_big_quiet_step (fail)
          refine wpQuiet_nil ?_
          clear nonE qz2
          haveI nonE := Flow.cls_nonempty_true
          rw [Flow.wpPre_pure]
          simp only [Flow.pick, List.getElem?_toArray, List.getElem?_cons_succ, List.getElem?_cons_zero]
          repeat go_big_quiet_step (fail)
          refine wpQuiet_nil ?_
          clear nonE
          rw [Flow.wpPre_tail, Flow.wpSched_step]
          simp only [Flow.pick]
          refine wpQuiet_nil ?_
          rw [Flow.callAt_eq]
          simp only [List.getElem?_toArray, List.getElem?_cons_succ, List.getElem?_cons_zero]
          rw [if_pos (by rfl)]
          refine Flow.wp_behind (fun K hK => ?_)
          go_wp2_with fail
          refine hK.out _ _ ⟨trivial, ?_⟩
          clear hK K
          have H13 := Lib.hid (H12.out.putZ (k := bl) (by omega) (z + 1))
          have BX13 := Lib.hid (BX12.out.trans (ButL.setCell _ ⟨p, 2 + bl, none⟩ (i64 (z + 1)) (by simp)))
          rw [Flow.wpSched_done]
          simp only [Flow.pick]
          refine wpQuiet_nil ?_
          have HUP : Hid (upAt zs bl = zs.set bl (z + 1)) := by (show _ = _); unfold upAt; rw [hz]
          clear qz hzb hfz hz
          go_wp2_with fail
          go_ret
          refine ⟨rfl, ?_, BX13.out⟩
          have hk : addAll (keysE ev) (oneE ev) ns = addA ns2 (ev.minute / 1440, 3, hexT ev.author) (1, ev.bytes) := by
            unfold keysE
            rw [addAll_append, addAll_append, HN1.out, HN2.out]
            rfl
          rw [hk, show addA ds (dayE ev) (oneE ev) = ds4 from HD4.out, hblx, HUP.out]
          exact H13.out
end Go.Proofs.YthgefcoaaommkaaDoor
