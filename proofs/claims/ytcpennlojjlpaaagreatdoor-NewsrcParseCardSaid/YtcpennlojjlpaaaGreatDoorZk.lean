/- Contracts: Marks' Has, Subscribed, Set.
   Marks of the reference in memory; contracts: the reference's Find, copied, Subscribe, Unsubscribe.
   Contracts: the reference's Subscribe, Unsubscribe. -/
import Derived.Test.YtcpennlojjlpaaaGreatDoorZg
import Derived.Test.YtcpennlojjlpaaaGreatDoorZj
namespace Go.Nr
/-- Whether a group is subscribed. -/
def gsub (m : List G) (s : List UInt8) : Bool := match m[gidx m s]? with | some g => g.2.1 | none => false
theorem gset_none {m : List G} {s : List UInt8} (h : ¬ gidx m s < m.length) : gset m s = [] := by
  unfold gset; rw [List.getElem?_eq_none (by omega)]
theorem gsub_none {m : List G} {s : List UInt8} (h : ¬ gidx m s < m.length) : gsub m s = false := by
  unfold gsub; rw [List.getElem?_eq_none (by omega)]
end Go.Nr
namespace Go.Proofs.YtcpennlojjlpaaaGreatDoor
open Go.RowKit Go.Nr Go.Gn

set_option maxRecDepth 100000 in
set_option maxHeartbeats 2000000 in
theorem hasM_any (p : Nat) (R : Option Nat) (gs : List G) (s : List UInt8) (n : Int) (w : World) (h : MkAt w p R gs) (hg : Okm gs) (hl : ∀ g ∈ gs, g.2.2.length ≤ 1000000) (hn : gs.length ≤ 1000000) :
    Calls Tryz.prog 49 #[.pointer (some ⟨p, 0, none⟩), enS s, i64 n] w fun e w' => e = .returned (.bool (has (gset gs s) n)) ∧ Below w.heap.size w w' := by
  have H := Lib.hid h; clear h
  by_cases hi : gidx gs s < gs.length
  · have HI := Lib.hid hi
    obtain ⟨b, rfl, hp⟩ := fptr_in hi H.out
    have hf := fun W hW => findM_any p (some b) gs s W hW hn
    rw [hp] at hf
    have HF := Lib.hid hf
    clear hf hp
    obtain ⟨x, A, c, hx, hset, hc0, hc1, hc2, hf1, hf2⟩ := H.out.cell_i hi
    rw [gset_at hx]
    have hok := (hg.sets x (List.mem_of_getElem? hx))
    have hll := hl x (List.mem_of_getElem? hx)
    obtain ⟨i, hie⟩ : ∃ q, gidx gs s = q := ⟨_, rfl⟩
    rw [hie] at HI HF hc2
    obtain ⟨x1, x2, x3⟩ := x
    simp only at hset hc2 hok hll
    have HH := has_any A c x3 n w hset.rd hok.1 hll
    clear hie hx hset hi hc0 hc1 hf1 hf2 hg hl hok
    go_enter Tryz.func49, Tryz.ntmps49
    go_wp2_with fail
    refine (HF.out _ H.out).mono ?_; rintro e w2 ⟨rfl, rfl⟩
    go_wp2_with fail
    refine HH.mono ?_; rintro e w3 ⟨rfl, b3⟩
    go_wp2_with fail
    go_ret
    exact ⟨rfl, b3⟩
  · have hf := fun W hW => findM_any p R gs s W hW hn
    rw [fptr_out hi] at hf
    rw [gset_none hi]
    have HF := Lib.hid hf
    clear hf hi hg hl
    go_enter Tryz.func49, Tryz.ntmps49
    go_wp2_with fail
    refine (HF.out _ H.out).mono ?_; rintro e w2 ⟨rfl, rfl⟩
    go_wp2_with fail
    go_ret
    exact ⟨rfl, Below.refl _ _⟩
set_option maxRecDepth 100000 in
set_option maxHeartbeats 2000000 in
theorem subscribedM_any (p : Nat) (R : Option Nat) (gs : List G) (s : List UInt8) (w : World) (h : MkAt w p R gs) (hn : gs.length ≤ 1000000) :
    Calls Tryz.prog 50 #[.pointer (some ⟨p, 0, none⟩), enS s] w fun e w' => e = .returned (.bool (gsub gs s)) ∧ w = w' := by
  have H := Lib.hid h; clear h
  by_cases hi : gidx gs s < gs.length
  · have HI := Lib.hid hi
    obtain ⟨b, rfl, hp⟩ := fptr_in hi H.out
    have hf := fun W hW => findM_any p (some b) gs s W hW hn
    rw [hp] at hf
    have HF := Lib.hid hf
    clear hf hp
    obtain ⟨x, A, c, hx, hset, hc0, hc1, hc2, hf1, hf2⟩ := H.out.cell_i hi
    have V : Hid (gsub gs s = x.2.1) := by (show gsub gs s = _); unfold gsub; rw [hx]
    rw [V.out]
    obtain ⟨i, hie⟩ : ∃ q, gidx gs s = q := ⟨_, rfl⟩
    rw [hie] at HI HF hc1
    obtain ⟨x1, x2, x3⟩ := x
    simp only at hc1
    clear hie hx hset hi hc0 hc2 hf1 hf2 V
    go_enter Tryz.func50, Tryz.ntmps50
    go_wp2_with fail
    refine (HF.out _ H.out).mono ?_; rintro e w2 ⟨rfl, rfl⟩
    go_wp2_with fail
    go_ret
    exact ⟨by simp, rfl⟩
  · have hf := fun W hW => findM_any p R gs s W hW hn
    rw [fptr_out hi] at hf
    rw [gsub_none hi]
    have HF := Lib.hid hf
    clear hf hi
    go_enter Tryz.func50, Tryz.ntmps50
    go_wp2_with fail
    refine (HF.out _ H.out).mono ?_; rintro e w2 ⟨rfl, rfl⟩
    go_wp2_with fail
    go_ret
    exact ⟨rfl, rfl⟩
/-- A set alone. -/
def GivesS1 (w : World) (S : List Rg) (e : Ending) (w' : World) : Prop :=
  ∃ A c, e = .returned (.agg #[.slice A S.length c]) ∧ RdR w' A S ∧ SlR A c S.length ∧ Below w.heap.size w w'
set_option maxRecDepth 100000 in
set_option maxHeartbeats 2000000 in
theorem setM_any (p : Nat) (R : Option Nat) (gs : List G) (s : List UInt8) (w : World) (h : MkAt w p R gs) (hl : ∀ g ∈ gs, g.2.2.length ≤ 1000000) (hn : gs.length ≤ 1000000) :
    Calls Tryz.prog 51 #[.pointer (some ⟨p, 0, none⟩), enS s] w (GivesS1 w (gset gs s)) := by
  have hb0 := below_new w (.cells #[.slice none 0 0] 26)
  have hc0' := blk_new w (.cells #[.slice none 0 0] 26)
  have H := Lib.hid (h.below hb0); clear h
  have HB0 := Lib.hid hb0
  have HC0 := Lib.hid hc0'
  by_cases hi : gidx gs s < gs.length
  · have HI := Lib.hid hi
    obtain ⟨b, rfl, hp⟩ := fptr_in hi H.out
    have hf := fun W hW => findM_any p (some b) gs s W hW hn
    rw [hp] at hf
    have HF := Lib.hid hf
    clear hf hp
    obtain ⟨x, A, c, hx, hset, hc0, hc1, hc2, hf1, hf2⟩ := H.out.cell_i hi
    rw [gset_at hx]
    have hll := hl x (List.mem_of_getElem? hx)
    obtain ⟨i, hie⟩ : ∃ q, gidx gs s = q := ⟨_, rfl⟩
    rw [hie] at HI HF hc2
    obtain ⟨x1, x2, x3⟩ := x
    simp only at hset hc2 hll
    have HCl := cloneR_any A c x3 _ hset.rd hset.sl hll
    clear hie hx hset hi hc0 hc1 hf1 hf2 hl hb0 hc0'
    go_enter Tryz.func51, Tryz.ntmps51
    go_wp2_with fail
    refine (HF.out _ H.out).mono ?_; rintro e w2 ⟨rfl, rfl⟩
    go_wp2_with fail
    refine HCl.mono ?_; rintro e w3 ⟨A2, c2, rfl, ho, b3⟩
    have hr3 := blk_below b3 HC0.out
    have hrc := blk_cell hr3 0
    have hrf := blk_free hr3 0
    have HR3 := Lib.hid hr3
    have HO := Lib.hid ho
    have HB3 := Lib.hid (HB0.out.tr b3)
    clear hr3 ho b3 hc2
    go_wp2_with fail
    have hfin := World.cell?_setCell_same' w3 ⟨w.heap.size, 0, none⟩ (.slice A2 x3.length c2) (by rw [blk_cell HR3.out]; rfl)
    refine bodyPost_ret (v := .agg #[.slice A2 x3.length c2]) (by simp [results, Tryz.results51, go_sem, hfin]) rfl ?_
    have ho6 := own_keep (w' := w3.setCell ⟨w.heap.size, 0, none⟩ (.slice A2 x3.length c2)) HO.out (fun k _ e => blk_set_ne 0 _ (by have := (HO.out.lt k e).1; simp at this; omega))
    exact ⟨A2, c2, rfl, (RdR.of_own ho6).1, SlR.of_own ho6, HB3.out.setCell (Nat.le_refl _) _⟩
  · have hf := fun W hW => findM_any p R gs s W hW hn
    rw [fptr_out hi] at hf
    rw [gset_none hi]
    have HF := Lib.hid hf
    have hrc := blk_cell hc0' 0
    have hrf := blk_free hc0' 0
    clear hf hi hl hb0 hc0'
    go_enter Tryz.func51, Tryz.ntmps51
    go_wp2_with fail
    refine (HF.out _ H.out).mono ?_; rintro e w2 ⟨rfl, rfl⟩
    go_wp2_with fail
    refine bodyPost_ret (v := .agg #[.slice none 0 0]) (by simp [results, Tryz.results51, go_sem, hrc]) rfl ?_
    exact ⟨none, 0, rfl, RdR.nil, SlR.nil, HB0.out⟩
end Go.Proofs.YtcpennlojjlpaaaGreatDoor

namespace Go.Proofs.YtcpennlojjlpaaaGreatDoor
open Go.RowKit Go.Nr Go.Gn

theorem RdC.below {w w' : World} {A : Option Addr} {xs : List Value} (h : RdC w A xs) (hb : Below w.heap.size w w') : RdC w' A xs := fun hp => by
  obtain ⟨b, o, e, hc⟩ := h hp
  exact ⟨b, o, e, fun j u hj => Below.cellv hb (hc j u hj)⟩
/-- A set of the reference, and what kind of block it lies in. -/
def SetR (w : World) (B : Option Addr) (l : List Rg) : Prop := RdR w B l ∧ ∀ a, B = some a → Ty w a.block 37
theorem SetR.below {w w' : World} {B : Option Addr} {l : List Rg} (h : SetR w B l) (hb : Below w.heap.size w w') : SetR w' B l := ⟨h.1.below hb, fun a ha => (h.2 a ha).below hb⟩
theorem SetR.nil {w : World} : SetR w none [] := ⟨RdR.nil, fun _ h => by cases h⟩
/-- A slice of marks of the reference, with where the sets lie. -/
structure RdGX (w : World) (A : Option Addr) (xs : List (G × Option Addr × Nat)) : Prop where
  cells : RdC w A (mflat xs)
  sets : ∀ x ∈ xs, SetR w x.2.1 x.1.2.2
  ty : ∀ a, A = some a → Ty w a.block 87
theorem RdGX.below {w w' : World} {A : Option Addr} {xs : List (G × Option Addr × Nat)} (h : RdGX w A xs) (hb : Below w.heap.size w w') : RdGX w' A xs := ⟨h.cells.below hb, fun x hx => (h.sets x hx).below hb, fun a ha => (h.ty a ha).below hb⟩
def RdG (w : World) (A : Option Addr) (gs : List G) : Prop := ∃ xs, xs.map (·.1) = gs ∧ RdGX w A xs
theorem RdG.below {w w' : World} {A : Option Addr} {gs : List G} (h : RdG w A gs) (hb : Below w.heap.size w w') : RdG w' A gs := by
  obtain ⟨xs, e, h⟩ := h
  exact ⟨xs, e, h.below hb⟩
theorem RdG.nil {w : World} : RdG w none [] := ⟨[], rfl, fun h => absurd h (by simp [mflat_nil]), by simp, fun _ h => by cases h⟩
theorem RdG.at_ {w : World} {A : Option Addr} {gs : List G} {k : Nat} (h : RdG w A gs) (hk : k < gs.length) : ∃ b o x B f, A = some ⟨b, o, none⟩ ∧ gs[k]? = some x ∧ w.cell? ⟨b, o + k * 3, none⟩ = some (enS x.1) ∧ w.cell? ⟨b, o + k * 3 + 1, none⟩ = some (.bool x.2.1) ∧ w.cell? ⟨b, o + k * 3 + 2, none⟩ = some (.slice B x.2.2.length f) ∧ SetR w B x.2.2 := by
  obtain ⟨xs, rfl, h⟩ := h
  have hl : k < xs.length := by simpa using hk
  obtain ⟨b, o, e, hc⟩ := h.cells (by rw [mflat_length]; omega)
  have hx : xs[k]? = some xs[k] := List.getElem?_eq_getElem hl
  obtain ⟨f1, f2, f3⟩ := mflat_at xs k _ hx
  exact ⟨b, o, xs[k].1, xs[k].2.1, xs[k].2.2, e, by rw [List.getElem?_map, hx]; rfl, hc _ _ f1, by rw [Nat.add_assoc]; exact hc _ _ f2, by rw [Nat.add_assoc]; exact hc _ _ f3, h.sets _ (List.getElem_mem hl)⟩
theorem RdGX.of_own {w : World} {base n c : Nat} {A : Option Addr} {xs : List (G × Option Addr × Nat)} (h : w.ownsRow base 87 3 (.slice A n c) n (mflat xs)) (hs : ∀ x ∈ xs, SetR w x.2.1 x.1.2.2) : RdGX w A xs := by
  refine ⟨fun hp => ?_, hs, fun a ha => (own_new h (Nat.le_refl _) a ha).2⟩
  rcases h.2 with ⟨e1, h0⟩ | ⟨g, cap, cur, e1, _⟩
  · have := h.1
    rw [h0] at this; omega
  · cases e1
    exact ⟨g, 0, rfl, fun j u hj => by rw [Nat.zero_add]; exact (own_cell h hj).1⟩
theorem gr_info : (Tryz.prog.info? 87).map (fun i => (i.size, i.bytes, i.zero.map fun z => z.cells.size)) = some (3, 48, some 3) := by kernel_rfl
theorem gr_parts : ∃ i z, Tryz.prog.info? 87 = some i ∧ i.zero = some z ∧ i.size = 3 ∧ i.bytes = 48 ∧ z.cells.size = 3 := by
  obtain ⟨i, hi, e⟩ := Option.map_eq_some_iff.1 gr_info
  cases hz : i.zero with
  | none => rw [hz] at e; simp at e
  | some z =>
    rw [hz] at e
    simp at e
    exact ⟨i, z, hi, hz, e.1, e.2.1, e.2.2⟩
/-- What Find returns. -/
def findI (gs : List G) (s : List UInt8) : Int := if gidx gs s < gs.length then (gidx gs s : Int) else -1

set_option maxRecDepth 100000 in
set_option maxHeartbeats 2000000 in
theorem refFind_any (A : Option Addr) (c : Nat) (gs : List G) (s : List UInt8) (w : World) (h : RdG w A gs) (hn : gs.length ≤ 1000000) :
    Calls Tryz.prog 48 #[.slice A gs.length c, enS s] w fun e w' => e = .returned (i64 (findI gs s)) ∧ w = w' := by
  have H := Lib.hid h; clear h
  obtain ⟨r, hr⟩ : ∃ q, findI gs s = q := ⟨_, rfl⟩
  have V := Lib.hid hr
  rw [hr]
  clear hr
  go_enter Tryz.func48, Tryz.ntmps48
  go_wp2_with fail
  go_loopg [5] gs.length (fun gg iv wr => ∃ k : Nat, k ≤ gs.length ∧ gs.length - k ≤ gg ∧ iv = .int .i64 k ∧ w = wr ∧ Hid (∀ (j : Nat) (g : G), j < k → gs[j]? = some g → g.1 ≠ s))
  case atStart => exact ⟨0, by omega, by omega, rfl, rfl, fun j g hj => by omega⟩
  case round =>
    obtain ⟨k, hk, hgk, rfl, rfl, O⟩ := hrel
    by_cases hlt : k < gs.length
    · obtain ⟨b, o, x, B, f, rfl, hx, h1, h2, h3, _⟩ := H.out.at_ hlt
      have HGX := Lib.hid hx
      clear hx h2 h3
      obtain ⟨x1, x2, x3⟩ := x
      simp only at h1
      by_cases hxs : x1 = s
      · have hgi : gidx gs s = k := gidx_eq gs s k hk O.out fun g hg => by rw [HGX.out] at hg; cases hg; exact hxs
        have V2 : Hid (r = k) := by
          show r = _
          rw [← V.out]; unfold findI; rw [hgi, if_pos hlt]
        subst hxs
        go_wp2_with fail
        go_ret
        exact ⟨by rw [V2.out]; rfl, rfl⟩
      · have e1 : (x1 == s) = false := by simpa using hxs
        have NE := Lib.hid hxs; clear hxs
        go_wp2_with fail
        go_roundg (gs.length - (k + 1))
        case measure => omega
        case rel =>
          refine ⟨k + 1, by omega, by omega, by go_num, rfl, fun j g' hj hg' => ?_⟩
          rcases Nat.lt_or_ge j k with h' | h'
          · exact O.out j g' h' hg'
          · obtain rfl : j = k := by omega
            rw [HGX.out] at hg'; cases hg'; exact NE.out
    · obtain rfl : k = gs.length := by omega
      have hgi : gidx gs s = gs.length := gidx_eq gs s _ (by omega) O.out fun g hg => by simp at hg
      have V2 : Hid (r = -1) := by
        show r = _
        rw [← V.out]; unfold findI; rw [hgi, if_neg (by omega)]
      go_wp2_with fail
      go_ret
      exact ⟨by rw [V2.out]; rfl, rfl⟩
/-- A row of marks of the call's own. -/
def GivesGX (w : World) (gs : List G) (e : Ending) (w' : World) : Prop :=
  ∃ A c xs, e = .returned (.slice A gs.length c) ∧ xs.map (·.1) = gs ∧ w'.ownsRow w.heap.size 87 3 (.slice A gs.length c) gs.length (mflat xs) ∧ (∀ x ∈ xs, SetR w x.2.1 x.1.2.2) ∧ Below w.heap.size w w'
set_option maxRecDepth 100000 in
set_option maxHeartbeats 2000000 in
theorem copied_any (A : Option Addr) (c : Nat) (gs : List G) (w : World) (h : RdG w A gs) (hn : gs.length ≤ 1000000) :
    Calls Tryz.prog 121 #[.slice A gs.length c] w (GivesGX w gs) := by
  obtain ⟨xs, hxs, h⟩ := h
  obtain ⟨i0, z0, hi, hz0, hz1, hz2, hz3⟩ := gr_parts
  have H := Lib.hid h; clear h
  have HXS := Lib.hid hxs
  have hlen : gs.length = xs.length := by rw [← hxs, List.length_map]
  have HLN : Hid ((mflat xs).length = gs.length * 3) := by (show _ = _); rw [mflat_length, hlen]
  clear hxs hlen
  go_enter Tryz.func121, Tryz.ntmps121
  go_wp2_with (at_builtin; refine wpList_appC Tryz.underlying79 hi hz0 hz1 hz2 hz3 (by decide) _ rfl _ _ rfl w.heap.size _ 0 [] (own2_empty w w.heap.size 3 87 (Nat.le_refl _)) rfl A gs.length c (mflat xs) HLN.out (H.out.cells.below (below_new _ _)) rfl (mflat_one xs) (by omega) (by decide) (by simp) ?_)
  intro v' w2 hown hg2 hb2
  obtain ⟨A2, c2, rfl⟩ := own2_slice hown
  have hB2 := (below_new w (.cells #[] 87)).trans hb2
  have HO := Lib.hid hown
  have HB2 := Lib.hid hB2
  clear hown hg2 hb2 hB2
  go_wp2_with fail
  go_ret
  exact ⟨A2, c2, xs, rfl, HXS.out, HO.out, H.out.sets, HB2.out⟩
/-- Marks of the reference and an error. -/
def GivesRM (w : World) (S : List G) (er : Nat) (e : Ending) (w' : World) : Prop :=
  ∃ A c, e = .returned (.tuple #[.slice A S.length c, i64 er]) ∧ RdG w' A S ∧ Below w.heap.size w w'
end Go.Proofs.YtcpennlojjlpaaaGreatDoor

namespace Go.Proofs.YtcpennlojjlpaaaGreatDoor
open Go.RowKit Go.Nr Go.Gn

set_option maxRecDepth 100000 in
set_option maxHeartbeats 4000000 in
theorem refUnsub_any (A : Option Addr) (c : Nat) (gs : List G) (s : List UInt8) (w : World) (h : RdG w A gs) (hl : s.length ≤ 9223372036854775807) (hn : gs.length < 1024) :
    Calls Tryz.prog 98 #[.slice A gs.length c, enS s] w (GivesRM w (unsubM gs s) (unsubE gs s)) := by
  have hck := Lib.hid (fun W => refCheck_any s W (by omega))
  have H := Lib.hid h; clear h
  have HFi := Lib.hid (fun W (h : RdG W A gs) => refFind_any A c gs s W h (by omega))
  have HCo := Lib.hid (fun W (h : RdG W A gs) => copied_any A c gs W h (by omega))
  obtain ⟨ec, hec⟩ : ∃ q, check s = q := ⟨_, rfl⟩
  rw [hec] at hck
  have VC := Lib.hid hec
  clear hec
  by_cases h0 : ec = 0
  · subst h0
    have hw0 : (((0 : Nat) : Int) != 0) = false := rfl
    by_cases hi : gidx gs s < gs.length
    · have V1 : Hid (unsubM gs s = setSub gs (gidx gs s) false) := by (show unsubM gs s = _); unfold unsubM; rw [if_neg (by simp [VC.out]), if_pos hi]
      have V2 : Hid (unsubE gs s = 0) := by (show unsubE gs s = _); unfold unsubE; rw [if_neg (by simp [VC.out]), if_pos hi]
      have VF : Hid (findI gs s = (gidx gs s : Int)) := by (show findI gs s = _); unfold findI; rw [if_pos hi]
      rw [V1.out, V2.out]
      rw [VF.out] at HFi
      have HI := Lib.hid hi
      obtain ⟨i, hie⟩ : ∃ q, gidx gs s = q := ⟨_, rfl⟩
      rw [hie] at HI HFi hi ⊢
      clear hie
      have hi0 : (0 : Int) ≤ (i : Int) := by omega
      have hi1 : (i : Int) < (gs.length : Int) := by omega
      go_enter Tryz.func98, Tryz.ntmps98
      go_wp2_with fail
      refine (hck.out _).mono ?_; rintro e w1 ⟨rfl, b1⟩
      have H1 := Lib.hid (H.out.below b1)
      have B1 := Lib.hid b1
      clear b1
      go_wp2_with fail
      refine (HFi.out _ H1.out).mono ?_; rintro e w2 ⟨rfl, rfl⟩
      go_wp2_with fail
      refine (HCo.out _ H1.out).mono ?_; rintro e w3 ⟨A3, c3, xs, rfl, hxs, ho, hs3, b3⟩
      have hxl : xs.length = gs.length := by rw [← hxs, List.length_map]
      obtain ⟨g, rfl⟩ : ∃ g, A3 = some ⟨g, 0, none⟩ := by
        rcases ho.2 with ⟨e1, h0⟩ | ⟨g, cap, cur, e1, _⟩
        · omega
        · cases e1; exact ⟨g, rfl⟩
      have hgb : w1.heap.size ≤ g := (ho.lt g rfl).1
      obtain ⟨y, hy⟩ : ∃ y, xs[i]? = some y := ⟨_, List.getElem?_eq_getElem (by omega)⟩
      obtain ⟨_, f2, _⟩ := mflat_at xs i y hy
      obtain ⟨k1, k2, _⟩ := own_cell ho f2
      have HO := Lib.hid ho
      have HS := Lib.hid hs3
      have HXS := Lib.hid hxs
      have HXL := Lib.hid hxl
      have B3 := Lib.hid b3
      clear ho hs3 hxs hxl b3 hy f2
      go_wp2_with fail
      go_ret2
      have hst := own_set (t := i * 3 + 1) (v := .bool false) HO.out
      rw [mflat_bool xs i false (by rw [HXL.out]; exact HI.out)] at hst
      have hb4 : Below w1.heap.size w1 (w3.setCell ⟨g, i * 3 + 1, none⟩ (.bool false)) := B3.out.setCell (p := ⟨g, i * 3 + 1, none⟩) hgb _
      refine ⟨some ⟨g, 0, none⟩, c3, by rw [setSub_length]; rfl, ⟨xs.modify i fun x => ((x.1.1, false, x.1.2.2), x.2), ?_, RdGX.of_own hst fun x hx => ?_⟩, B1.out.tr hb4⟩
      · rw [← HXS.out]
        exact map_modify_comm (f := fun x : G × Option Addr × Nat => x.1) (u := fun x => ((x.1.1, false, x.1.2.2), x.2)) (v := fun g => (g.1, false, g.2.2)) (fun x => rfl) xs i
      · obtain ⟨z, hz, e⟩ := mem_modify hx
        rcases e with e | e <;> rw [e]
        · exact (HS.out z hz).below hb4
        · exact (HS.out z hz).below hb4
    · have V1 : Hid (unsubM gs s = gs) := by (show unsubM gs s = _); unfold unsubM; rw [if_neg (by simp [VC.out]), if_neg hi]
      have V2 : Hid (unsubE gs s = 8) := by (show unsubE gs s = _); unfold unsubE; rw [if_neg (by simp [VC.out]), if_neg hi]
      have hf1 : (findI gs s) = -1 := by unfold findI; rw [if_neg hi]
      rw [hf1] at HFi
      rw [V1.out, V2.out]
      clear hi hf1
      go_enter Tryz.func98, Tryz.ntmps98
      go_wp2_with fail
      refine (hck.out _).mono ?_; rintro e w1 ⟨rfl, b1⟩
      have H1 := Lib.hid (H.out.below b1)
      have B1 := Lib.hid b1
      clear b1
      go_wp2_with fail
      refine (HFi.out _ H1.out).mono ?_; rintro e w2 ⟨rfl, rfl⟩
      go_wp2_with fail
      go_ret2
      exact ⟨A, c, rfl, H1.out, B1.out⟩
  · have V1 : Hid (unsubM gs s = gs) := by (show unsubM gs s = _); unfold unsubM; rw [if_pos (by simp [VC.out, h0])]
    have V2 : Hid (unsubE gs s = 12) := by (show unsubE gs s = _); unfold unsubE; rw [if_pos (by simp [VC.out, h0])]
    rw [V1.out, V2.out]
    have hw0 : ((ec : Int) != 0) = true := by simp; omega
    go_enter Tryz.func98, Tryz.ntmps98
    go_wp2_with fail
    refine (hck.out _).mono ?_; rintro e w1 ⟨rfl, b1⟩
    have H1 := Lib.hid (H.out.below b1)
    have B1 := Lib.hid b1
    clear b1
    go_wp2_with fail
    go_ret2
    exact ⟨A, c, rfl, H1.out, B1.out⟩
set_option maxRecDepth 100000 in
set_option maxHeartbeats 4000000 in
theorem refSub_any (A : Option Addr) (c : Nat) (gs : List G) (s : List UInt8) (w : World) (h : RdG w A gs) (hl : s.length ≤ 9223372036854775807) (hn : gs.length < 1024) :
    Calls Tryz.prog 97 #[.slice A gs.length c, enS s] w (GivesRM w (subM gs s) (subE s)) := by
  have hck := Lib.hid (fun W => refCheck_any s W (by omega))
  have H := Lib.hid h; clear h
  have HFi := Lib.hid (fun W (h : RdG W A gs) => refFind_any A c gs s W h (by omega))
  have HCo := Lib.hid (fun W (h : RdG W A gs) => copied_any A c gs W h (by omega))
  obtain ⟨ec, hec⟩ : ∃ q, check s = q := ⟨_, rfl⟩
  rw [hec] at hck
  have VC := Lib.hid hec
  clear hec
  by_cases h0 : ec = 0
  · subst h0
    have hw0 : (((0 : Nat) : Int) != 0) = false := rfl
    by_cases hi : gidx gs s < gs.length
    · have V1 : Hid (subM gs s = setSub gs (gidx gs s) true) := by (show subM gs s = _); unfold subM; rw [if_neg (by simp [VC.out]), if_pos hi]
      have V2 : Hid (subE s = 0) := by (show subE s = _); unfold subE; rw [if_neg (by simp [VC.out])]
      have VF : Hid (findI gs s = (gidx gs s : Int)) := by (show findI gs s = _); unfold findI; rw [if_pos hi]
      rw [V1.out, V2.out]
      rw [VF.out] at HFi
      have HI := Lib.hid hi
      obtain ⟨i, hie⟩ : ∃ q, gidx gs s = q := ⟨_, rfl⟩
      rw [hie] at HI HFi hi ⊢
      clear hie
      have hi0 : (0 : Int) ≤ (i : Int) := by omega
      have hi1 : (i : Int) < (gs.length : Int) := by omega
      go_enter Tryz.func97, Tryz.ntmps97
      go_wp2_with fail
      refine (hck.out _).mono ?_; rintro e w1 ⟨rfl, b1⟩
      have H1 := Lib.hid (H.out.below b1)
      have B1 := Lib.hid b1
      clear b1
      go_wp2_with fail
      refine (HFi.out _ H1.out).mono ?_; rintro e w2 ⟨rfl, rfl⟩
      go_wp2_with fail
      refine (HCo.out _ H1.out).mono ?_; rintro e w3 ⟨A3, c3, xs, rfl, hxs, ho, hs3, b3⟩
      have hxl : xs.length = gs.length := by rw [← hxs, List.length_map]
      obtain ⟨g, rfl⟩ : ∃ g, A3 = some ⟨g, 0, none⟩ := by
        rcases ho.2 with ⟨e1, h0⟩ | ⟨g, cap, cur, e1, _⟩
        · omega
        · cases e1; exact ⟨g, rfl⟩
      have hgb : w1.heap.size ≤ g := (ho.lt g rfl).1
      obtain ⟨y, hy⟩ : ∃ y, xs[i]? = some y := ⟨_, List.getElem?_eq_getElem (by omega)⟩
      obtain ⟨_, f2, _⟩ := mflat_at xs i y hy
      obtain ⟨k1, k2, _⟩ := own_cell ho f2
      have HO := Lib.hid ho
      have HS := Lib.hid hs3
      have HXS := Lib.hid hxs
      have HXL := Lib.hid hxl
      have B3 := Lib.hid b3
      clear ho hs3 hxs hxl b3 hy f2
      go_wp2_with fail
      go_ret2
      have hst := own_set (t := i * 3 + 1) (v := .bool true) HO.out
      rw [mflat_bool xs i true (by rw [HXL.out]; exact HI.out)] at hst
      have hb4 : Below w1.heap.size w1 (w3.setCell ⟨g, i * 3 + 1, none⟩ (.bool true)) := B3.out.setCell (p := ⟨g, i * 3 + 1, none⟩) hgb _
      refine ⟨some ⟨g, 0, none⟩, c3, by rw [setSub_length]; rfl, ⟨xs.modify i fun x => ((x.1.1, true, x.1.2.2), x.2), ?_, RdGX.of_own hst fun x hx => ?_⟩, B1.out.tr hb4⟩
      · rw [← HXS.out]
        exact map_modify_comm (f := fun x : G × Option Addr × Nat => x.1) (u := fun x => ((x.1.1, true, x.1.2.2), x.2)) (v := fun g => (g.1, true, g.2.2)) (fun x => rfl) xs i
      · obtain ⟨z, hz, e⟩ := mem_modify hx
        rcases e with e | e <;> rw [e]
        · exact (HS.out z hz).below hb4
        · exact (HS.out z hz).below hb4
    · have V1 : Hid (subM gs s = gs ++ [(s, true, [])]) := by (show subM gs s = _); unfold subM; rw [if_neg (by simp [VC.out]), if_neg hi]
      have V2 : Hid (subE s = 0) := by (show subE s = _); unfold subE; rw [if_neg (by simp [VC.out])]
      obtain ⟨i0, z0, hif, hz0, hz1, hz2, hz3⟩ := gr_parts
      have hf1 : (findI gs s) = -1 := by unfold findI; rw [if_neg hi]
      rw [hf1] at HFi
      rw [V1.out, V2.out]
      clear hi hf1
      go_enter Tryz.func97, Tryz.ntmps97
      go_wp2_with fail
      refine (hck.out _).mono ?_; rintro e w1 ⟨rfl, b1⟩
      have H1 := Lib.hid (H.out.below b1)
      have B1 := Lib.hid b1
      clear b1
      go_wp2_with fail
      refine (HFi.out _ H1.out).mono ?_; rintro e w2 ⟨rfl, rfl⟩
      go_wp2_with fail
      refine (HCo.out _ H1.out).mono ?_; rintro e w3 ⟨A3, c3, xs, rfl, hxs, ho, hs3, b3⟩
      have hxl : gs.length = xs.length := by rw [← hxs, List.length_map]
      have HO := Lib.hid ho
      have HS := Lib.hid hs3
      have HXS := Lib.hid hxs
      have HXL := Lib.hid hxl
      have B3 := Lib.hid b3
      have hsz := b3.size
      clear ho hs3 hxs hxl b3
      go_wp2_with (at_builtin; refine wpList_append_own _ rfl _ _ 79 rfl w1.heap.size 87 i0 z0 3 48 Tryz.underlying79 hif hz0 hz1 hz2 hz3 (by decide) (.slice A3 gs.length c3) gs.length (mflat xs) rfl (own_below HO.out (below_new _ _)) ⟨w3.heap.size, 0, none⟩ 1 1 [enS s, .bool true, .slice none 0 0] rfl rfl ?c1 ?c2 ?c3 ?c4 ?c5 ?_)
      case c1 =>
        intro j u hj
        rw [addr_addN, new_cell _ _ _ _ _ rfl]
        simpa using hj
      case c2 => intro u hu; simp at hu; rcases hu with rfl | rfl | rfl <;> rfl
      case c3 => unfold maxLen; omega
      case c4 => omega
      case c5 => simp; omega
      intro v' w4 hown4 hg4 _
      obtain ⟨A4, c4, rfl⟩ := own2_slice hown4
      have b4 := own_grown_below (own_below HO.out (below_new _ (.cells #[enS s, .bool true, .slice none 0 0] 87))) (by simp; omega) hg4
      have HO4 := Lib.hid hown4
      have B4 := Lib.hid ((B3.out.tr (below_new _ _)).trans b4)
      clear hown4 hg4 b4
      go_wp2_with fail
      go_ret2
      have ho4 := HO4.out
      rw [show mflat xs ++ [enS s, .bool true, .slice none 0 0] = mflat (xs ++ [((s, true, []), none, 0)]) by rw [mflat_append]; rfl] at ho4
      refine ⟨A4, c4, by rw [List.length_append]; rfl, ⟨xs ++ [((s, true, []), none, 0)], by rw [List.map_append, HXS.out]; rfl, RdGX.of_own ho4 fun x hx => ?_⟩, B1.out.tr B4.out⟩
      rcases List.mem_append.1 hx with hx | hx
      · exact (HS.out x hx).below B4.out
      · simp at hx; rw [hx]; exact SetR.nil
  · have V1 : Hid (subM gs s = gs) := by (show subM gs s = _); unfold subM; rw [if_pos (by simp [VC.out, h0])]
    have V2 : Hid (subE s = 12) := by (show subE s = _); unfold subE; rw [if_pos (by simp [VC.out, h0])]
    rw [V1.out, V2.out]
    have hw0 : ((ec : Int) != 0) = true := by simp; omega
    go_enter Tryz.func97, Tryz.ntmps97
    go_wp2_with fail
    refine (hck.out _).mono ?_; rintro e w1 ⟨rfl, b1⟩
    have H1 := Lib.hid (H.out.below b1)
    have B1 := Lib.hid b1
    clear b1
    go_wp2_with fail
    go_ret2
    exact ⟨A, c, rfl, H1.out, B1.out⟩
end Go.Proofs.YtcpennlojjlpaaaGreatDoor
