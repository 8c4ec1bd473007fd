/- Contract: Marks' Clone. -/
import Derived.Test.YtcpennlojjlpaaaGreatDoorZk
namespace Go.Nr
theorem setSet_same {m : List G} {i : Nat} {x : G} (h : m[i]? = some x) : setSet m i x.2.2 = m := by
  unfold setSet
  refine List.ext_getElem? fun j => ?_
  rw [List.getElem?_modify]
  split
  · rename_i e
    subst e
    rw [h]; rfl
  · simp
end Go.Nr
namespace Go.Proofs.YtcpennlojjlpaaaGreatDoor
open Go.RowKit Go.Nr Go.Gn

/-- A row of marks of the call's own, with the sets of an old one. -/
def GivesMk (w : World) (xs : List (G × Option Addr × Nat)) (e : Ending) (w' : World) : Prop :=
  ∃ A c, e = .returned (.slice A xs.length c) ∧ w'.ownsRow w.heap.size 139 3 (.slice A xs.length c) xs.length (mflat xs) ∧ Below w.heap.size w w'
set_option maxRecDepth 100000 in
set_option maxHeartbeats 1000000 in
theorem cloneMk_any (A : Option Addr) (c : Nat) (xs : List (G × Option Addr × Nat)) (w : World) (hr : RdC w A (mflat xs)) (hs : SlR A c xs.length) (hn : xs.length ≤ 1000000) :
    Calls Tryz.prog 95 #[.slice A xs.length c] w (GivesMk w xs) := by
  obtain ⟨i0, z0, hi, hz0, hz1, hz2, hz3⟩ := mark_parts
  rcases A with _ | ad
  · obtain ⟨h1, _, h2⟩ := hs
    have hc := h2 rfl
    subst hc
    have hl : xs = [] := List.eq_nil_of_length_eq_zero (by omega)
    subst hl
    clear h1 h2
    simp only [List.length_nil]
    have he := fun (w : World) => Lib.run_eql_slice_nil (P := Tryz.prog) w 140 139 none 0 0 0 0 Tryz.underlying140
    go_enter Tryz.func95, Tryz.ntmps95
    go_wp2
    go_ret
    exact ⟨none, 0, rfl, own2_nil _ _ _ _, Below.refl _ _⟩
  · have he := fun (w : World) => Lib.run_eql_slice_nil (P := Tryz.prog) w 140 139 (some ad) xs.length c 0 0 Tryz.underlying140
    have HR := Lib.hid (fun W (h : Below w.heap.size w W) => RdC.below hr h)
    clear hr hs
    go_enter Tryz.func95, Tryz.ntmps95
    go_wp2_with (at_builtin; refine wpList_appC Tryz.underlying140 hi hz0 hz1 hz2 hz3 (by decide) _ rfl _ _ rfl w.heap.size _ 0 [] (own2_empty w w.heap.size 3 139 (Nat.le_refl _)) rfl (some ad) xs.length c (mflat xs) (mflat_length xs) (HR.out _ (below_new _ _)) rfl (mflat_one xs) (by omega) (by decide) (by simp) ?_)
    intro v' w' hown _ hb
    obtain ⟨A2, c2, rfl⟩ := own2_slice hown
    have HOWN := Lib.hid hown
    clear hown
    go_wp2
    go_ret
    exact ⟨A2, c2, by simp, by simpa using HOWN.out, (below_new _ _).trans hb⟩
/-- Marks of the call's own. -/
def GivesM (w : World) (gs : List G) (e : Ending) (w' : World) : Prop :=
  ∃ q R, e = .returned (.pointer (some ⟨q, 0, none⟩)) ∧ MkAt w' q R gs ∧ w.heap.size ≤ q ∧ (∀ g, R = some g → w.heap.size ≤ g) ∧ Below w.heap.size w w'
theorem MkX.rdc {w : World} {p : Nat} {R : Option Nat} {A : Option Addr} {c : Nat} {xs : List (G × Option Addr × Nat)} (h : MkX w p R A c xs) : RdC w A (mflat xs) := fun hp => by
  rw [mflat_length] at hp
  obtain ⟨g, _, rfl⟩ := h.row_some (by omega)
  exact ⟨g, 0, rfl, fun j u hj => by rw [Nat.zero_add]; exact (own_cell h.own hj).1⟩
theorem MkAt.lt {w : World} {p : Nat} {R : Option Nat} {gs : List G} (h : MkAt w p R gs) : p < w.heap.size ∧ ∀ g, R = some g → g < w.heap.size := by
  obtain ⟨A, c, xs, _, h⟩ := h
  exact ⟨h.p_ty.lt, fun g e => (h.row_ty e).lt⟩
theorem MkAt.apart {w w' : World} {p q : Nat} {R S : Option Nat} {gs hs : List G} (h : MkAt w p R gs) (k : MkAt w q S hs) (hk : Kept p R w w') (hpq : q ≠ p) (hRS : ∀ g, S = some g → R ≠ some g) : MkAt w' q S hs := by
  obtain ⟨A, c, xs, _, h⟩ := h
  obtain ⟨B, d, ys, e, k⟩ := k
  exact ⟨B, d, ys, e, h.apart k hk hpq hRS⟩
/-- All old blocks but g are as they were. -/
def ButG (g : Nat) (u v : World) : Prop := u.heap.size ≤ v.heap.size ∧ ∀ k, k < u.heap.size → k ≠ g → v.heap[k]? = u.heap[k]?
theorem ButG.refl (g : Nat) (w : World) : ButG g w w := ⟨Nat.le_refl _, fun _ _ _ => rfl⟩
theorem ButG.trans {g : Nat} (u v x : World) (h : ButG g u v) (k : ButG g v x) : ButG g u x := ⟨Nat.le_trans h.1 k.1, fun i hi hg => (k.2 i (Nat.lt_of_lt_of_le hi h.1) hg).trans (h.2 i hi hg)⟩
theorem ButG.below {g : Nat} {u v : World} (h : Below u.heap.size u v) : ButG g u v := ⟨h.size, fun k hk _ => h.block k hk⟩
theorem ButG.set (g t : Nat) (v : Value) (w : World) : ButG g w (w.setCell ⟨g, t, none⟩ v) := ⟨by simp [World.setCell], fun k _ hk => blk_set_ne t v hk⟩
theorem ButG.cell {g q : Nat} {u v : World} (h : ButG g u v) {o : Nat} {x : Value} (hq : q ≠ g) (hc : u.cell? ⟨q, o, none⟩ = some x) : v.cell? ⟨q, o, none⟩ = some x := by
  have hl := World.block_lt_of_cell? u _ hc
  have e := h.2 q hl hq
  simp only [World.cell?] at *
  rw [e]; exact hc

set_option maxRecDepth 100000 in
set_option maxHeartbeats 4000000 in
theorem cloneM_any (p : Nat) (R : Option Nat) (gs : List G) (w : World) (h : MkAt w p R gs) (hl : ∀ g ∈ gs, g.2.2.length ≤ 1000000) (hn : gs.length ≤ 100000) :
    Calls Tryz.prog 53 #[.pointer (some ⟨p, 0, none⟩)] w (GivesM w gs) := by
  obtain ⟨A, c, xs, hxs, h⟩ := h
  have hlen : xs.length = gs.length := by rw [← hxs, List.length_map]
  have hpc := blk_cell h.at_ 0
  rw [← hlen] at hn
  have H := Lib.hid h
  have HXS := Lib.hid hxs
  have HLN := Lib.hid hlen
  have HLL := Lib.hid hl
  have HCM := Lib.hid (cloneMk_any A c xs w h.rdc (SlR.of_own h.own) (by omega))
  clear h hxs hlen hl
  go_enter Tryz.func53, Tryz.ntmps53
  go_wp2_with fail
  refine HCM.out.mono ?_; rintro e w1 ⟨A2, c2, rfl, ho, b1⟩
  have hm2 : MkX (w1.alloc (.cells #[.slice A2 xs.length c2] 143)) w1.heap.size (Value.slice A2 xs.length c2).ownBlock A2 c2 xs :=
    ⟨blk_new _ _, own_any (own_below ho (below_new _ _)) (Nat.zero_le _), rfl, fun x hx => ((H.out.sets x hx).below b1).below (below_new _ _)⟩
  have hR2 : ∀ g, (Value.slice A2 xs.length c2).ownBlock = some g → w.heap.size ≤ g := fun g e => by
    rcases A2 with _ | a2
    · cases e
    · cases e; exact (ho.lt _ rfl).1
  have hq1 : w1.heap.size ≥ w.heap.size := b1.size
  have HM2 := Lib.hid (show MkAt (w1.alloc (.cells #[.slice A2 xs.length c2] 143)) w1.heap.size (Value.slice A2 xs.length c2).ownBlock gs from ⟨A2, c2, xs, HXS.out, hm2⟩)
  have HR2 := Lib.hid hR2
  have HB2 := Lib.hid (b1.tr (below_new w1 (.cells #[.slice A2 xs.length c2] 143)))
  clear ho b1 hm2 hR2 hpc HCM
  generalize (Value.slice A2 xs.length c2).ownBlock = R2 at *
  go_wp2_with fail
  obtain ⟨q, hq⟩ : ∃ q, w1.heap.size = q := ⟨_, rfl⟩
  rw [hq] at HM2 hq1 ⊢
  have HQ := Lib.hid hq1
  clear hq1
  go_loopg [19] xs.length (fun gg iv wr => ∃ k : Nat, k ≤ xs.length ∧ xs.length - k ≤ gg ∧ iv = .int .i64 k ∧ Hid (MkAt wr q R2 gs) ∧ Below w.heap.size w wr)
  case atStart => exact ⟨0, by omega, by omega, rfl, HM2, HB2.out⟩
  case round =>
    obtain ⟨k, hk, hgk, rfl, O, hB⟩ := hrel
    by_cases hlt : k < xs.length
    · obtain ⟨A3, c3, ys, hys, hX⟩ := O.out
      have hyl : ys.length = xs.length := by rw [HLN.out, ← hys, List.length_map]
      obtain ⟨y, hy⟩ : ∃ y, ys[k]? = some y := ⟨_, List.getElem?_eq_getElem (by omega)⟩
      obtain ⟨g, rfl, rfl, d1, d2, d3, d4, d5⟩ := hX.at_j hy
      have hgy : gs[k]? = some y.1 := by rw [← hys, List.getElem?_map, hy]; rfl
      have hset := hX.sets y (List.mem_of_getElem? hy)
      have hyll := HLL.out y.1 (List.mem_of_getElem? hgy)
      have hqc := blk_cell hX.at_ 0
      have hqg : q ≠ g := fun e => absurd ((e ▸ hX.p_ty).uniq (hX.row_ty rfl)) (by decide)
      rw [hyl] at hqc
      have ND := Lib.hid d3
      have NF := Lib.hid d5
      have NQ := Lib.hid hqc
      have SY := Lib.hid hset
      have GY := Lib.hid hgy
      have QG := Lib.hid hqg
      have HB := Lib.hid hB
      obtain ⟨⟨y1, y2, y3⟩, y4, y5⟩ := y
      simp only at ND SY GY hyll
      clear d1 d2 d3 d4 d5 hqc hset hgy hX hy hys hyl hqg hB
      have hk0 : (0 : Int) ≤ (k : Int) := by omega
      have hk1 : (k : Int) < (xs.length : Int) := by omega
      go_wp2_with fail
      refine Flow.wp_region_segs (ButG g) (ButG.refl g) ButG.trans [([0, 1, 2, 3, 4, 5, 6, 7, 8, 9, 10, 11, 12], 13), ([], 14), ([15, 16, 17], 18)] [] (by kernel_rfl) (by kernel_rfl) ?_
      have ND2 : Hid (wr.drew.cell? ⟨g, k * 3 + 2, none⟩ = some (.slice y4 y3.length y5)) := ND.out
      have NQ2 : Hid (wr.drew.cell? ⟨q, 0, none⟩ = some (.slice (some ⟨g, 0, none⟩) xs.length c3)) := NQ.out
      have NF2 : Hid (wr.drew.frozen? ⟨g, k * 3 + 2, none⟩ = false) := NF.out
      have SY2 := Lib.hid (SY.out.below (Below.refl _ _).drew)
      have O2 := Lib.hid (O.out.below (Below.refl _ _).drew)
      have HB2' := Lib.hid (HB.out.tr (Below.refl _ _).drew)
      clear ND NQ NF SY O HB
      generalize World.drew wr = wd at *
      have q1 : ∀ t : Flow.Cls (ButG g wd), t.val.cell? ⟨q, 0, none⟩ = some (.slice (some ⟨g, 0, none⟩) xs.length c3) := fun t => t.ok.cell QG.out NQ2.out
      haveI nonE : Nonempty (Flow.Cls (ButG g wd)) := ⟨⟨wd, ButG.refl _ _⟩⟩
      rw [Flow.wpSegs_cons]
      simp only [Flow.pick, List.getElem?_toArray, List.getElem?_cons_succ, List.getElem?_cons_zero]
      repeat go_big_quiet_step (fail)
      refine wpQuiet_nil ?_
      clear nonE q1
      rw [Flow.callAt_eq]
      simp only [List.getElem?_toArray, List.getElem?_cons_succ, List.getElem?_cons_zero]
      rw [if_pos (by rfl)]
      refine Flow.wp_behind (fun K hK => ?_)
      have d3 := ND2.out
      go_wp2_with fail
      refine hK.out _ _ ⟨ButG.refl _ _, ?_⟩
      clear hK K d3
      rw [Flow.wpSegs_cons]
      simp only [Flow.pick]
      refine wpQuiet_nil ?_
      rw [Flow.callAt_eq]
      simp only [List.getElem?_toArray, List.getElem?_cons_succ, List.getElem?_cons_zero]
      rw [if_pos (by rfl)]
      refine Flow.wp_behind (fun K hK => ?_)
      go_wp2_with fail
      refine (cloneR_any y4 y5 y3 _ SY2.out.rd SY2.out.sl hyll).mono ?_; rintro e w5 ⟨A5, c5, rfl, ho5, b5⟩
      refine hK.out _ _ ⟨ButG.below b5, ?_⟩
      clear hK K
      have ND5 := Lib.hid (Below.cellv b5 ND2.out)
      have NF5 : Hid (w5.frozen? ⟨g, k * 3 + 2, none⟩ = false) := by
        obtain ⟨A6, c6, zs, hzs, hZ⟩ := O2.out.below b5
        have hzl : zs.length = gs.length := by rw [← hzs, List.length_map]
        obtain ⟨z, hz⟩ : ∃ z, zs[k]? = some z := ⟨_, List.getElem?_eq_getElem (by rw [hzl, ← HLN.out]; exact hlt)⟩
        obtain ⟨g', eg, _, _, _, _, _, h6⟩ := hZ.at_j hz
        cases eg; exact h6
      have hso : SetOk w5 A5 c5 y3 := ⟨(RdR.of_own ho5).1, SlR.of_own ho5, fun a ha => (own_new ho5 (Nat.zero_le _) a ha).2⟩
      have hms := MkAt.setSet (O2.out.below b5) (i := k) (by rw [← HLN.out]; exact hlt) hso
      have hsame := setSet_same GY.out
      simp only at hsame
      rw [hsame] at hms
      have HMS := Lib.hid hms.1
      have hgw := HR2.out g rfl
      have HB5 := Lib.hid ((HB2'.out.tr b5).setCell (p := ⟨g, k * 3 + 2, none⟩) hgw (.slice A5 y3.length c5))
      clear ho5 b5 hso hms hsame hgw ND2 NQ2 NF2 SY2 O2 HB2'
      rw [Flow.wpSegs_cons]
      simp only [Flow.pick, List.getElem?_toArray, List.getElem?_cons_succ, List.getElem?_cons_zero]
      haveI nonE : Nonempty (Flow.Cls (ButG g w5)) := ⟨⟨w5, ButG.refl _ _⟩⟩
      repeat go_big_quiet_step (fail)
      refine wpQuiet_nil ?_
      clear nonE
      rw [Flow.callAt_eq]
      simp only [List.getElem?_toArray, List.getElem?_cons_succ, List.getElem?_cons_zero]
      rw [if_pos (by rfl)]
      refine Flow.wp_behind (fun K hK => ?_)
      have d3 := ND5.out
      have d5 := NF5.out
      go_wp2_with fail
      refine hK.out _ _ ⟨ButG.set _ _ _ _, ?_⟩
      clear hK K d3 d5
      rw [Flow.wpSegs_nil]
      simp only [Flow.pick]
      haveI nonE : Nonempty (Flow.Cls (ButG g (w5.setCell ⟨g, k * 3 + 2, none⟩ (.slice A5 y3.length c5)))) := ⟨⟨_, ButG.refl _ _⟩⟩
      refine wpQuiet_nil ?_
      clear nonE
      go_wp2_with fail
      go_roundg (xs.length - (k + 1))
      case measure => omega
      case rel => exact ⟨k + 1, by omega, by omega, by go_num, HMS, HB5.out⟩
    · obtain rfl : k = xs.length := by omega
      go_wp2_with fail
      go_ret
      exact ⟨q, R2, rfl, O.out, HQ.out, HR2.out, hB⟩
end Go.Proofs.YtcpennlojjlpaaaGreatDoor
