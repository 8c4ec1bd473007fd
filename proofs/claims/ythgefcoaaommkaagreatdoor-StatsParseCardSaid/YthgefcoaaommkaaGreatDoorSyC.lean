/- Contract: control.ParseAuthor: its error. -/
import Derived.Test.YthgefcoaaommkaaGreatDoorSyB
import Derived.Test.YthgefcoaaommkaaGreatDoorZc
import Derived.Test.YthgefcoaaommkaaGreatDoorZe
namespace Go.Proofs.YthgefcoaaommkaaGreatDoor
open Go.RowKit Go.Gn Go.Sr Go.Maps Go.Nr

def isHex (c : UInt8) : Bool := (decide (48 ≤ c.toNat) && decide (c.toNat ≤ 57)) || (decide (97 ≤ c.toNat) && decide (c.toNat ≤ 102))
def authE (s : List UInt8) : Int := if (s.take 32).all isHex = true then (if s.length < 32 then 4 else if 32 < s.length then 5 else 0) else 6
theorem authE_bad {s : List UInt8} {k : Nat} (hk : k < s.length) (h32 : k < 32) (h : isHex (s.getD k 0) = false) : authE s = 6 := by
  unfold authE
  rw [if_neg]
  intro ha
  have := List.all_eq_true.1 ha (s.getD k 0) (by
    refine List.mem_of_getElem? (i := k) ?_
    rw [List.getElem?_take_of_lt h32]
    simp [hk])
  rw [h] at this; cases this
def hexS : List UInt8 := [48, 49, 50, 51, 52, 53, 54, 55, 56, 57, 97, 98, 99, 100, 101, 102]
set_option maxRecDepth 100000 in
theorem hex_all : ∀ n : Fin 256, (isHex (UInt8.ofNat n) = true → 0 ≤ Lib.indexByte hexS (UInt8.ofNat n) ∧ Lib.indexByte hexS (UInt8.ofNat n) ≤ 15) ∧ (isHex (UInt8.ofNat n) = false → Lib.indexByte hexS (UInt8.ofNat n) = -1) := by decide +kernel
theorem hex_yes (c : UInt8) (h : isHex c = true) : 0 ≤ Lib.indexByte hexS c ∧ Lib.indexByte hexS c ≤ 15 := by
  have a := (hex_all ⟨c.toNat, c.toNat_lt⟩).1
  simp only [UInt8.ofNat_toNat] at a
  exact a h
theorem hex_no (c : UInt8) (h : isHex c = false) : Lib.indexByte hexS c = -1 := by
  have a := (hex_all ⟨c.toNat, c.toNat_lt⟩).2
  simp only [UInt8.ofNat_toNat] at a
  exact a h
theorem hexIdx (c : UInt8) (w : World) : Calls Tryz.prog 165 #[.string ⟨#[48, 49, 50, 51, 52, 53, 54, 55, 56, 57, 97, 98, 99, 100, 101, 102]⟩, .int .u8 c.toNat] w fun e w' => e = .returned (i64 (Lib.indexByte hexS c)) ∧ w' = w := by
  have h := Tryz.strings_IndexByte ⟨hexS.toArray⟩ c.toNat w
  refine h.mono fun e w' ⟨h1, h2⟩ => ⟨?_, h2⟩
  rw [h1]
  simp
theorem belowCells {N b : Nat} (hb : N ≤ b) : ∀ (vs : List Value) (o : Nat) (w : World), Below N w (w.setCells b o vs)
  | [], _, w => Below.refl N w
  | v :: r, o, w => ((Below.refl N w).setCell (p := ⟨b, o, none⟩) hb v).trans (belowCells hb r (o + 1) _)
/-- A block of sixteen bytes. -/
structure Blk16 (T : TypeId) (w : World) (b : Nat) : Prop where
  ex : ∃ cs : Array Value, w.heap[b]? = some (.cells cs T (0, 0)) ∧ cs.size = 16 ∧ ∀ j, j < 16 → ∃ z : Int, cs[j]? = some (.int .u8 z)
theorem Blk16.cell {T : TypeId} {w : World} {b j : Nat} (h : Blk16 T w b) (hj : j < 16) : ∃ z : Int, w.cell? ⟨b, j, none⟩ = some (.int .u8 z) ∧ w.frozen? ⟨b, j, none⟩ = false := by
  obtain ⟨cs, h1, h2, h3⟩ := h.ex
  obtain ⟨z, hz⟩ := h3 j hj
  exact ⟨z, by rw [blk_cell h1, hz], blk_free h1 j⟩
theorem Blk16.set {T : TypeId} {w : World} {b j : Nat} (h : Blk16 T w b) (_hj : j < 16) (v : Int) : Blk16 T (w.setCell ⟨b, j, none⟩ (.int .u8 v)) b := by
  obtain ⟨cs, h1, h2, h3⟩ := h.ex
  have hs := blk_set h1 j (.int .u8 v)
  refine ⟨_, hs, by simp [h2], fun i hi => ?_⟩
  obtain ⟨z, hz⟩ := h3 i hi
  by_cases e : j = i
  · subst e
    exact ⟨v, by simp [h2, hi]⟩
  · exact ⟨z, by simp [e, hz]⟩
theorem Blk16.made (T : TypeId) (w : World) : Blk16 T (w.alloc (.cells #[.int .u8 0, .int .u8 0, .int .u8 0, .int .u8 0, .int .u8 0, .int .u8 0, .int .u8 0, .int .u8 0, .int .u8 0, .int .u8 0, .int .u8 0, .int .u8 0, .int .u8 0, .int .u8 0, .int .u8 0, .int .u8 0] T)) w.heap.size :=
  ⟨_, blk_new w _, rfl, fun j hj => ⟨0, by
    rcases (by omega : j = 0 ∨ j = 1 ∨ j = 2 ∨ j = 3 ∨ j = 4 ∨ j = 5 ∨ j = 6 ∨ j = 7 ∨ j = 8 ∨ j = 9 ∨ j = 10 ∨ j = 11 ∨ j = 12 ∨ j = 13 ∨ j = 14 ∨ j = 15) with rfl | rfl | rfl | rfl | rfl | rfl | rfl | rfl | rfl | rfl | rfl | rfl | rfl | rfl | rfl | rfl <;> rfl⟩⟩

theorem Blk16.below {T : TypeId} {w w' : World} {b : Nat} (h : Blk16 T w b) (hb : Below w.heap.size w w') : Blk16 T w' b := by
  obtain ⟨cs, h1, h2, h3⟩ := h.ex
  exact ⟨cs, blk_below hb h1, h2, h3⟩
theorem Blk16.other {T : TypeId} {w : World} {b c j : Nat} (h : Blk16 T w b) (hne : b ≠ c) (v : Value) : Blk16 T (w.setCell ⟨c, j, none⟩ v) b := by
  obtain ⟨cs, h1, h2, h3⟩ := h.ex
  exact ⟨cs, by rw [blk_set_ne j v hne]; exact h1, h2, h3⟩
theorem Blk16.there {T : TypeId} {w : World} {b : Nat} (h : Blk16 T w b) : w.there b 0 16 := fun j hj => by
  obtain ⟨z, h1, h2⟩ := h.cell hj
  rw [Nat.zero_add]
  exact ⟨by rw [h1]; rfl, h2⟩
theorem cells16 {T : TypeId} {w : World} {b : Nat} (h : Blk16 T w b) (cs : List Value) (hl : cs.length = 16) {j : Nat} {v : Value} (hj : cs[j]? = some v) : (w.setCells b 0 cs).cell? ⟨b, j, none⟩ = some v := by
  obtain ⟨hlt, e⟩ := List.getElem?_eq_some_iff.1 hj
  have := World.cell?_setCells_in b cs 0 w (fun i hi => (h.there i (by omega)).1) j hlt
  rw [Nat.zero_add, e] at this
  exact this
theorem results_cell3 {P : Program} {fn : Func} {tmps : Array Value} {w : World} {a i j : Nat} {ty : TypeId} {q : Addr} {vs x y : Value} (hr : fn.results = #[.cell a ty, .tmp i, .tmp j]) (ha : tmps.getD a undef = .pointer (some q)) (hl : (loadVar ty q).run P w = .ok vs w) (hx : tmps.getD i undef = x) (hy : tmps.getD j undef = y) : (results fn tmps).run P w = .ok (.tuple #[vs, x, y]) w := by
  unfold results
  rw [hr]
  have hA : (asAddr (tmps.getD a undef)).run P w = .ok q w := by rw [ha]; rfl
  have hmap : ∀ u : Sem (List Value), (Functor.map List.toArray u) = u >>= fun l => pure l.toArray := fun _ => rfl
  have hp : ∀ {α : Type} (u : α), (pure u : Sem α).run P w = .ok u w := fun _ => rfl
  simp only [List.mapM_toArray, List.mapM_cons, List.mapM_nil, hmap, Sem.run_bind, hA, Result.andThen, hl, hx, hy, hp]
  rfl
abbrev zero16 : List Value := [.int .u8 0, .int .u8 0, .int .u8 0, .int .u8 0, .int .u8 0, .int .u8 0, .int .u8 0, .int .u8 0, .int .u8 0, .int .u8 0, .int .u8 0, .int .u8 0, .int .u8 0, .int .u8 0, .int .u8 0, .int .u8 0]
set_option maxRecDepth 100000 in
set_option maxHeartbeats 8000000 in
theorem parseAuthor_any (s : List UInt8) (w : World) (hl : s.length ≤ 1000000000) :
    Calls Tryz.prog 131 #[enS s] w fun e w' => (∃ (cs : List Value) (at_ : Int), (cs.length = 16 ∧ cs.toArray.all (·.oneCell') = true) ∧ e = .returned (.tuple #[.agg cs.toArray, i64 at_, i64 (authE s)])) ∧ Below w.heap.size w w' := by
  have BK := Lib.hid (Blk16.made 49 w)
  have B0 := Lib.hid (below_new w (.cells #[.int .u8 0, .int .u8 0, .int .u8 0, .int .u8 0, .int .u8 0, .int .u8 0, .int .u8 0, .int .u8 0, .int .u8 0, .int .u8 0, .int .u8 0, .int .u8 0, .int .u8 0, .int .u8 0, .int .u8 0, .int .u8 0] 49))
  go_enter Tryz.func131, Tryz.ntmps131
  go_upto_block 0 with fail
  generalize w.alloc (.cells #[.int .u8 0, .int .u8 0, .int .u8 0, .int .u8 0, .int .u8 0, .int .u8 0, .int .u8 0, .int .u8 0, .int .u8 0, .int .u8 0, .int .u8 0, .int .u8 0, .int .u8 0, .int .u8 0, .int .u8 0, .int .u8 0] 49) = w1 at *
  have hm : min (s.length : Int) 32 = ((min s.length 32 : Nat) : Int) := by omega
  rw [hm]
  have hm1 : min s.length 32 ≤ s.length := Nat.min_le_left _ _
  have hm2 : min s.length 32 ≤ 32 := Nat.min_le_right _ _
  have hm3 : s.length < 32 → min s.length 32 = s.length := fun h => by omega
  have HM4 := Lib.hid (show (s.take (min s.length 32)) = s.take 32 by rcases Nat.le_total s.length 32 with h | h; · rw [Nat.min_eq_left h, List.take_of_length_le (Nat.le_refl _), List.take_of_length_le h]
                                                                      · rw [Nat.min_eq_right h])
  generalize min s.length 32 = m at *
  clear hm
  go_wp2_with fail
  go_loopg [10] m (fun gg iv wr => ∃ k : Nat, k ≤ m ∧ m - k ≤ gg ∧ iv = i64 k ∧ Hid ((s.take k).all isHex = true) ∧ Hid (Blk16 49 wr w.heap.size) ∧ Hid (Below w.heap.size w wr))
  case atStart => exact ⟨0, by omega, by omega, rfl, Lib.hid (by simp), BK, B0⟩
  case round =>
    obtain ⟨k, hk, hgk, rfl, HH, K, B⟩ := hrel
    by_cases hlt : k < m
    · have hlt2 : k < s.length := by omega
      have bg := bget (t := s) (p := k) (show k < s.toArray.size by simpa using hlt2) hlt2
      have HB1 := Lib.hid (authE_bad hlt2 (by omega))
      have HSN := Lib.hid (show (s.take (k + 1)).all isHex = ((s.take k).all isHex && isHex (s.getD k 0)) by rw [List.take_succ_eq_append_getElem hlt2, List.all_append]; simp [hlt2])
      obtain ⟨c, hc⟩ : ∃ c, s.getD k 0 = c := ⟨_, rfl⟩
      rw [hc] at bg HB1 HSN
      clear hc
      go_wp2_with fail
      refine (hexIdx c _).mono ?_; rintro e w9 ⟨rfl, hw9⟩
      have hw9 := hw9.symm
      subst hw9
      by_cases hx : isHex c = true
      case neg =>
        have hxf : isHex c = false := by simpa using hx
        rw [hex_no c hxf]
        have V := Lib.hid (HB1.out hxf)
        clear hx hxf HB1 HSN HH
        go_wp2_with (refine wpList_store_mid rfl 49 _ _ rfl w.heap.size 0 _ rfl rfl ?_ ?_ ?_ ?_)
        · exact K.out.there
        · kernel_rfl
        · kernel_rfl
        have BB := B.out.trans (belowCells (N := w.heap.size) (b := w.heap.size) (Nat.le_refl _) zero16 0 wr)
        have HRz : World.rangeAt (wr.setCells w.heap.size 0 zero16) w.heap.size 0 zero16 := fun j v hv => by rw [Nat.zero_add]; exact cells16 K.out zero16 rfl hv
        have hload := run_loadVar_mid (P := Tryz.prog) _ w.heap.size 0 49 zero16 _ HRz Tryz.underlying49 rfl (by kernel_rfl)
        clear HRz K
        refine bodyPost_ret (v := .tuple #[.agg zero16.toArray, i64 k, i64 6]) (results_cell3 (a := 2) (i := 3) (j := 4) rfl rfl hload rfl rfl) rfl ⟨⟨zero16, _, ⟨rfl, by kernel_rfl⟩, by rw [V.out]⟩, BB⟩
      have hi := hex_yes c hx
      have HSN2 : Hid ((s.take (k + 1)).all isHex = true) := Lib.hid (by rw [HSN.out, HH.out, hx]; rfl)
      generalize Lib.indexByte hexS c = v at *
      obtain ⟨hv0, hv1⟩ := hi
      clear HSN HH HB1 hx
      have hk2 : k / 2 < 16 := by omega
      obtain ⟨z, cz, fz⟩ := K.out.cell hk2
      go_wp2_with fail
      have K2 := Lib.hid (K.out.set hk2 (bits BinOp.or IntKind.u8 (z * 16 % 256) v))
      have B2 := Lib.hid (B.out.setCell (p := ⟨w.heap.size, k / 2, none⟩) (Nat.le_refl _) (.int .u8 (bits BinOp.or IntKind.u8 (z * 16 % 256) v)))
      go_roundg (m - (k + 1))
      case measure => omega
      case rel => exact ⟨k + 1, by omega, by omega, by go_num, HSN2, K2, B2⟩
    · obtain rfl : k = m := by omega
      have HA : Hid ((s.take 32).all isHex = true) := Lib.hid (by rw [← HM4.out]; exact HH.out)
      by_cases h4 : s.length < 32
      case pos =>
        have V : Hid (authE s = 4) := Lib.hid (by (show authE s = 4); unfold authE; rw [if_pos HA.out, if_pos h4])
        clear HA HH HM4
        go_wp2_with (refine wpList_store_mid rfl 49 _ _ rfl w.heap.size 0 _ rfl rfl ?_ ?_ ?_ ?_)
        · exact K.out.there
        · kernel_rfl
        · kernel_rfl
        have BB := B.out.trans (belowCells (N := w.heap.size) (b := w.heap.size) (Nat.le_refl _) zero16 0 wr)
        have HRz : World.rangeAt (wr.setCells w.heap.size 0 zero16) w.heap.size 0 zero16 := fun j v hv => by rw [Nat.zero_add]; exact cells16 K.out zero16 rfl hv
        have hload := run_loadVar_mid (P := Tryz.prog) _ w.heap.size 0 49 zero16 _ HRz Tryz.underlying49 rfl (by kernel_rfl)
        clear HRz K
        refine bodyPost_ret (v := .tuple #[.agg zero16.toArray, i64 s.length, i64 4]) (results_cell3 (a := 2) (i := 3) (j := 4) rfl rfl hload rfl rfl) rfl ⟨⟨zero16, _, ⟨rfl, by kernel_rfl⟩, by rw [V.out]⟩, BB⟩
      by_cases h5 : 32 < s.length
      case pos =>
        have V : Hid (authE s = 5) := Lib.hid (by (show authE s = 5); unfold authE; rw [if_pos HA.out, if_neg h4, if_pos h5])
        clear HA HH HM4
        go_wp2_with (refine wpList_store_mid rfl 49 _ _ rfl w.heap.size 0 _ rfl rfl ?_ ?_ ?_ ?_)
        · exact K.out.there
        · kernel_rfl
        · kernel_rfl
        have BB := B.out.trans (belowCells (N := w.heap.size) (b := w.heap.size) (Nat.le_refl _) zero16 0 wr)
        have HRz : World.rangeAt (wr.setCells w.heap.size 0 zero16) w.heap.size 0 zero16 := fun j v hv => by rw [Nat.zero_add]; exact cells16 K.out zero16 rfl hv
        have hload := run_loadVar_mid (P := Tryz.prog) _ w.heap.size 0 49 zero16 _ HRz Tryz.underlying49 rfl (by kernel_rfl)
        clear HRz K
        refine bodyPost_ret (v := .tuple #[.agg zero16.toArray, i64 32, i64 5]) (results_cell3 (a := 2) (i := 3) (j := 4) rfl rfl hload rfl rfl) rfl ⟨⟨zero16, _, ⟨rfl, by kernel_rfl⟩, by rw [V.out]⟩, BB⟩
      have V : Hid (authE s = 0) := Lib.hid (by (show authE s = 0); unfold authE; rw [if_pos HA.out, if_neg h4, if_neg h5])
      clear HA HH HM4
      obtain ⟨cs, h1, h2, h3⟩ := K.out.ex
      have HR := range_blk (cs := cs.toList) (by simpa using h1)
      have hsz : cs.toList.toArray.size = 16 := by simpa using h2
      have hl16 : cs.toList.length = 16 := by simpa using h2
      have hone : cs.toList.toArray.all (·.oneCell') = true := all_oneCell_toArray fun v hv => by
        obtain ⟨i, hi⟩ := List.getElem?_of_mem hv
        have hi2 := (List.getElem?_eq_some_iff.1 hi).1
        obtain ⟨z, hz⟩ := h3 i (by omega)
        rw [← Array.getElem?_toList, hi] at hz
        cases hz; rfl
      have hinf : (Tryz.prog.info? 49).map (·.size) = some 16 := by kernel_rfl
      go_wp2_with (first | refine wpList_load_mid rfl 49 _ rfl w.heap.size 0 rfl cs.toList _ HR Tryz.underlying49 rfl (by rw [hinf, hl16]) ?_ | refine wpList_store_mid rfl 49 _ _ rfl w.heap.size 0 _ rfl rfl ?_ ?_ ?_ ?_)
      · rw [hsz]; exact K.out.there
      · rw [hinf, hsz]
      · exact hone
      have BB := B.out.trans (belowCells (N := w.heap.size) (b := w.heap.size) (Nat.le_refl _) cs.toList 0 wr)
      have HRz : World.rangeAt (wr.setCells w.heap.size 0 cs.toList) w.heap.size 0 cs.toList := fun j v hv => by rw [Nat.zero_add]; exact cells16 K.out cs.toList hl16 hv
      have hload := run_loadVar_mid (P := Tryz.prog) _ w.heap.size 0 49 cs.toList _ HRz Tryz.underlying49 rfl (by rw [hinf, hl16])
      clear HRz K
      refine bodyPost_ret (v := .tuple #[.agg cs.toList.toArray, i64 0, i64 0]) (results_cell3 (a := 2) (i := 3) (j := 4) rfl rfl hload rfl rfl) rfl ⟨⟨cs.toList, _, ⟨hl16, hone⟩, by rw [V.out]⟩, BB⟩
end Go.Proofs.YthgefcoaaommkaaGreatDoor
