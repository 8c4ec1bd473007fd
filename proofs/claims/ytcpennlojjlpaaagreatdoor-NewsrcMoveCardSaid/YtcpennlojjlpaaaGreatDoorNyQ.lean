/- Contract: newsrc.Move. -/
import Derived.Test.YtcpennlojjlpaaaGreatDoorNyP
import Derived.Test.YtcpennlojjlpaaaGreatDoorZe
import Derived.Maps.OwnOps
namespace Go.Nr
theorem movedL_snoc {S : List Rg} {here there : List N} {k : Nat} {x : N} (h : there[k]? = some x) : movedL S here (there.take (k + 1)) = movedL S here (there.take k) ++ if knownN S here x.1 then [x.2] else [] := by
  obtain ⟨hl, hx⟩ := List.getElem?_eq_some_iff.1 h
  rw [List.take_succ_eq_append_getElem hl, hx]
  unfold movedL
  rw [List.filter_append, List.map_append]
  cases hq : knownN S here x.1 <;> simp [hq]
theorem movedL_length (S : List Rg) (here there : List N) : (movedL S here there).length ≤ there.length := by
  unfold movedL
  rw [List.length_map]; exact List.length_filter_le _ _
end Go.Nr
namespace Go.Proofs.YtcpennlojjlpaaaGreatDoor
open Go.RowKit Go.Nr Go.Gn Go.Maps

def okN (x : N) : Bool := num x.2
/-- What Move returns. -/
def moveE (here there : List N) : Nat := if (here.all okN && there.all okN) = true then 0 else 2
def moveS (read : List Rg) (here there : List N) : List Rg := if (here.all okN && there.all okN) = true then moved read here there else []
theorem allN_take {l : List N} {k : Nat} {x : N} (h : l[k]? = some x) : (l.take (k + 1)).all okN = ((l.take k).all okN && num x.2) := by
  obtain ⟨hl, hx⟩ := List.getElem?_eq_some_iff.1 h
  rw [List.take_succ_eq_append_getElem hl, hx]; simp [okN]
theorem allN_no {l : List N} {k : Nat} {x : N} (h : l[k]? = some x) (hn : num x.2 = false) : l.all okN = false := by
  rw [List.all_eq_false]
  exact ⟨x, List.mem_of_getElem? h, by simp [okN, hn]⟩

theorem moved_from {S : List Rg} {here there : List N} (h : there.all okN = true) : fromE (pts (movedL S here there)) = 0 ∧ fromS (pts (movedL S here there)) = moved S here there := by
  have ha : (pts (movedL S here there)).all okB = true := by
    rw [List.all_eq_true]
    intro r hr
    obtain ⟨n, hn, rfl⟩ := List.mem_map.1 hr
    obtain ⟨x, hx, rfl⟩ := List.mem_map.1 hn
    have := (List.all_eq_true.1 h) x (List.mem_filter.1 hx).1
    unfold okN at this
    simpa [okB, num] using this
  exact ⟨by unfold fromE; rw [if_pos ha], by unfold fromS; rw [if_pos ha]; rfl⟩
section
variable {P : Program} {ops : Array Oper} {rest : List Oper} {op : Oper} {a : Act} {w : World} {Q : Exit → Act → World → Prop}
/-- Many cells into the block that was made last. -/
theorem wpList_store_new (hgd : op.guard = none) (ty : TypeId) (x y : Operand) (ho : op.op = .store ty x y) (c : Array Value) (cells : Array Value) (hx : a.eval x = .pointer (some ⟨w.heap.size, 0, none⟩)) (hy : a.eval y = .agg cells)
    (hi : (P.info? ty).map (·.size) = some cells.size) (hs : c.size = cells.size) (h1 : cells.all (·.oneCell') = true) (h : wpList P ops Q rest (a.put op.dst undef) (w.alloc (.cells cells ty))) : wpList P ops Q (op :: rest) a (w.alloc (.cells c ty)) :=
  wpList_plain hgd fun _ hK => by
    unfold Oper.wp execOp
    simp only [ho, hx, hy, Sem.run_bind, Sem.run_pure, run_storeAt_new (P := P) w ty c cells hi hs h1, Result.andThen_ok]
    exact hK _ _ h
end
theorem range_blk {w : World} {b : Nat} {cs : List Value} {t : TypeId} {fr : Nat × Nat} (h : w.heap[b]? = some (.cells cs.toArray t fr)) : w.rangeAt b 0 cs := fun j v hv => by
  rw [Nat.zero_add, blk_cell h j]; simpa using hv
theorem cellsN_no {x : N} (h : x.1.length = 32) : (cellsN x).toArray[32]? = some (i64 x.2) := by simp [cellsN, h]
theorem int_info46 : (Tryz.prog.info? 3).map (fun i => (i.zero, i.size, i.bytes)) = some (some (i64 0), 1, 8) := by kernel_rfl
theorem zeroB46 (w : World) : (zeroValue 4).run Tryz.prog w = .ok (.bool false) w := by kernel_rfl
/-- The variables of Move. -/
structure MvW (w : World) (X : Option Addr) (x : Nat) (S : List Rg) (A : Option Addr) (a : Nat) (here : List N) (B : Option Addr) (b : Nat) (there : List N) (W : World) : Prop where
  bx : W.heap[w.heap.size]? = some (.cells #[.slice X S.length x] 26)
  rs : W.heap[w.heap.size + 1]? = some (.cells #[.slice none 0 0] 26)
  ls : W.heap[w.heap.size + 1 + 1]? = some (.cells #[.slice A here.length a, .slice B there.length b] 48)
  rx : RdR w X S
  ra : RdN w A here
  rb : RdN w B there
  below : Below w.heap.size w W
section
variable {w W W' : World} {X : Option Addr} {x : Nat} {S : List Rg} {A : Option Addr} {a : Nat} {here : List N} {B : Option Addr} {b : Nat} {there : List N}
theorem MvW.tr (h : MvW w X x S A a here B b there W) (hb : Below W.heap.size W W') : MvW w X x S A a here B b there W' :=
  ⟨blk_below hb h.bx, blk_below hb h.rs, blk_below hb h.ls, h.rx, h.ra, h.rb, h.below.tr hb⟩
theorem MvW.grown (h : MvW w X x S A a here B b there W) {row : Option Nat} (hg : W.grownBy W' row) (hr : ∀ r, row = some r → w.heap.size + 1 + 1 < r) : MvW w X x S A a here B b there W' := by
  have h3 := blk_lt h.ls
  have hk : ∀ c, c ≤ w.heap.size + 1 + 1 → W'.heap[c]? = W.heap[c]? := fun c hc => hg.block c (by omega) (fun e => by have := hr c e.symm; omega)
  exact ⟨(hk _ (by omega)).trans h.bx, (hk _ (by omega)).trans h.rs, (hk _ (by omega)).trans h.ls, h.rx, h.ra, h.rb, h.below.grown hg h.below.size (fun k e => by have := hr k e; omega)⟩
theorem MvW.lst (h : MvW w X x S A a here B b there W) {k : Nat} (hk : k < 2) : ∃ (C : Option Addr) (c : Nat) (L : List N), (k = 0 ∧ L = here ∨ k = 1 ∧ L = there) ∧ W.cell? ⟨w.heap.size + 1 + 1, k, none⟩ = some (.slice C L.length c) ∧ RdN w C L := by
  have h0 := blk_cell h.ls k
  rcases (by omega : k = 0 ∨ k = 1) with rfl | rfl
  · exact ⟨A, a, here, .inl ⟨rfl, rfl⟩, h0, h.ra⟩
  · exact ⟨B, b, there, .inr ⟨rfl, rfl⟩, h0, h.rb⟩
end
theorem num_size : (Tryz.prog.info? 69).map (·.size) = some 33 := by kernel_rfl
theorem id_size : (Tryz.prog.info? 67).map (·.size) = some 32 := by kernel_rfl
set_option maxRecDepth 100000 in
set_option maxHeartbeats 16000000 in
theorem move_any (X : Option Addr) (x : Nat) (S : List Rg) (A : Option Addr) (a : Nat) (here : List N) (B : Option Addr) (b : Nat) (there : List N) (w : World)
    (hX : RdR w X S) (hS : Nrm S) (hl : S.length ≤ 1000000) (hA : RdN w A here) (hB : RdN w B there) (hokA : OkN here) (hokB : OkN there) (hlA : here.length ≤ 1000) (hlB : there.length ≤ 1000) :
    Calls Tryz.prog 32 #[.agg #[.slice X S.length x], .slice A here.length a, .slice B there.length b] w (GivesSet w (moveS S here there) (moveE here there)) := by
  obtain ⟨i0, hi, hz0, hz1, hz2⟩ := info_parts int_info46
  obtain ⟨SE, hSE⟩ : ∃ n, moveE here there = n := ⟨_, rfl⟩
  obtain ⟨SS, hSS⟩ : ∃ n, moveS S here there = n := ⟨_, rfl⟩
  rw [hSE, hSS]
  have VE := Lib.hid hSE
  have VS := Lib.hid hSS
  have HOA := Lib.hid hokA
  have HOB := Lib.hid hokB
  have HS := Lib.hid hS
  have hmm := @run_makeMap Tryz.prog
  have M0 : Hid (MvW w X x S A a here B b there (((w.alloc (.cells #[.slice X S.length x] 26)).alloc (.cells #[.slice none 0 0] 26)).alloc (.cells #[.slice A here.length a, .slice B there.length b] 48))) := by
    have n2 := blk_new (w.alloc (.cells #[.slice X S.length x] 26)) (.cells #[.slice none 0 0] 26)
    have n3 := blk_new ((w.alloc (.cells #[.slice X S.length x] 26)).alloc (.cells #[.slice none 0 0] 26)) (.cells #[.slice A here.length a, .slice B there.length b] 48)
    rw [World.size_alloc] at n2
    rw [World.size_alloc, World.size_alloc] at n3
    exact ⟨blk_old _ (blk_old _ (blk_new w _)), blk_old _ n2, n3, hX, hA, hB, ((below_new w _).tr (below_new _ _)).tr (below_new _ _)⟩
  clear hSE hSS hokA hokB hS hX hA hB
  go_enter Tryz.func32, Tryz.ntmps32
  go_wp2_with fail
  go_loopg [7, 22] 2 (fun gg ev iv wr => ∃ k : Nat, k ≤ 2 ∧ 2 - k ≤ gg ∧ ev = .int .i64 0 ∧ iv = .int .i64 k ∧ Hid (MvW w X x S A a here B b there wr) ∧ Hid ((0 < k → here.all okN = true) ∧ (1 < k → there.all okN = true)))
  case atStart => exact ⟨0, by omega, by omega, rfl, rfl, M0, ⟨fun h => by omega, fun h => by omega⟩⟩
  case round =>
    obtain ⟨k, hk, hgk, rfl, rfl, M1, OK1⟩ := hrel
    by_cases hlt : k < 2
    · obtain ⟨C, c, L, hkL, hcell, hRd⟩ := M1.out.lst hlt
      have HRD := Lib.hid hRd
      have HKL := Lib.hid hkL
      have hLl : L.length ≤ 1000 := by rcases hkL with ⟨_, rfl⟩ | ⟨_, rfl⟩ <;> assumption
      have HLO : Hid (OkN L) := by (show OkN L); rcases hkL with ⟨_, rfl⟩ | ⟨_, rfl⟩; exact HOA.out; exact HOB.out
      clear hRd hkL
      go_wp2_with fail
      clear hcell
      rw [show decide ((k : Int) < 2) = true from decide_eq_true (by omega)]
      go_loopg [7, 28] L.length (fun gg ev jv wq => ∃ j : Nat, j ≤ L.length ∧ L.length - j ≤ gg ∧ ev = .int .i64 0 ∧ jv = .int .i64 j ∧ Hid (MvW w X x S A a here B b there wq) ∧ Hid ((L.take j).all okN = true))
      case atStart => exact ⟨0, by omega, by omega, rfl, rfl, M1, by (show List.all _ _ = true); simp⟩
      case round =>
        obtain ⟨j, hj, hgj, rfl, rfl, M2, OK2⟩ := hrel
        by_cases hlt2 : j < L.length
        · obtain ⟨g, o, y, rfl, hgl, hy, hcs⟩ := (HRD.out.below M2.out.below).at_ hlt2
          have h32 := HLO.out y (List.mem_of_getElem? hy)
          have hLy := cellsN_length h32
          have hat := allN_take hy
          rw [OK2.out] at hat
          have hblk := blk_new wr (.cells (cellsN y).toArray 69)
          have hcell : (wr.alloc (.cells (cellsN y).toArray 69)).cell? ⟨wr.heap.size, 32, none⟩ = some (i64 y.2) := by rw [blk_cell hblk 32]; exact cellsN_no h32
          have hnum := isNumber_any y.2 (wr.alloc (.cells (cellsN y).toArray 69))
          have HAT := Lib.hid hat
          have HY := Lib.hid hy
          clear hat hy hblk
          cases hq : num y.2 with
          | true =>
            rw [hq] at hnum HAT
            clear hq
            go_wp2_with (first | refine wpList_load_mid rfl 69 _ rfl g (o + j * 33) rfl (cellsN y) _ hcs Tryz.underlying69 rfl (by rw [hLy]; exact num_size) ?_ | refine wpList_store_new rfl 69 _ _ rfl _ (cellsN y).toArray rfl rfl (by rw [List.size_toArray, hLy]; exact num_size) (by simp [hLy]) (all_oneCell_toArray (one_enB y)) ?_)
            refine hnum.mono ?_; rintro e w2 ⟨rfl, rfl⟩
            clear hnum
            go_wp2_with fail
            go_roundg (L.length - (j + 1))
            case measure => omega
            case rel => exact ⟨j + 1, by omega, by omega, rfl, by go_num, Lib.hid (M2.out.tr (below_new _ _)), HAT⟩
          | false =>
            rw [hq] at hnum
            have hbad := allN_no HY.out hq
            have hbad2 : (here.all okN && there.all okN) = false := by
              rcases HKL.out with ⟨_, rfl⟩ | ⟨_, rfl⟩
              · rw [hbad]; rfl
              · rw [hbad, Bool.and_false]
            have e1 : Hid (SE = 2) := by (show SE = 2); rw [← VE.out]; unfold moveE; rw [if_neg (by rw [hbad2]; exact Bool.false_ne_true)]
            have e2 : Hid (SS = []) := by (show SS = []); rw [← VS.out]; unfold moveS; rw [if_neg (by rw [hbad2]; exact Bool.false_ne_true)]
            clear hbad hbad2 hq
            go_wp2_with (first | refine wpList_load_mid rfl 69 _ rfl g (o + j * 33) rfl (cellsN y) _ hcs Tryz.underlying69 rfl (by rw [hLy]; exact num_size) ?_ | refine wpList_store_new rfl 69 _ _ rfl _ (cellsN y).toArray rfl rfl (by rw [List.size_toArray, hLy]; exact num_size) (by simp [hLy]) (all_oneCell_toArray (one_enB y)) ?_)
            refine hnum.mono ?_; rintro e w2 ⟨rfl, rfl⟩
            clear hnum
            have hb1 := blk_old (.cells (cellsN y).toArray 69) M2.out.rs
            have hrc := blk_cell hb1 0
            have hrf := blk_free hb1 0
            clear hb1
            go_wp2_with fail
            refine bodyPost_ret (v := .tuple #[.agg #[.slice none 0 0], i64 2]) (by simp [results, Tryz.results32, go_sem, hrc]) rfl ?_
            rw [e2.out, e1.out]
            exact ⟨none, 0, rfl, RdR.nil, SlR.nil, (fun a h => by cases h), (M2.out.below.tr (below_new _ _)).setCell (Nat.le_succ _) _⟩
        · obtain rfl : j = L.length := by omega
          have hall := OK2.out
          rw [List.take_length] at hall
          have HALL : Hid ((0 < k + 1 → here.all okN = true) ∧ (1 < k + 1 → there.all okN = true)) := by
            (show (0 < k + 1 → here.all okN = true) ∧ (1 < k + 1 → there.all okN = true))
            rcases HKL.out with ⟨rfl, rfl⟩ | ⟨rfl, rfl⟩
            · exact ⟨fun _ => hall, fun h => by omega⟩
            · exact ⟨fun _ => OK1.out.1 (by omega), fun _ => hall⟩
          clear hall
          go_wp2_with fail
          go_roundg (2 - (k + 1))
          case measure => omega
          case rel => exact ⟨k + 1, by omega, by omega, rfl, by go_num, M2, HALL⟩
    · obtain rfl : k = 2 := by omega
      have hokA := OK1.out.1 (by omega)
      have hokB := OK1.out.2 (by omega)
      have e1 : Hid (SE = 0) := by (show SE = 0); rw [← VE.out]; unfold moveE; rw [hokA, hokB]; rfl
      have e2 : Hid (SS = moved S here there) := by (show SS = _); rw [← VS.out]; unfold moveS; rw [hokA, hokB]; rfl
      have HOKB := Lib.hid hokB
      have M2 := Lib.hid (M1.out.tr (below_new wr (.map #[] 0)))
      have P2 : Hid (MapB Tryz.prog 67 4 (wr.alloc (.map #[] 0)) wr.heap.size []) := MapB.made Tryz.prog 67 4 wr
      have hsm := blk_lt M1.out.ls
      obtain ⟨m, hm⟩ : ∃ q, wr.heap.size = q := ⟨_, rfl⟩
      rw [hm] at P2 hsm
      have HM := Lib.hid hm
      clear hm hokA hokB M1 OK1
      go_wp2_with fail
      rw [HM.out]
      generalize wr.alloc (.map #[] 0) = u1 at *
      clear hmm HM
      go_loopg [42] here.length (fun gg iv wq => ∃ k : Nat, k ≤ here.length ∧ here.length - k ≤ gg ∧ iv = .int .i64 k ∧ Hid (MvW w X x S A a here B b there wq) ∧ Hid (MapB Tryz.prog 67 4 wq m (keysN S (here.take k))))
      case atStart => exact ⟨0, by omega, by omega, rfl, M2, P2⟩
      case round =>
        obtain ⟨k, hk, hgk, rfl, M3, P3⟩ := hrel
        by_cases hlt2 : k < here.length
        · obtain ⟨g, o, y, hAe, hgl, hy, hcs⟩ := (M3.out.ra.below M3.out.below).at_ hlt2
          subst hAe
          have h32 := HOA.out y (List.mem_of_getElem? hy)
          have hLy := cellsN_length h32
          have hks := keysN_snoc (S := S) hy
          have hblk := blk_new wr (.cells (cellsN y).toArray 69)
          have hcell : (wr.alloc (.cells (cellsN y).toArray 69)).cell? ⟨wr.heap.size, 32, none⟩ = some (i64 y.2) := by rw [blk_cell hblk 32]; exact cellsN_no h32
          have M4 := Lib.hid (M3.out.tr (below_new wr (.cells (cellsN y).toArray 69)))
          have P4 := Lib.hid (P3.out.below (below_new wr (.cells (cellsN y).toArray 69)))
          have hbx := blk_cell M4.out.bx 0
          have hnum := has_any X x S y.2 (wr.alloc (.cells (cellsN y).toArray 69)) (M4.out.rx.below M4.out.below) HS.out hl
          have hml := P3.out.lt
          have HBK := Lib.hid hblk
          clear hy hblk M3 P3
          go_wp2_with (first | refine wpList_load_mid rfl 69 _ rfl g (o + k * 33) rfl (cellsN y) _ hcs Tryz.underlying69 rfl (by rw [hLy]; exact num_size) ?_ | refine wpList_store_new rfl 69 _ _ rfl _ (cellsN y).toArray rfl rfl (by rw [List.size_toArray, hLy]; exact num_size) (by simp [hLy]) (all_oneCell_toArray (one_enB y)) ?_)
          refine hnum.mono ?_; rintro e w3 ⟨rfl, b3⟩
          clear hnum hbx hcell hcs
          have M5 := Lib.hid (M4.out.tr b3)
          have P5 := Lib.hid (P4.out.below b3)
          have hb5 := blk_below b3 HBK.out
          have hrg := range_id (range_blk hb5)
          have hs35 := b3.size
          rw [World.size_alloc] at hs35
          clear M4 P4 HBK b3 hb5
          have HKS := Lib.hid hks
          clear hks
          have hkl : (keysN S (here.take k)).length ≤ 1000 := by
            have h1 := keysN_length S (here.take k)
            have h2 := List.length_take_le k here
            omega
          cases hq : has S y.2 with
          | true =>
            rw [hq] at HKS
            clear hq
            go_wp2_with (first | (at_mapUpdate; refine wpList_mapUpdate_b _ rfl _ _ _ 117 rfl 67 4 id_keyed Tryz.underlying117 Tryz.underlying4 m _ rfl P5.out (by unfold maxLen; omega) _ _ rfl rfl (keyOf_idKey h32) (idKey_lit h32) ?_) | refine wpList_load_mid rfl 67 _ rfl wr.heap.size 0 rfl (y.1.map enB) _ hrg Tryz.underlying67 rfl (by rw [List.length_map, h32]; exact id_size) ?_)
            intro w6 hm6 hg6
            have M6 := Lib.hid (M5.out.grown hg6 (fun r e => by cases e; exact hsm))
            have P6 := Lib.hid hm6
            go_wp2_with fail
            go_roundg (here.length - (k + 1))
            case measure => omega
            case rel => exact ⟨k + 1, by omega, by omega, by go_num, M6, by rw [HKS.out]; exact P6⟩
          | false =>
            rw [hq] at HKS
            clear hq
            go_wp2_with fail
            go_roundg (here.length - (k + 1))
            case measure => omega
            case rel => exact ⟨k + 1, by omega, by omega, by go_num, M5, by rw [HKS.out, if_neg (by exact Bool.false_ne_true), List.append_nil]; exact P5⟩
        · obtain rfl : k = here.length := by omega
          rw [List.take_length] at P3
          go_wp2_with fail
          have hsm3 := P3.out.lt
          go_loopg [15, 56] there.length (fun gg ov iv wq => ∃ (k : Nat) (C : Option Addr) (n d : Nat) (ol : List Int), k ≤ there.length ∧ there.length - k ≤ gg ∧ iv = .int .i64 k ∧ ov = .slice C n d ∧ Hid (MvW w X x S A a here B b there wq) ∧ Hid (MapB Tryz.prog 67 4 wq m (keysN S here)) ∧ Hid (wq.ownsRow (m + 1) 3 1 (.slice C n d) n (ol.map i64)) ∧ Hid (ol = movedL S here (there.take k)) ∧ n = ol.length)
          case atStart => exact ⟨0, none, 0, 0, [], by omega, by omega, rfl, rfl, M3, P3, own2_nil _ _ _ _, rfl, rfl⟩
          case round =>
            obtain ⟨k, C, n, d, ol, hk, hgk, rfl, rfl, M3, P3, O3, OL, hn⟩ := hrel
            by_cases hlt2 : k < there.length
            · obtain ⟨g, o, y, hBe, hgl, hy, hcs⟩ := (M3.out.rb.below M3.out.below).at_ hlt2
              subst hBe
              have h32 := HOB.out y (List.mem_of_getElem? hy)
              have hLy := cellsN_length h32
              have hms := movedL_snoc (S := S) (here := here) hy
              rw [← OL.out] at hms
              have hblk := blk_new wr (.cells (cellsN y).toArray 69)
              have hrg := range_id (range_blk hblk)
              have hcell : (wr.alloc (.cells (cellsN y).toArray 69)).cell? ⟨wr.heap.size, 32, none⟩ = some (i64 y.2) := by rw [blk_cell hblk 32]; exact cellsN_no h32
              have M4 := Lib.hid (M3.out.tr (below_new wr (.cells (cellsN y).toArray 69)))
              have P4 := Lib.hid (P3.out.below (below_new wr (.cells (cellsN y).toArray 69)))
              have O4 := Lib.hid (own_below O3.out (below_new wr (.cells (cellsN y).toArray 69)))
              have hkn := keysN_known (S := S) HOA.out h32
              have hml := P3.out.lt
              have hnl : n ≤ 1000 := by
                have h1 := movedL_length S here (there.take k)
                have h2 := List.length_take_le k there
                rw [← OL.out] at h1
                omega
              have HMS := Lib.hid hms
              have HN := Lib.hid hn
              clear hy hblk M3 P3 O3 OL hms hn
              cases hq : knownN S here y.1 with
              | true =>
                rw [hq] at hkn HMS
                clear hq
                go_wp2_with (first | (at_lookup; refine wpList_lookup_b _ rfl _ _ 117 rfl 67 4 id_keyed Tryz.underlying117 Tryz.underlying4 (zeroB46 _) m _ rfl P4.out _ _ rfl (keyOf_idKey h32) ?_; rw [hkn]) | (at_builtin; refine wpList_append_own _ rfl _ _ 57 rfl (m + 1) 3 i0 (i64 0) 1 8 Tryz.underlying57 hi hz0 hz1 hz2 rfl (by decide) (.slice C n d) n (ol.map i64) rfl (own_below O4.out (below_new _ _)) ⟨wr.heap.size + 1, 0, none⟩ 1 1 [i64 y.2] rfl rfl ?c1 ?c2 ?c3 ?c4 ?c5 ?_) | refine wpList_load_mid rfl 67 _ rfl wr.heap.size 0 rfl (y.1.map enB) _ hrg Tryz.underlying67 rfl (by rw [List.length_map, h32]; exact id_size) ?_ | refine wpList_load_mid rfl 69 _ rfl g (o + k * 33) rfl (cellsN y) _ hcs Tryz.underlying69 rfl (by rw [hLy]; exact num_size) ?_ | refine wpList_store_new rfl 69 _ _ rfl _ (cellsN y).toArray rfl rfl (by rw [List.size_toArray, hLy]; exact num_size) (by simp [hLy]) (all_oneCell_toArray (one_enB y)) ?_)
                case c2 => rfl
                case c3 => unfold maxLen; omega
                case c4 => omega
                case c5 => omega
                intro v' w2 hown2 hg2 _
                obtain ⟨A3, c3, rfl⟩ := own2_slice hown2
                have ho4 := own_below O4.out (below_new _ (.cells #[i64 y.2] 3))
                have hr4 : ∀ r, (Value.slice C n d).ownBlock = some r → m + 1 ≤ r := fun r e => (ho4.lt r e).1
                have M5 := Lib.hid ((M4.out.tr (below_new _ (.cells #[i64 y.2] 3))).grown hg2 (fun r e => by have := hr4 r e; omega))
                have P5 := Lib.hid ((P4.out.below (below_new _ (.cells #[i64 y.2] 3))).kept hg2 (fun e => by have := hr4 m e.symm; omega))
                have HO2 := Lib.hid hown2
                clear ho4 hr4 hown2 hg2
                go_wp2_with fail
                go_roundg (there.length - (k + 1))
                case measure => omega
                case rel =>
                  refine ⟨k + 1, A3, n + 1, c3, ol ++ [y.2], by omega, by omega, by go_num, rfl, M5, P5, ?_, ?_, ?_⟩
                  · rw [List.map_append]; exact HO2
                  · rw [HMS.out, if_pos trivial]; exact Lib.hid rfl
                  · rw [List.length_append, HN.out]; rfl
              | false =>
                rw [hq] at hkn HMS
                clear hq
                go_wp2_with (first | (at_lookup; refine wpList_lookup_b _ rfl _ _ 117 rfl 67 4 id_keyed Tryz.underlying117 Tryz.underlying4 (zeroB46 _) m _ rfl P4.out _ _ rfl (keyOf_idKey h32) ?_; rw [hkn]) | refine wpList_load_mid rfl 67 _ rfl wr.heap.size 0 rfl (y.1.map enB) _ hrg Tryz.underlying67 rfl (by rw [List.length_map, h32]; exact id_size) ?_ | refine wpList_load_mid rfl 69 _ rfl g (o + k * 33) rfl (cellsN y) _ hcs Tryz.underlying69 rfl (by rw [hLy]; exact num_size) ?_ | refine wpList_store_new rfl 69 _ _ rfl _ (cellsN y).toArray rfl rfl (by rw [List.size_toArray, hLy]; exact num_size) (by simp [hLy]) (all_oneCell_toArray (one_enB y)) ?_)
                go_roundg (there.length - (k + 1))
                case measure => omega
                case rel => exact ⟨k + 1, C, n, d, ol, by omega, by omega, by go_num, rfl, M4, P4, O4, by rw [HMS.out, if_neg (by exact Bool.false_ne_true), List.append_nil]; exact Lib.hid rfl, HN.out⟩
            · obtain rfl : k = there.length := by omega
              have hol := OL.out
              rw [List.take_length] at hol
              have hnl : ol.length ≤ 1000 := by
                have h1 := movedL_length S here there
                rw [← hol] at h1
                omega
              obtain ⟨hf1, hf2⟩ := moved_from (S := S) (here := here) HOKB.out
              rw [← hol] at hf1 hf2
              have hof := of_any C d ol wr (RdI.of_own (by rw [hn] at O3; exact O3.out)).1 (by rw [hn] at O3; exact (RdI.of_own O3.out).2.2) (by omega)
              rw [hf1, hf2] at hof
              subst hn
              clear hf1 hf2 hol
              have hR4 := Lib.hid M3.out.rs
              have hlt4 := blk_lt M3.out.rs
              go_wp2_with fail
              refine hof.mono ?_; rintro e w5 ⟨A5, c5, rfl, hr5, hs5, hn5, b5⟩
              clear hof
              have hb5 := blk_below b5 hR4.out
              have hrc := blk_cell hb5 0
              have hrf := blk_free hb5 0
              clear hb5
              have HR5 := Lib.hid hr5
              have HS5 := Lib.hid hs5
              clear hr5 hs5
              go_wp2_with fail
              refine bodyPost_ret (v := .tuple #[.agg #[.slice A5 (moved S here there).length c5], i64 0]) (by simp [results, Tryz.results32, go_sem, hrc]) rfl ?_
              rw [e2.out, e1.out]
              exact ⟨A5, c5, rfl, HR5.out.setCell (fun a ha => by have := (hn5 a ha).1; omega) _, HS5.out, (fun a ha => ⟨by have := (hn5 a ha).1; omega, (hn5 a ha).2.keep (blk_set_ne 0 _ (by have := (hn5 a ha).1; omega))⟩), (M3.out.below.tr b5).setCell (Nat.le_succ _) _⟩
end Go.Proofs.YtcpennlojjlpaaaGreatDoor
