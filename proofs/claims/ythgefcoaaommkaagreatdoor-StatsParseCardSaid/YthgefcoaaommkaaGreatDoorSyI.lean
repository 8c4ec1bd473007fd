/- Contract: parseRow. -/
import Derived.Test.YthgefcoaaommkaaGreatDoorSyH
import Derived.Test.YthgefcoaaommkaaGreatDoorZf
namespace Go.Proofs.YthgefcoaaommkaaGreatDoor
open Go.RowKit Go.Gn Go.Sr Go.Maps Go.Nr

def kU : Nat → List UInt8 → Int
  | 0, _ => -1
  | j + 1, s => if s = wordT j then j else kU j s
theorem kU_5 (s : List UInt8) : kU 5 s = kindW s := by
  by_cases h0 : s = wordT 0
  · subst h0; decide
  by_cases h1 : s = wordT 1
  · subst h1; decide
  by_cases h2 : s = wordT 2
  · subst h2; decide
  by_cases h3 : s = wordT 3
  · subst h3; decide
  by_cases h4 : s = wordT 4
  · subst h4; decide
  unfold kindW
  rw [if_neg h0, if_neg h1, if_neg h2, if_neg h3, if_neg h4]
  unfold kU kU kU kU kU kU
  rw [if_neg (by simpa using h4), if_neg (by simpa using h3), if_neg (by simpa using h2), if_neg (by simpa using h1), if_neg (by simpa using h0)]
theorem kU_bnd (j : Nat) (s : List UInt8) (hj : j ≤ 5) : -1 ≤ kU j s ∧ kU j s ≤ 4 := by
  induction j with
  | zero => unfold kU; omega
  | succ j ih => unfold kU; have := ih (by omega); split <;> omega
theorem dec_yes {s : List UInt8} (h : okW s = true) : dec s = some (numT s) := by unfold dec numT; rw [if_pos h, if_pos h]
theorem dec_no {s : List UInt8} (h : okW s = false) : dec s = none := by unfold dec; rw [if_neg (by rw [h]; exact Bool.false_ne_true)]
theorem numT_bnd {s : List UInt8} (h : okW s = true) : 0 ≤ numT s ∧ numT s ≤ 1000000000000000 := by
  have h' := (okW_iff s).1 h
  have hv := val_lt s h'.2.2.2
  have hp : 10 ^ s.length ≤ 10 ^ 15 := Nat.pow_le_pow_right (by omega) h'.2.1
  have e : 10 ^ 15 = 1000000000000000 := by decide
  unfold numT
  rw [if_pos h]
  omega
/-- What a line's reader answers. -/
def RowRes (s : List UInt8) (y : Rw) (er : Int) : Prop := (rowP vN s = .inl y ∧ er = 0) ∨ (∃ q : Nat, rowP vN s = .inr q ∧ er = q ∧ q ≠ 0)
theorem rowRes_fmt {s : List UInt8} (h : wordsP (parts 32 s) = none) (y : Rw) : RowRes s y 3 := by
  refine .inr ⟨3, ?_, rfl, by decide⟩
  unfold rowP; rw [h]
theorem rowRes_chk {s : List UInt8} {x : Rw} (h : wordsP (parts 32 s) = some x) : RowRes s x (rchkE vN x) := by
  have e : rowP vN s = chkR vN x := by unfold rowP; rw [h]
  rcases rchkE_get (v := vN) (x := x) with ⟨h1, h2⟩ | ⟨q, h1, h2, h3⟩
  · exact .inl ⟨e.trans h2, h1⟩
  · exact .inr ⟨q, e.trans h3, h1, h2⟩
theorem wordsP_bad {w : List (List UInt8)} (h : kindW (w.headD []) < 0 ∨ (w.length : Int) ≠ (if kindW (w.headD []) = 4 then 3 else 4)) : wordsP w = none := by unfold wordsP; rw [if_pos h]
theorem wordsP_day {a0 a1 a2 a3 : List UInt8} (h : kindW a0 = 0) (h1 : okW a1 = true) (h2 : okW a2 = true) (h3 : okW a3 = true) : wordsP [a0, a1, a2, a3] = some ⟨0, [], numT a1, (numT a2, numT a3)⟩ := by
  unfold wordsP; simp [h, dec_yes h1, dec_yes h2, dec_yes h3]
theorem wordsP_size {a0 a1 a2 : List UInt8} (h : kindW a0 = 4) (h1 : okW a1 = true) (h2 : okW a2 = true) : wordsP [a0, a1, a2] = some ⟨4, [], numT a1, (numT a2, 0)⟩ := by
  unfold wordsP; simp [h, dec_yes h1, dec_yes h2]
theorem wordsP_name {a0 a1 a2 a3 : List UInt8} {k : Int} (h : kindW a0 = k) (hk : 1 ≤ k) (hk3 : k ≤ 3) (h2 : okW a2 = true) (h3 : okW a3 = true) : wordsP [a0, a1, a2, a3] = some ⟨k, a1, 0, (numT a2, numT a3)⟩ := by
  have e1 : ¬ k < 0 := by omega
  have e2 : ¬ k = 4 := by omega
  have e3 : ¬ k = 0 := by omega
  unfold wordsP; simp [h, e1, e2, e3, dec_yes h2, dec_yes h3]
theorem wordsP_day_no {a0 a1 a2 a3 : List UInt8} (h : kindW a0 = 0) (hx : ∃ z ∈ [a1, a2, a3], okW z = false) : wordsP [a0, a1, a2, a3] = none := by
  unfold wordsP
  simp only [List.headD_cons, h]
  obtain ⟨z, hz, hn⟩ := hx
  simp only [List.mem_cons, List.not_mem_nil, or_false] at hz
  rcases hz with rfl | rfl | rfl
  · simp [dec_no hn]
  · cases dec a1 <;> simp [dec_no hn]
  · cases dec a1 <;> cases dec a2 <;> simp [dec_no hn]
theorem wordsP_size_no {a0 a1 a2 : List UInt8} (h : kindW a0 = 4) (hx : ∃ z ∈ [a1, a2], okW z = false) : wordsP [a0, a1, a2] = none := by
  unfold wordsP
  simp only [List.headD_cons, h]
  obtain ⟨z, hz, hn⟩ := hx
  simp only [List.mem_cons, List.not_mem_nil, or_false] at hz
  rcases hz with rfl | rfl
  · simp [dec_no hn]
  · cases dec a1 <;> simp [dec_no hn]
theorem wordsP_name_no {a0 a1 a2 a3 : List UInt8} {k : Int} (h : kindW a0 = k) (hk : 1 ≤ k) (hk3 : k ≤ 3) (hx : ∃ z ∈ [a2, a3], okW z = false) : wordsP [a0, a1, a2, a3] = none := by
  have e1 : ¬ k < 0 := by omega
  have e2 : ¬ k = 4 := by omega
  have e3 : ¬ k = 0 := by omega
  unfold wordsP
  obtain ⟨z, hz, hn⟩ := hx
  simp only [List.mem_cons, List.not_mem_nil, or_false] at hz
  rcases hz with rfl | rfl
  · simp [h, e1, e2, e3, dec_no hn]
  · cases hd : dec a2 <;> simp [h, e1, e2, e3, hd, dec_no hn]
theorem ownsRow_nil (w : World) (B e size : Nat) : w.ownsRow B e size (.slice none 0 0) 0 [] := ⟨by simp, .inl ⟨rfl, rfl⟩⟩
theorem own_ge {w : World} {B e size n c b o : Nat} {xs : List Value} (h : w.ownsRow B e size (.slice (some ⟨b, o, none⟩) n c) n xs) : B ≤ b := by
  rcases h.2 with ⟨e1, _⟩ | ⟨g, cap, cur, e1, hb, _⟩
  · cases e1
  · injection e1 with a1 a2 a3
    injection a1 with a1
    injection a1 with a1
    omega
/-- values = append(values, n). -/
theorem wpList_appI (wr : World) {ops : Array Oper} {rest : List Oper} {o : Oper} {a : Act} {Q : Exit → Act → World → Prop} (hgd : o.guard = none) (s x : Operand)
    (ho : o.op = .call { callee := .builtin .append, args := #[s, x], argTypes := #[38, 38] })
    (base : Nat) (v : Value) (out : List Int) (y : Int) (hown : wr.ownsRow base 3 1 v out.length (out.map i64)) (hs : a.eval s = v) (hx : a.eval x = .slice (some ⟨wr.heap.size, 0, none⟩) 1 1)
    (hlen : out.length ≤ 1000000000) (hbase : base ≤ wr.heap.size)
    (h : ∀ v' w', w'.ownsRow base 3 1 v' (out ++ [y]).length ((out ++ [y]).map i64) → Below base wr w' → wpList Tryz.prog ops Q rest (a.put o.dst v') w') : wpList Tryz.prog ops Q (o :: rest) a (wr.alloc (.cells #[i64 y] 3)) := by
  obtain ⟨i0, hi, hz0, hz1, hz2⟩ := int_info
  refine wpList_append_own (P := Tryz.prog) _ hgd s x 38 ho base 3 i0 (i64 0) 1 8 Tryz.underlying38 hi hz0 hz1 hz2 rfl (by decide) v out.length (out.map i64) hs (hown.alloc _) ⟨wr.heap.size, 0, none⟩ 1 1 [i64 y] hx rfl ?_ ?_ ?_ ?_ ?_ ?_
  · intro j u hu
    cases j with
    | zero =>
      simp only [List.getElem?_cons_zero, Option.some.injEq] at hu
      subst hu
      rw [addr_add, blk_cell (blk_new wr _)]; rfl
    | succ j => simp at hu
  · exact one_map_i64 [y]
  · simp only [maxLen]; omega
  · omega
  · simp; omega
  · intro v' w' h1 h2 _
    refine h v' w' (by simpa using h1) ?_
    refine (((Below.refl base wr).alloc hbase _).grown h2 (by simp; omega) ?_)
    intro k hk
    exact (hown.lt k hk).1
theorem cell_set_ne {w : World} {b c i j : Nat} (h : b ≠ c) (v : Value) : (w.setCell ⟨c, i, none⟩ v).cell? ⟨b, j, none⟩ = w.cell? ⟨b, j, none⟩ := by
  unfold World.cell?
  simp only
  rw [blk_set_ne i v h]
/-- The three blocks of a line's reader. -/
structure PR (w wr : World) (ws : List (List UInt8)) (x : Rw) : Prop where
  res : wr.heap[w.heap.size]? = some (.cells #[i64 0, enS [], i64 0, i64 0, i64 0] 121 (0, 0))
  row : wr.heap[w.heap.size + 1]? = some (.cells (ws.map enS).toArray 9 (0, 0))
  x : wr.heap[w.heap.size + 2]? = some (.cells #[i64 x.sort, enS x.name, i64 x.first, i64 x.c.1, i64 x.c.2] 121 (0, 0))
  bel : Below w.heap.size w wr
section
variable {w wr wr' : World} {ws : List (List UInt8)} {x : Rw}
theorem PR.size (h : PR w wr ws x) : w.heap.size + 3 ≤ wr.heap.size := blk_lt h.x
theorem PR.below (h : PR w wr ws x) (hb : Below wr.heap.size wr wr') : PR w wr' ws x := ⟨blk_below hb h.res, blk_below hb h.row, blk_below hb h.x, h.bel.tr hb⟩
theorem PR.low (h : PR w wr ws x) {B : Nat} (hB : w.heap.size + 3 ≤ B) (hb : Below B wr wr') : PR w wr' ws x :=
  ⟨(hb.block _ (by omega)).trans h.res, (hb.block _ (by omega)).trans h.row, (hb.block _ (by omega)).trans h.x, h.bel.trans (hb.mono (by omega))⟩
theorem PR.words (h : PR w wr ws x) : RdC wr (some ⟨w.heap.size + 1, 0, none⟩) (ws.map enS) := fun _ => ⟨_, 0, rfl, fun j u hj => by
  rw [Nat.zero_add, blk_cell h.row]; simpa using hj⟩
theorem PR.drop (h : PR w wr ws x) (k : Nat) : RdC wr (some ⟨w.heap.size + 1, k, none⟩) ((ws.drop k).map enS) := fun _ => ⟨_, k, rfl, fun j u hj => by
  rw [blk_cell h.row]
  rw [List.getElem?_map, List.getElem?_drop] at hj
  simpa using hj⟩
theorem PR.putX (h : PR w wr ws x) (i : Nat) (v : Value) (y : Rw) (hy : #[i64 y.sort, enS y.name, i64 y.first, i64 y.c.1, i64 y.c.2] = (#[i64 x.sort, enS x.name, i64 x.first, i64 x.c.1, i64 x.c.2] : Array Value).setIfInBounds i v) : PR w (wr.setCell ⟨w.heap.size + 2, i, none⟩ v) ws y := by
  refine ⟨by rw [blk_set_ne i v (by omega)]; exact h.res, by rw [blk_set_ne i v (by omega)]; exact h.row, ?_, h.bel.setCell (p := ⟨w.heap.size + 2, i, none⟩) (by simp) v⟩
  rw [blk_set h.x, hy]
end
set_option maxRecDepth 100000 in
set_option maxHeartbeats 16000000 in
theorem parseRow_any (s : List UInt8) (w : World) (hE : Env w) (hT : Tab w) (hl : s.length ≤ 100000000) :
    Calls Tryz.prog 70 #[enS s] w fun e w' => ∃ (y : Rw) (er : Int), e = .returned (.tuple #[rwV y, i64 er]) ∧ RowRes s y er ∧ Below w.heap.size w w' := by
  have b0 := below_new w (.cells #[i64 0, enS [], i64 0, i64 0, i64 0] 121)
  have HS := Lib.hid (split_any 32 s (w.alloc (.cells #[i64 0, enS [], i64 0, i64 0, i64 0] 121)) (hE.below b0) (by omega))
  have HF := Lib.hid (fun (h : wordsP (parts 32 s) = none) (y : Rw) => rowRes_fmt h y)
  have HK := Lib.hid (fun (x : Rw) (h : wordsP (parts 32 s) = some x) => rowRes_chk h)
  have HN1 := Lib.hid (parts_ne_nil 32 s)
  have HLEN := Lib.hid (parts_length_le 32 s)
  have HEL : Hid (∀ a ∈ parts 32 s, a.length ≤ s.length) := Lib.hid (parts_le 32 s)
  have HE := Lib.hid hE
  have HT := Lib.hid hT
  clear hE hT b0
  obtain ⟨ws, hws⟩ : ∃ z, parts 32 s = z := ⟨_, rfl⟩
  rw [hws] at HS HF HK HN1 HLEN HEL
  clear hws
  go_enter Tryz.func70, Tryz.ntmps70
  go_wp2_with fail
  refine HS.out.mono ?_; rintro e w1 ⟨rfl, hw1⟩
  have hsz : (w.alloc (.cells #[i64 0, enS [], i64 0, i64 0, i64 0] 121)).heap.size = w.heap.size + 1 := by simp
  rw [hsz]
  have P0 : Hid (PR w (w1.alloc (.cells #[i64 (-1), enS [], i64 0, i64 0, i64 0] 121)) ws ⟨-1, [], 0, (0, 0)⟩) := Lib.hid (by
    (show PR w _ ws _)
    have b1 := below_new w (.cells #[i64 0, enS [], i64 0, i64 0, i64 0] 121)
    have b2 : Below (w.alloc (.cells #[i64 0, enS [], i64 0, i64 0, i64 0] 121)).heap.size (w.alloc (.cells #[i64 0, enS [], i64 0, i64 0, i64 0] 121)) w1 := by rw [hw1]; exact below_new _ _
    have b3 := below_new w1 (.cells #[i64 (-1), enS [], i64 0, i64 0, i64 0] 121)
    have s1 : w1.heap.size = w.heap.size + 2 := by rw [hw1]; simp
    have e1 := blk_below b3 (blk_below b2 (blk_new w (.cells #[i64 0, enS [], i64 0, i64 0, i64 0] 121)))
    have e2 : w1.heap[w.heap.size + 1]? = some (.cells (ws.map enS).toArray 9 (0, 0)) := by rw [hw1, ← hsz]; exact blk_new _ _
    have e3 := blk_new w1 (.cells #[i64 (-1), enS [], i64 0, i64 0, i64 0] 121)
    rw [s1] at e3
    exact ⟨e1, blk_below b3 e2, e3, (b1.tr b2).tr b3⟩)
  have s1 : w1.heap.size = w.heap.size + 2 := by rw [hw1]; simp
  clear hw1 hsz HS
  go_upto_block 0 with fail
  try rw [s1]
  generalize w1.alloc (.cells #[i64 (-1), enS [], i64 0, i64 0, i64 0] 121) = w2 at *
  clear s1
  obtain ⟨a0, wr0, rfl⟩ : ∃ a r, ws = a :: r := List.exists_cons_of_ne_nil HN1.out
  clear HN1
  go_wp2_with fail
  go_loopg [17] 5 (fun gg iv wr => ∃ j : Nat, j ≤ 5 ∧ 5 - j ≤ gg ∧ iv = i64 j ∧ Hid (PR w wr (a0 :: wr0) ⟨kU j a0, [], 0, (0, 0)⟩))
  case atStart => exact ⟨0, by omega, by omega, rfl, P0⟩
  case round =>
    obtain ⟨j, hj, hgj, rfl, K⟩ := hrel
    by_cases hlt : j < 5
    · have HW := Lib.hid (word_any j)
      have hk1 : kU (j + 1) a0 = if a0 = wordT j then (j : Int) else kU j a0 := rfl
      obtain ⟨wj, hwj⟩ : ∃ z, wordT (j : Int) = z := ⟨_, rfl⟩
      rw [hwj] at HW hk1
      have HK1 := Lib.hid hk1
      clear hk1 hwj
      go_wp2_with fail
      refine Flow.wp_region_segs Flow.Later Flow.Later.refl Flow.Later.trans [([0, 1, 2, 3], 4)] [5] (by kernel_rfl) (by kernel_rfl) ?_
      have K1 := Lib.hid (K.out.below (Below.refl _ _).drew)
      clear K
      generalize World.drew _ = wd at *
      have q0 : ∀ t : Flow.Cls (Flow.Later wd), t.val.cell? ⟨w.heap.size + 1, 0, none⟩ = some (enS a0) := fun t => Flow.cls_cell (by rw [blk_cell K1.out.row]; simp) t
      haveI nonE := Flow.cls_nonempty wd
      rw [Flow.wpSegs_cons]
      simp only [Flow.pick, List.getElem?_toArray, List.getElem?_cons_succ, List.getElem?_cons_zero]
      repeat go_big_quiet_step (fail)
      refine wpQuiet_nil ?_
      clear nonE q0
      rw [Flow.callAt_eq]
      simp only [List.getElem?_toArray, List.getElem?_cons_succ, List.getElem?_cons_zero]
      rw [if_pos (by rfl)]
      refine Flow.wp_behind (fun K0 hK => ?_)
      go_wp2_with fail
      refine (HW.out wd (by omega) (by omega)).mono ?_; rintro e w3 ⟨rfl, b3⟩
      refine hK.out _ _ ⟨b3, ?_⟩
      clear hK K0
      have K := Lib.hid (K1.out.below b3)
      clear b3 K1
      haveI nonE := Flow.cls_nonempty w3
      rw [Flow.wpSegs_nil]
      simp only [Flow.pick, List.getElem?_toArray, List.getElem?_cons_succ, List.getElem?_cons_zero]
      repeat go_big_quiet_step (fail)
      refine wpQuiet_nil ?_
      clear nonE
      by_cases he : a0 = wj
      · have hb : (a0 == wj) = true := by simpa using he
        have fx := blk_free K.out.x 0
        have cx := blk_cell K.out.x 0
        have K2 := Lib.hid (K.out.putX 0 (i64 j) ⟨kU (j + 1) a0, [], 0, (0, 0)⟩ (by rw [HK1.out, if_pos he]; rfl))
        rw [hb]
        clear he HK1 hb
        go_wp2_with fail
        go_roundg (5 - (j + 1))
        case measure => omega
        case rel => exact ⟨j + 1, by omega, by omega, by go_num, K2⟩
      · have hb : (a0 == wj) = false := by simpa using he
        have K2 : Hid (PR w w3 (a0 :: wr0) ⟨kU (j + 1) a0, [], 0, (0, 0)⟩) := Lib.hid (by (show PR w w3 (a0 :: wr0) ⟨kU (j + 1) a0, [], 0, (0, 0)⟩); rw [HK1.out, if_neg he]; exact K.out)
        rw [hb]
        clear he HK1 hb
        go_wp2_with fail
        go_roundg (5 - (j + 1))
        case measure => omega
        case rel => exact ⟨j + 1, by omega, by omega, by go_num, K2⟩
    · obtain rfl : j = 5 := by omega
      rw [kU_5] at K
      have hkb := kU_bnd 5 a0 (by omega)
      rw [kU_5] at hkb
      obtain ⟨k, hk⟩ : ∃ z, kindW a0 = z := ⟨_, rfl⟩
      rw [hk] at K hkb
      have HKD := Lib.hid hk
      clear hk
      obtain ⟨hk0, hk4⟩ := hkb
      have cx := blk_cell K.out.x 0
      have px := blk_lt K.out.x
      by_cases kneg : k < 0
      case pos =>
        have V : Hid (RowRes s ⟨0, [], 0, (0, 0)⟩ 3) := Lib.hid (HF.out (wordsP_bad (.inl (by (show kindW a0 < 0); rw [HKD.out]; exact kneg))) _)
        have b4 : (k == 4) = false := by simp; omega
        clear HF HK HKD
        have r0 := blk_cell K.out.res 0
        have r1 := blk_cell K.out.res 1
        have r2 := blk_cell K.out.res 2
        have r3 := blk_cell K.out.res 3
        have r4 := blk_cell K.out.res 4
        have f0 := blk_free K.out.res 0
        have f1 := blk_free K.out.res 1
        have f2 := blk_free K.out.res 2
        have f3 := blk_free K.out.res 3
        have f4 := blk_free K.out.res 4
        have hls := blk_lt K.out.res
        go_wp2_with fail
        refine bodyPost_ret (v := .tuple #[.agg #[i64 0, enS [], i64 0, i64 0, i64 0], i64 3]) (by simp [results, Tryz.results70, go_sem, r0, r1, r2, r3, r4]) rfl ⟨⟨0, [], 0, (0, 0)⟩, 3, rfl, V.out, ?_⟩
        have hB := K.out.bel
        try repeat refine Below.setCell ?_ (by simp) _
        exact hB
      by_cases kz : k = 4
      · subst kz
        by_cases hlen : wr0.length = 2
        case neg =>
          have V : Hid (RowRes s ⟨0, [], 0, (0, 0)⟩ 3) := Lib.hid (HF.out (wordsP_bad (.inr (by (show ((a0 :: wr0).length : Int) ≠ if kindW a0 = 4 then 3 else 4); rw [HKD.out, if_pos rfl, List.length_cons]; omega))) _)
          have bl : (((wr0.length : Int) + 1) != 3) = true := by simp; omega
          clear HF HK HKD
          have r0 := blk_cell K.out.res 0
          have r1 := blk_cell K.out.res 1
          have r2 := blk_cell K.out.res 2
          have r3 := blk_cell K.out.res 3
          have r4 := blk_cell K.out.res 4
          have f0 := blk_free K.out.res 0
          have f1 := blk_free K.out.res 1
          have f2 := blk_free K.out.res 2
          have f3 := blk_free K.out.res 3
          have f4 := blk_free K.out.res 4
          have hls := blk_lt K.out.res
          go_wp2_with fail
          refine bodyPost_ret (v := .tuple #[.agg #[i64 0, enS [], i64 0, i64 0, i64 0], i64 3]) (by simp [results, Tryz.results70, go_sem, r0, r1, r2, r3, r4]) rfl ⟨⟨0, [], 0, (0, 0)⟩, 3, rfl, V.out, ?_⟩
          have hB := K.out.bel
          try repeat refine Below.setCell ?_ (by simp) _
          exact hB
        obtain ⟨a1, a2, rfl⟩ : ∃ a b, wr0 = [a, b] := by
          match wr0, hlen with
          | [a, b], _ => exact ⟨a, b, rfl⟩
        clear hlen
        go_wp2_with fail
        have O0 : Hid (World.ownsRow _ (w.heap.size + 3) 3 1 (.slice none 0 0) 0 (([] : List Int).map i64)) := Lib.hid (ownsRow_nil wr (w.heap.size + 3) 3 1)
        go_loopg [9, 60] 2 (fun gg vv iv wr => ∃ (j : Nat) (A : Option Addr) (cp : Nat), j ≤ 2 ∧ 2 - j ≤ gg ∧ iv = i64 j ∧ vv = .slice A j cp ∧ Hid (wr.ownsRow (w.heap.size + 3) 3 1 (.slice A j cp) j ((([a1, a2].take j).map numT).map i64)) ∧ Hid (∀ z ∈ [a1, a2].take j, okW z = true) ∧ Hid (PR w wr [a0, a1, a2] ⟨4, [], 0, (0, 0)⟩))
        case atStart => exact ⟨0, none, 0, by omega, by omega, rfl, rfl, O0, Lib.hid (by simp), K⟩
        case round =>
          obtain ⟨j, A, cp, hj, hgj, rfl, rfl, O, HA, K⟩ := hrel
          by_cases hlt : j < 2
          · obtain ⟨z, hz⟩ : ∃ z, [a1, a2][j]? = some z := ⟨_, List.getElem?_eq_getElem (by simpa using hlt)⟩
            obtain ⟨b3, o3, hA3, hcx⟩ := RdC.cell (K.out.drop 1) (j := j) (v := enS z) (by (show ([a1, a2].map enS)[j]? = _); rw [List.getElem?_map, hz]; rfl)
            cases hA3
            have hzm : z ∈ [a1, a2] := List.mem_of_getElem? hz
            have hzl := HEL.out z (List.mem_cons_of_mem _ hzm)
            have HNo := Lib.hid (fun (h : okW z = false) => wordsP_size_no HKD.out ⟨z, hzm, h⟩)
            have HTk := Lib.hid (take_snoc hz)
            have hnb := numT_bnd (s := z)
            have HC := Lib.hid (fun u => parseNumber_any z u (by omega))
            clear hz hzm
            go_wp2_with fail
            refine (HC.out _).mono ?_; rintro e w9 ⟨rfl, hw9⟩
            have hw9 := hw9.symm
            subst hw9
            clear HC hcx
            by_cases hok : okW z = true
            case neg =>
              have hok : okW z = false := by simpa using hok
              have V : Hid (RowRes s ⟨0, [], 0, (0, 0)⟩ 3) := Lib.hid (HF.out (HNo.out hok) _)
              rw [hok]
              clear HF HK HKD HNo HTk hok O HA hnb
              have r0 := blk_cell K.out.res 0
              have r1 := blk_cell K.out.res 1
              have r2 := blk_cell K.out.res 2
              have r3 := blk_cell K.out.res 3
              have r4 := blk_cell K.out.res 4
              have f0 := blk_free K.out.res 0
              have f1 := blk_free K.out.res 1
              have f2 := blk_free K.out.res 2
              have f3 := blk_free K.out.res 3
              have f4 := blk_free K.out.res 4
              have hls := blk_lt K.out.res
              go_wp2_with fail
              refine bodyPost_ret (v := .tuple #[.agg #[i64 0, enS [], i64 0, i64 0, i64 0], i64 3]) (by simp [results, Tryz.results70, go_sem, r0, r1, r2, r3, r4]) rfl ⟨⟨0, [], 0, (0, 0)⟩, 3, rfl, V.out, ?_⟩
              have hB := K.out.bel
              try repeat refine Below.setCell ?_ (by simp) _
              exact hB
            have HA2 : Hid (∀ y ∈ [a1, a2].take (j + 1), okW y = true) := Lib.hid fun y hy => by
              rw [HTk.out, List.mem_append, List.mem_singleton] at hy
              exact hy.elim (HA.out y) (fun e => by rw [e]; exact hok)
            rw [hok]
            obtain ⟨n, hn⟩ : ∃ q, numT z = q := ⟨_, rfl⟩
            have HT2 : Hid (([a1, a2].take (j + 1)).map numT = ([a1, a2].take j).map numT ++ [n]) := Lib.hid (by rw [HTk.out, List.map_append, ← hn]; rfl)
            rw [hn]
            have hlen : (([a1, a2].take j).map numT).length = j := by rw [List.length_map, List.length_take]; exact Nat.min_eq_left (by simpa using Nat.le_of_lt hlt)
            have HO := Lib.hid (show World.ownsRow _ (w.heap.size + 3) 3 1 (.slice A j cp) (([a1, a2].take j).map numT).length ((([a1, a2].take j).map numT).map i64) by rw [hlen]; exact O.out)
            have HLN := Lib.hid hlen
            clear HTk HNo hok hn hnb O HA
            generalize ([a1, a2].take j).map numT = out at *
            go_wp2_with (at_builtin; (refine wpList_appI _ rfl _ _ rfl (w.heap.size + 3) _ out n HO.out rfl rfl ?m1 ?m2 ?_); (case m1 => omega); (case m2 => exact K.out.size); intro v1 w5 hown1 hb1)
            obtain ⟨A3, c3, rfl⟩ := own2_slice hown1
            have K2 := Lib.hid (K.out.low (Nat.le_refl _) hb1)
            have O2 : Hid (w5.ownsRow (w.heap.size + 3) 3 1 (.slice A3 (j + 1) c3) (j + 1) ((([a1, a2].take (j + 1)).map numT).map i64)) := Lib.hid (by
              have h := hown1
              rw [List.length_append, List.length_singleton, HLN.out] at h
              rw [HT2.out]; exact h)
            have hln2 : (out ++ [n]).length = j + 1 := by rw [List.length_append, List.length_singleton, HLN.out]
            try rw [hln2]
            clear hown1 hb1 K HO HT2 HLN hlen hlt
            go_wp2_with fail
            go_roundg (2 - (j + 1))
            case measure => omega
            case rel => exact ⟨j + 1, A3, c3, by omega, by omega, by go_num, rfl, O2, HA2, K2⟩
          · obtain rfl : j = 2 := by omega
            have V := Lib.hid (HK.out _ (wordsP_size HKD.out (HA.out a1 (by simp)) (HA.out a2 (by simp))))
            have ba1 := numT_bnd (HA.out a1 (by simp))
            have ba2 := numT_bnd (HA.out a2 (by simp))
            have RV := Lib.hid (RdC.of_own O.out)
            have HL1 := Lib.hid (HEL.out a1 (by simp))
            clear HF HK HKD HA
            obtain ⟨b0, o0, hA0, cv0⟩ := RdC.cell RV.out (j := 0) (v := i64 (numT a1)) rfl
            obtain ⟨b1, o1, hA1, cv1⟩ := RdC.cell RV.out (j := 1) (v := i64 (numT a2)) rfl
            cases hA0
            rw [Nat.add_zero] at cv0
            cases hA1
            obtain ⟨n0, hn0⟩ : ∃ q, numT a1 = q := ⟨_, rfl⟩
            rw [hn0] at V cv0 ba1
            clear hn0
            obtain ⟨n1, hn1⟩ : ∃ q, numT a2 = q := ⟨_, rfl⟩
            rw [hn1] at V cv1 ba2
            clear hn1
            have hcp := own2_le O.out
            have hvb : w.heap.size + 3 ≤ b0 := own_ge O.out
            have HNB : b0 ≠ w.heap.size + 2 := by omega
            clear O RV
            have cx := blk_cell K.out.x 0
            have cy0 := blk_cell K.out.x 2
            have fy0 := blk_free K.out.x 2
            have py0 := blk_lt K.out.x
            have K3 := Lib.hid (K.out.putX 2 (i64 n0) ⟨4, [], n0, (0, 0)⟩ rfl)
            have cy1 := blk_cell K3.out.x 3
            have fy1 := blk_free K3.out.x 3
            have py1 := blk_lt K3.out.x
            have cw1 : World.cell? (World.setCell (wr) ⟨w.heap.size + 2, 2, none⟩ (i64 n0)) ⟨b0, o0 + 1, none⟩ = some (i64 n1) := by rw [cell_set_ne HNB]; exact cv1
            have K4 := Lib.hid (K3.out.putX 3 (i64 n1) ⟨4, [], n0, (n1, 0)⟩ rfl)
            go_wp2_with fail
            have K6 := Lib.hid (K4.out.below (Below.refl _ _).drew)
            refine Flow.wp_region_segs (But w.heap.size) (But.refl _) (fun _ _ _ h k => But.trans h k) [([0, 1], 2), ([], 3)] [4] (by kernel_rfl) (by kernel_rfl) ?_
            generalize World.drew _ = wd at *
            have q0 : ∀ t : Flow.Cls (But w.heap.size wd), t.val.cell? ⟨w.heap.size + 2, 0, none⟩ = some (i64 4) := fun t => blk_cell (blk_but t.ok (by omega) K6.out.x) 0
            have q1 : ∀ t : Flow.Cls (But w.heap.size wd), t.val.cell? ⟨w.heap.size + 2, 1, none⟩ = some (enS []) := fun t => blk_cell (blk_but t.ok (by omega) K6.out.x) 1
            have q2 : ∀ t : Flow.Cls (But w.heap.size wd), t.val.cell? ⟨w.heap.size + 2, 2, none⟩ = some (i64 n0) := fun t => blk_cell (blk_but t.ok (by omega) K6.out.x) 2
            have q3 : ∀ t : Flow.Cls (But w.heap.size wd), t.val.cell? ⟨w.heap.size + 2, 3, none⟩ = some (i64 n1) := fun t => blk_cell (blk_but t.ok (by omega) K6.out.x) 3
            have q4 : ∀ t : Flow.Cls (But w.heap.size wd), t.val.cell? ⟨w.heap.size + 2, 4, none⟩ = some (i64 0) := fun t => blk_cell (blk_but t.ok (by omega) K6.out.x) 4
            haveI nonE : Nonempty (Flow.Cls (But w.heap.size wd)) := ⟨⟨wd, But.refl _ _⟩⟩
            rw [Flow.wpSegs_cons]
            simp only [Flow.pick, List.getElem?_toArray, List.getElem?_cons_succ, List.getElem?_cons_zero]
            repeat go_big_quiet_step (fail)
            refine wpQuiet_nil ?_
            clear nonE q0 q1 q2 q3 q4
            rw [Flow.callAt_eq]
            simp only [List.getElem?_toArray, List.getElem?_cons_succ, List.getElem?_cons_zero]
            rw [if_pos (by rfl)]
            refine Flow.wp_behind (fun K0 hK => ?_)
            go_wp2_with fail
            refine (rowCheck_any ⟨4, [], n0, (n1, 0)⟩ wd (HE.out.below K6.out.bel) (HT.out.below K6.out.bel) (by simp only; omega) (by simp only; omega) (by simp only [List.length_nil]; have := HL1.out; omega) (by simp only; omega) (by simp only; omega) (by simp only; omega) (by simp only; omega)).mono ?_; rintro e w9 ⟨rfl, b9⟩
            refine hK.out _ _ ⟨But.of_below b9, ?_⟩
            clear hK K0
            obtain ⟨er, her⟩ : ∃ q, rchkE vN ⟨4, [], n0, (n1, 0)⟩ = q := ⟨_, rfl⟩
            rw [her] at V
            simp only [her]
            clear her
            have K7 := Lib.hid (K6.out.below b9)
            clear b9
            rw [Flow.wpSegs_cons]
            simp only [Flow.pick]
            refine wpQuiet_nil ?_
            rw [Flow.callAt_eq]
            simp only [List.getElem?_toArray, List.getElem?_cons_succ, List.getElem?_cons_zero]
            rw [if_pos (by rfl)]
            refine Flow.wp_behind (fun K0 hK => ?_)
            have f0 := blk_free K7.out.res 0
            have f1 := blk_free K7.out.res 1
            have f2 := blk_free K7.out.res 2
            have f3 := blk_free K7.out.res 3
            have f4 := blk_free K7.out.res 4
            have r0 := blk_cell K7.out.res 0
            have r1 := blk_cell K7.out.res 1
            have r2 := blk_cell K7.out.res 2
            have r3 := blk_cell K7.out.res 3
            have r4 := blk_cell K7.out.res 4
            have hls := blk_lt K7.out.res
            go_wp2_with fail

            refine hK.out _ _ ⟨?cb, ?_⟩
            case cb => exact (((((But.refl _ _).setCell _).setCell _).setCell _).setCell _).setCell _
            clear hK K0
            rw [Flow.wpSegs_nil]
            simp only [Flow.pick, List.getElem?_toArray, List.getElem?_cons_succ, List.getElem?_cons_zero]
            haveI nonE : Nonempty (Flow.Cls (But w.heap.size w9)) := ⟨⟨w9, But.refl _ _⟩⟩
            repeat go_big_quiet_step (fail)
            refine wpQuiet_nil ?_
            go_wp2_with fail

            refine bodyPost_ret (v := .tuple #[rwV ⟨4, [], n0, (n1, 0)⟩, i64 er]) (by simp [results, Tryz.results70, go_sem, r0, r1, r2, r3, r4, rwV]) rfl ⟨_, er, rfl, V.out, ?_⟩
            have hB := K7.out.bel
            try repeat refine Below.setCell ?_ (by simp) _
            exact hB
      have b4 : (k == 4) = false := by simpa using kz
      by_cases hlen : wr0.length = 3
      case neg =>
        have V : Hid (RowRes s ⟨0, [], 0, (0, 0)⟩ 3) := Lib.hid (HF.out (wordsP_bad (.inr (by (show ((a0 :: wr0).length : Int) ≠ if kindW a0 = 4 then 3 else 4); rw [HKD.out, if_neg kz, List.length_cons]; omega))) _)
        have bl : (((wr0.length : Int) + 1) != 4) = true := by simp; omega
        clear HF HK HKD
        have r0 := blk_cell K.out.res 0
        have r1 := blk_cell K.out.res 1
        have r2 := blk_cell K.out.res 2
        have r3 := blk_cell K.out.res 3
        have r4 := blk_cell K.out.res 4
        have f0 := blk_free K.out.res 0
        have f1 := blk_free K.out.res 1
        have f2 := blk_free K.out.res 2
        have f3 := blk_free K.out.res 3
        have f4 := blk_free K.out.res 4
        have hls := blk_lt K.out.res
        go_wp2_with fail
        refine bodyPost_ret (v := .tuple #[.agg #[i64 0, enS [], i64 0, i64 0, i64 0], i64 3]) (by simp [results, Tryz.results70, go_sem, r0, r1, r2, r3, r4]) rfl ⟨⟨0, [], 0, (0, 0)⟩, 3, rfl, V.out, ?_⟩
        have hB := K.out.bel
        try repeat refine Below.setCell ?_ (by simp) _
        exact hB
      obtain ⟨a1, a2, a3, rfl⟩ : ∃ a b c, wr0 = [a, b, c] := by
        match wr0, hlen with
        | [a, b, c], _ => exact ⟨a, b, c, rfl⟩
      clear hlen
      by_cases k0 : k = 0
      · subst k0
        clear kz b4
        go_wp2_with fail
        have O0 : Hid (World.ownsRow _ (w.heap.size + 3) 3 1 (.slice none 0 0) 0 (([] : List Int).map i64)) := Lib.hid (ownsRow_nil wr (w.heap.size + 3) 3 1)
        go_loopg [9, 60] 3 (fun gg vv iv wr => ∃ (j : Nat) (A : Option Addr) (cp : Nat), j ≤ 3 ∧ 3 - j ≤ gg ∧ iv = i64 j ∧ vv = .slice A j cp ∧ Hid (wr.ownsRow (w.heap.size + 3) 3 1 (.slice A j cp) j ((([a1, a2, a3].take j).map numT).map i64)) ∧ Hid (∀ z ∈ [a1, a2, a3].take j, okW z = true) ∧ Hid (PR w wr [a0, a1, a2, a3] ⟨0, [], 0, (0, 0)⟩))
        case atStart => exact ⟨0, none, 0, by omega, by omega, rfl, rfl, O0, Lib.hid (by simp), K⟩
        case round =>
          obtain ⟨j, A, cp, hj, hgj, rfl, rfl, O, HA, K⟩ := hrel
          by_cases hlt : j < 3
          · obtain ⟨z, hz⟩ : ∃ z, [a1, a2, a3][j]? = some z := ⟨_, List.getElem?_eq_getElem (by simpa using hlt)⟩
            obtain ⟨b3, o3, hA3, hcx⟩ := RdC.cell (K.out.drop 1) (j := j) (v := enS z) (by (show ([a1, a2, a3].map enS)[j]? = _); rw [List.getElem?_map, hz]; rfl)
            cases hA3
            have hzm : z ∈ [a1, a2, a3] := List.mem_of_getElem? hz
            have hzl := HEL.out z (List.mem_cons_of_mem _ hzm)
            have HNo := Lib.hid (fun (h : okW z = false) => wordsP_day_no HKD.out ⟨z, hzm, h⟩)
            have HTk := Lib.hid (take_snoc hz)
            have hnb := numT_bnd (s := z)
            have HC := Lib.hid (fun u => parseNumber_any z u (by omega))
            clear hz hzm
            go_wp2_with fail
            refine (HC.out _).mono ?_; rintro e w9 ⟨rfl, hw9⟩
            have hw9 := hw9.symm
            subst hw9
            clear HC hcx
            by_cases hok : okW z = true
            case neg =>
              have hok : okW z = false := by simpa using hok
              have V : Hid (RowRes s ⟨0, [], 0, (0, 0)⟩ 3) := Lib.hid (HF.out (HNo.out hok) _)
              rw [hok]
              clear HF HK HKD HNo HTk hok O HA hnb
              have r0 := blk_cell K.out.res 0
              have r1 := blk_cell K.out.res 1
              have r2 := blk_cell K.out.res 2
              have r3 := blk_cell K.out.res 3
              have r4 := blk_cell K.out.res 4
              have f0 := blk_free K.out.res 0
              have f1 := blk_free K.out.res 1
              have f2 := blk_free K.out.res 2
              have f3 := blk_free K.out.res 3
              have f4 := blk_free K.out.res 4
              have hls := blk_lt K.out.res
              go_wp2_with fail
              refine bodyPost_ret (v := .tuple #[.agg #[i64 0, enS [], i64 0, i64 0, i64 0], i64 3]) (by simp [results, Tryz.results70, go_sem, r0, r1, r2, r3, r4]) rfl ⟨⟨0, [], 0, (0, 0)⟩, 3, rfl, V.out, ?_⟩
              have hB := K.out.bel
              try repeat refine Below.setCell ?_ (by simp) _
              exact hB
            have HA2 : Hid (∀ y ∈ [a1, a2, a3].take (j + 1), okW y = true) := Lib.hid fun y hy => by
              rw [HTk.out, List.mem_append, List.mem_singleton] at hy
              exact hy.elim (HA.out y) (fun e => by rw [e]; exact hok)
            rw [hok]
            obtain ⟨n, hn⟩ : ∃ q, numT z = q := ⟨_, rfl⟩
            have HT2 : Hid (([a1, a2, a3].take (j + 1)).map numT = ([a1, a2, a3].take j).map numT ++ [n]) := Lib.hid (by rw [HTk.out, List.map_append, ← hn]; rfl)
            rw [hn]
            have hlen : (([a1, a2, a3].take j).map numT).length = j := by rw [List.length_map, List.length_take]; exact Nat.min_eq_left (by simpa using Nat.le_of_lt hlt)
            have HO := Lib.hid (show World.ownsRow _ (w.heap.size + 3) 3 1 (.slice A j cp) (([a1, a2, a3].take j).map numT).length ((([a1, a2, a3].take j).map numT).map i64) by rw [hlen]; exact O.out)
            have HLN := Lib.hid hlen
            clear HTk HNo hok hn hnb O HA
            generalize ([a1, a2, a3].take j).map numT = out at *
            go_wp2_with (at_builtin; (refine wpList_appI _ rfl _ _ rfl (w.heap.size + 3) _ out n HO.out rfl rfl ?m1 ?m2 ?_); (case m1 => omega); (case m2 => exact K.out.size); intro v1 w5 hown1 hb1)
            obtain ⟨A3, c3, rfl⟩ := own2_slice hown1
            have K2 := Lib.hid (K.out.low (Nat.le_refl _) hb1)
            have O2 : Hid (w5.ownsRow (w.heap.size + 3) 3 1 (.slice A3 (j + 1) c3) (j + 1) ((([a1, a2, a3].take (j + 1)).map numT).map i64)) := Lib.hid (by
              have h := hown1
              rw [List.length_append, List.length_singleton, HLN.out] at h
              rw [HT2.out]; exact h)
            have hln2 : (out ++ [n]).length = j + 1 := by rw [List.length_append, List.length_singleton, HLN.out]
            try rw [hln2]
            clear hown1 hb1 K HO HT2 HLN hlen hlt
            go_wp2_with fail
            go_roundg (3 - (j + 1))
            case measure => omega
            case rel => exact ⟨j + 1, A3, c3, by omega, by omega, by go_num, rfl, O2, HA2, K2⟩
          · obtain rfl : j = 3 := by omega
            have V := Lib.hid (HK.out _ (wordsP_day HKD.out (HA.out a1 (by simp)) (HA.out a2 (by simp)) (HA.out a3 (by simp))))
            have ba1 := numT_bnd (HA.out a1 (by simp))
            have ba2 := numT_bnd (HA.out a2 (by simp))
            have ba3 := numT_bnd (HA.out a3 (by simp))
            have RV := Lib.hid (RdC.of_own O.out)
            have HL1 := Lib.hid (HEL.out a1 (by simp))
            clear HF HK HKD HA
            obtain ⟨b0, o0, hA0, cv0⟩ := RdC.cell RV.out (j := 0) (v := i64 (numT a1)) rfl
            obtain ⟨b1, o1, hA1, cv1⟩ := RdC.cell RV.out (j := 1) (v := i64 (numT a2)) rfl
            obtain ⟨b2, o2, hA2, cv2⟩ := RdC.cell RV.out (j := 2) (v := i64 (numT a3)) rfl
            cases hA0
            rw [Nat.add_zero] at cv0
            cases hA1
            cases hA2
            obtain ⟨n0, hn0⟩ : ∃ q, numT a1 = q := ⟨_, rfl⟩
            rw [hn0] at V cv0 ba1
            clear hn0
            obtain ⟨n1, hn1⟩ : ∃ q, numT a2 = q := ⟨_, rfl⟩
            rw [hn1] at V cv1 ba2
            clear hn1
            obtain ⟨n2, hn2⟩ : ∃ q, numT a3 = q := ⟨_, rfl⟩
            rw [hn2] at V cv2 ba3
            clear hn2
            have hcp := own2_le O.out
            have hvb : w.heap.size + 3 ≤ b0 := own_ge O.out
            have HNB : b0 ≠ w.heap.size + 2 := by omega
            clear O RV
            have cx := blk_cell K.out.x 0
            have cy0 := blk_cell K.out.x 2
            have fy0 := blk_free K.out.x 2
            have py0 := blk_lt K.out.x
            have K3 := Lib.hid (K.out.putX 2 (i64 n0) ⟨0, [], n0, (0, 0)⟩ rfl)
            have cy1 := blk_cell K3.out.x 3
            have fy1 := blk_free K3.out.x 3
            have py1 := blk_lt K3.out.x
            have cw1 : World.cell? (World.setCell (wr) ⟨w.heap.size + 2, 2, none⟩ (i64 n0)) ⟨b0, o0 + 1, none⟩ = some (i64 n1) := by rw [cell_set_ne HNB]; exact cv1
            have K4 := Lib.hid (K3.out.putX 3 (i64 n1) ⟨0, [], n0, (n1, 0)⟩ rfl)
            have cy2 := blk_cell K4.out.x 4
            have fy2 := blk_free K4.out.x 4
            have py2 := blk_lt K4.out.x
            have cw2 : World.cell? (World.setCell (World.setCell (wr) ⟨w.heap.size + 2, 2, none⟩ (i64 n0)) ⟨w.heap.size + 2, 3, none⟩ (i64 n1)) ⟨b0, o0 + 1 + 1, none⟩ = some (i64 n2) := by rw [cell_set_ne HNB]; rw [cell_set_ne HNB]; exact cv2
            have cw2' : World.cell? (World.setCell (World.setCell (wr) ⟨w.heap.size + 2, 2, none⟩ (i64 n0)) ⟨w.heap.size + 2, 3, none⟩ (i64 n1)) ⟨b0, o0 + 2, none⟩ = some (i64 n2) := cw2
            have K5 := Lib.hid (K4.out.putX 4 (i64 n2) ⟨0, [], n0, (n1, n2)⟩ rfl)
            go_wp2_with fail
            have K6 := Lib.hid (K5.out.below (Below.refl _ _).drew)
            refine Flow.wp_region_segs (But w.heap.size) (But.refl _) (fun _ _ _ h k => But.trans h k) [([0, 1], 2), ([], 3)] [4] (by kernel_rfl) (by kernel_rfl) ?_
            generalize World.drew _ = wd at *
            have q0 : ∀ t : Flow.Cls (But w.heap.size wd), t.val.cell? ⟨w.heap.size + 2, 0, none⟩ = some (i64 0) := fun t => blk_cell (blk_but t.ok (by omega) K6.out.x) 0
            have q1 : ∀ t : Flow.Cls (But w.heap.size wd), t.val.cell? ⟨w.heap.size + 2, 1, none⟩ = some (enS []) := fun t => blk_cell (blk_but t.ok (by omega) K6.out.x) 1
            have q2 : ∀ t : Flow.Cls (But w.heap.size wd), t.val.cell? ⟨w.heap.size + 2, 2, none⟩ = some (i64 n0) := fun t => blk_cell (blk_but t.ok (by omega) K6.out.x) 2
            have q3 : ∀ t : Flow.Cls (But w.heap.size wd), t.val.cell? ⟨w.heap.size + 2, 3, none⟩ = some (i64 n1) := fun t => blk_cell (blk_but t.ok (by omega) K6.out.x) 3
            have q4 : ∀ t : Flow.Cls (But w.heap.size wd), t.val.cell? ⟨w.heap.size + 2, 4, none⟩ = some (i64 n2) := fun t => blk_cell (blk_but t.ok (by omega) K6.out.x) 4
            haveI nonE : Nonempty (Flow.Cls (But w.heap.size wd)) := ⟨⟨wd, But.refl _ _⟩⟩
            rw [Flow.wpSegs_cons]
            simp only [Flow.pick, List.getElem?_toArray, List.getElem?_cons_succ, List.getElem?_cons_zero]
            repeat go_big_quiet_step (fail)
            refine wpQuiet_nil ?_
            clear nonE q0 q1 q2 q3 q4
            rw [Flow.callAt_eq]
            simp only [List.getElem?_toArray, List.getElem?_cons_succ, List.getElem?_cons_zero]
            rw [if_pos (by rfl)]
            refine Flow.wp_behind (fun K0 hK => ?_)
            go_wp2_with fail
            refine (rowCheck_any ⟨0, [], n0, (n1, n2)⟩ wd (HE.out.below K6.out.bel) (HT.out.below K6.out.bel) (by simp only; omega) (by simp only; omega) (by simp only [List.length_nil]; have := HL1.out; omega) (by simp only; omega) (by simp only; omega) (by simp only; omega) (by simp only; omega)).mono ?_; rintro e w9 ⟨rfl, b9⟩
            refine hK.out _ _ ⟨But.of_below b9, ?_⟩
            clear hK K0
            obtain ⟨er, her⟩ : ∃ q, rchkE vN ⟨0, [], n0, (n1, n2)⟩ = q := ⟨_, rfl⟩
            rw [her] at V
            simp only [her]
            clear her
            have K7 := Lib.hid (K6.out.below b9)
            clear b9
            rw [Flow.wpSegs_cons]
            simp only [Flow.pick]
            refine wpQuiet_nil ?_
            rw [Flow.callAt_eq]
            simp only [List.getElem?_toArray, List.getElem?_cons_succ, List.getElem?_cons_zero]
            rw [if_pos (by rfl)]
            refine Flow.wp_behind (fun K0 hK => ?_)
            have f0 := blk_free K7.out.res 0
            have f1 := blk_free K7.out.res 1
            have f2 := blk_free K7.out.res 2
            have f3 := blk_free K7.out.res 3
            have f4 := blk_free K7.out.res 4
            have r0 := blk_cell K7.out.res 0
            have r1 := blk_cell K7.out.res 1
            have r2 := blk_cell K7.out.res 2
            have r3 := blk_cell K7.out.res 3
            have r4 := blk_cell K7.out.res 4
            have hls := blk_lt K7.out.res
            go_wp2_with fail

            refine hK.out _ _ ⟨?cb, ?_⟩
            case cb => exact (((((But.refl _ _).setCell _).setCell _).setCell _).setCell _).setCell _
            clear hK K0
            rw [Flow.wpSegs_nil]
            simp only [Flow.pick, List.getElem?_toArray, List.getElem?_cons_succ, List.getElem?_cons_zero]
            haveI nonE : Nonempty (Flow.Cls (But w.heap.size w9)) := ⟨⟨w9, But.refl _ _⟩⟩
            repeat go_big_quiet_step (fail)
            refine wpQuiet_nil ?_
            go_wp2_with fail

            refine bodyPost_ret (v := .tuple #[rwV ⟨0, [], n0, (n1, n2)⟩, i64 er]) (by simp [results, Tryz.results70, go_sem, r0, r1, r2, r3, r4, rwV]) rfl ⟨_, er, rfl, V.out, ?_⟩
            have hB := K7.out.bel
            try repeat refine Below.setCell ?_ (by simp) _
            exact hB
      have hk1 : 1 ≤ k := by omega
      have hk3 : k ≤ 3 := by omega
      have b0 : (k == 0) = false := by simpa using k0
      have n0 : (k != 0) = true := by simpa using k0
      have n4 : (k != 4) = true := by simpa using kz
      have fx := blk_free K.out.x 1
      have cx1 := blk_cell K.out.x 1
      have cx0 := blk_cell K.out.x 0
      have cw1 : wr.cell? ⟨w.heap.size + 1, 1, none⟩ = some (enS a1) := by rw [blk_cell K.out.row]; rfl
      have K2 := Lib.hid (K.out.putX 1 (enS a1) ⟨k, a1, 0, (0, 0)⟩ rfl)
      go_wp2_with fail
      clear cw1 fx cx1 cx0 K
      have K := K2
      clear K2
      generalize World.setCell wr _ _ = wn at *
      have O0 : Hid (World.ownsRow _ (w.heap.size + 3) 3 1 (.slice none 0 0) 0 (([] : List Int).map i64)) := Lib.hid (ownsRow_nil wn (w.heap.size + 3) 3 1)
      go_loopg [9, 60] 2 (fun gg vv iv wr => ∃ (j : Nat) (A : Option Addr) (cp : Nat), j ≤ 2 ∧ 2 - j ≤ gg ∧ iv = i64 j ∧ vv = .slice A j cp ∧ Hid (wr.ownsRow (w.heap.size + 3) 3 1 (.slice A j cp) j ((([a2, a3].take j).map numT).map i64)) ∧ Hid (∀ z ∈ [a2, a3].take j, okW z = true) ∧ Hid (PR w wr [a0, a1, a2, a3] ⟨k, a1, 0, (0, 0)⟩))
      case atStart => exact ⟨0, none, 0, by omega, by omega, rfl, rfl, O0, Lib.hid (by simp), K⟩
      case round =>
        obtain ⟨j, A, cp, hj, hgj, rfl, rfl, O, HA, K⟩ := hrel
        by_cases hlt : j < 2
        · obtain ⟨z, hz⟩ : ∃ z, [a2, a3][j]? = some z := ⟨_, List.getElem?_eq_getElem (by simpa using hlt)⟩
          obtain ⟨b3, o3, hA3, hcx⟩ := RdC.cell (K.out.drop 2) (j := j) (v := enS z) (by (show ([a2, a3].map enS)[j]? = _); rw [List.getElem?_map, hz]; rfl)
          cases hA3
          have hzm : z ∈ [a2, a3] := List.mem_of_getElem? hz
          have hzl := HEL.out z (List.mem_cons_of_mem _ (List.mem_cons_of_mem _ hzm))
          have HNo := Lib.hid (fun (h : okW z = false) => wordsP_name_no (a1 := a1) HKD.out hk1 hk3 ⟨z, hzm, h⟩)
          have HTk := Lib.hid (take_snoc hz)
          have hnb := numT_bnd (s := z)
          have HC := Lib.hid (fun u => parseNumber_any z u (by omega))
          clear hz hzm
          go_wp2_with fail
          refine (HC.out _).mono ?_; rintro e w9 ⟨rfl, hw9⟩
          have hw9 := hw9.symm
          subst hw9
          clear HC hcx
          by_cases hok : okW z = true
          case neg =>
            have hok : okW z = false := by simpa using hok
            have V : Hid (RowRes s ⟨0, [], 0, (0, 0)⟩ 3) := Lib.hid (HF.out (HNo.out hok) _)
            rw [hok]
            clear HF HK HKD HNo HTk hok O HA hnb
            have r0 := blk_cell K.out.res 0
            have r1 := blk_cell K.out.res 1
            have r2 := blk_cell K.out.res 2
            have r3 := blk_cell K.out.res 3
            have r4 := blk_cell K.out.res 4
            have f0 := blk_free K.out.res 0
            have f1 := blk_free K.out.res 1
            have f2 := blk_free K.out.res 2
            have f3 := blk_free K.out.res 3
            have f4 := blk_free K.out.res 4
            have hls := blk_lt K.out.res
            go_wp2_with fail
            refine bodyPost_ret (v := .tuple #[.agg #[i64 0, enS [], i64 0, i64 0, i64 0], i64 3]) (by simp [results, Tryz.results70, go_sem, r0, r1, r2, r3, r4]) rfl ⟨⟨0, [], 0, (0, 0)⟩, 3, rfl, V.out, ?_⟩
            have hB := K.out.bel
            try repeat refine Below.setCell ?_ (by simp) _
            exact hB
          have HA2 : Hid (∀ y ∈ [a2, a3].take (j + 1), okW y = true) := Lib.hid fun y hy => by
            rw [HTk.out, List.mem_append, List.mem_singleton] at hy
            exact hy.elim (HA.out y) (fun e => by rw [e]; exact hok)
          rw [hok]
          obtain ⟨n, hn⟩ : ∃ q, numT z = q := ⟨_, rfl⟩
          have HT2 : Hid (([a2, a3].take (j + 1)).map numT = ([a2, a3].take j).map numT ++ [n]) := Lib.hid (by rw [HTk.out, List.map_append, ← hn]; rfl)
          rw [hn]
          have hlen : (([a2, a3].take j).map numT).length = j := by rw [List.length_map, List.length_take]; exact Nat.min_eq_left (by simpa using Nat.le_of_lt hlt)
          have HO := Lib.hid (show World.ownsRow _ (w.heap.size + 3) 3 1 (.slice A j cp) (([a2, a3].take j).map numT).length ((([a2, a3].take j).map numT).map i64) by rw [hlen]; exact O.out)
          have HLN := Lib.hid hlen
          clear HTk HNo hok hn hnb O HA
          generalize ([a2, a3].take j).map numT = out at *
          go_wp2_with (at_builtin; (refine wpList_appI _ rfl _ _ rfl (w.heap.size + 3) _ out n HO.out rfl rfl ?m1 ?m2 ?_); (case m1 => omega); (case m2 => exact K.out.size); intro v1 w5 hown1 hb1)
          obtain ⟨A3, c3, rfl⟩ := own2_slice hown1
          have K2 := Lib.hid (K.out.low (Nat.le_refl _) hb1)
          have O2 : Hid (w5.ownsRow (w.heap.size + 3) 3 1 (.slice A3 (j + 1) c3) (j + 1) ((([a2, a3].take (j + 1)).map numT).map i64)) := Lib.hid (by
            have h := hown1
            rw [List.length_append, List.length_singleton, HLN.out] at h
            rw [HT2.out]; exact h)
          have hln2 : (out ++ [n]).length = j + 1 := by rw [List.length_append, List.length_singleton, HLN.out]
          try rw [hln2]
          clear hown1 hb1 K HO HT2 HLN hlen hlt
          go_wp2_with fail
          go_roundg (2 - (j + 1))
          case measure => omega
          case rel => exact ⟨j + 1, A3, c3, by omega, by omega, by go_num, rfl, O2, HA2, K2⟩
        · obtain rfl : j = 2 := by omega
          have V := Lib.hid (HK.out _ (wordsP_name (a1 := a1) HKD.out hk1 hk3 (HA.out a2 (by simp)) (HA.out a3 (by simp))))
          have ba2 := numT_bnd (HA.out a2 (by simp))
          have ba3 := numT_bnd (HA.out a3 (by simp))
          have RV := Lib.hid (RdC.of_own O.out)
          have HL1 := Lib.hid (HEL.out a1 (by simp))
          clear HF HK HKD HA
          obtain ⟨b0, o0, hA0, cv0⟩ := RdC.cell RV.out (j := 0) (v := i64 (numT a2)) rfl
          obtain ⟨b1, o1, hA1, cv1⟩ := RdC.cell RV.out (j := 1) (v := i64 (numT a3)) rfl
          cases hA0
          rw [Nat.add_zero] at cv0
          cases hA1
          obtain ⟨n0, hn0⟩ : ∃ q, numT a2 = q := ⟨_, rfl⟩
          rw [hn0] at V cv0 ba2
          clear hn0
          obtain ⟨n1, hn1⟩ : ∃ q, numT a3 = q := ⟨_, rfl⟩
          rw [hn1] at V cv1 ba3
          clear hn1
          have hcp := own2_le O.out
          have hvb : w.heap.size + 3 ≤ b0 := own_ge O.out
          have HNB : b0 ≠ w.heap.size + 2 := by omega
          clear O RV
          have cx := blk_cell K.out.x 0
          have cy0 := blk_cell K.out.x 3
          have fy0 := blk_free K.out.x 3
          have py0 := blk_lt K.out.x
          have K3 := Lib.hid (K.out.putX 3 (i64 n0) ⟨k, a1, 0, (n0, 0)⟩ rfl)
          have cy1 := blk_cell K3.out.x 4
          have fy1 := blk_free K3.out.x 4
          have py1 := blk_lt K3.out.x
          have cw1 : World.cell? (World.setCell (wr) ⟨w.heap.size + 2, 3, none⟩ (i64 n0)) ⟨b0, o0 + 1, none⟩ = some (i64 n1) := by rw [cell_set_ne HNB]; exact cv1
          have K4 := Lib.hid (K3.out.putX 4 (i64 n1) ⟨k, a1, 0, (n0, n1)⟩ rfl)
          go_wp2_with fail
          have K6 := Lib.hid (K4.out.below (Below.refl _ _).drew)
          refine Flow.wp_region_segs (But w.heap.size) (But.refl _) (fun _ _ _ h k => But.trans h k) [([0, 1], 2), ([], 3)] [4] (by kernel_rfl) (by kernel_rfl) ?_
          generalize World.drew _ = wd at *
          have q0 : ∀ t : Flow.Cls (But w.heap.size wd), t.val.cell? ⟨w.heap.size + 2, 0, none⟩ = some (i64 k) := fun t => blk_cell (blk_but t.ok (by omega) K6.out.x) 0
          have q1 : ∀ t : Flow.Cls (But w.heap.size wd), t.val.cell? ⟨w.heap.size + 2, 1, none⟩ = some (enS a1) := fun t => blk_cell (blk_but t.ok (by omega) K6.out.x) 1
          have q2 : ∀ t : Flow.Cls (But w.heap.size wd), t.val.cell? ⟨w.heap.size + 2, 2, none⟩ = some (i64 0) := fun t => blk_cell (blk_but t.ok (by omega) K6.out.x) 2
          have q3 : ∀ t : Flow.Cls (But w.heap.size wd), t.val.cell? ⟨w.heap.size + 2, 3, none⟩ = some (i64 n0) := fun t => blk_cell (blk_but t.ok (by omega) K6.out.x) 3
          have q4 : ∀ t : Flow.Cls (But w.heap.size wd), t.val.cell? ⟨w.heap.size + 2, 4, none⟩ = some (i64 n1) := fun t => blk_cell (blk_but t.ok (by omega) K6.out.x) 4
          haveI nonE : Nonempty (Flow.Cls (But w.heap.size wd)) := ⟨⟨wd, But.refl _ _⟩⟩
          rw [Flow.wpSegs_cons]
          simp only [Flow.pick, List.getElem?_toArray, List.getElem?_cons_succ, List.getElem?_cons_zero]
          repeat go_big_quiet_step (fail)
          refine wpQuiet_nil ?_
          clear nonE q0 q1 q2 q3 q4
          rw [Flow.callAt_eq]
          simp only [List.getElem?_toArray, List.getElem?_cons_succ, List.getElem?_cons_zero]
          rw [if_pos (by rfl)]
          refine Flow.wp_behind (fun K0 hK => ?_)
          go_wp2_with fail
          refine (rowCheck_any ⟨k, a1, 0, (n0, n1)⟩ wd (HE.out.below K6.out.bel) (HT.out.below K6.out.bel) (by simp only; omega) (by simp only; omega) (by simp only []; have := HL1.out; omega) (by simp only; omega) (by simp only; omega) (by simp only; omega) (by simp only; omega)).mono ?_; rintro e w9 ⟨rfl, b9⟩
          refine hK.out _ _ ⟨But.of_below b9, ?_⟩
          clear hK K0
          obtain ⟨er, her⟩ : ∃ q, rchkE vN ⟨k, a1, 0, (n0, n1)⟩ = q := ⟨_, rfl⟩
          rw [her] at V
          simp only [her]
          clear her
          have K7 := Lib.hid (K6.out.below b9)
          clear b9
          rw [Flow.wpSegs_cons]
          simp only [Flow.pick]
          refine wpQuiet_nil ?_
          rw [Flow.callAt_eq]
          simp only [List.getElem?_toArray, List.getElem?_cons_succ, List.getElem?_cons_zero]
          rw [if_pos (by rfl)]
          refine Flow.wp_behind (fun K0 hK => ?_)
          have f0 := blk_free K7.out.res 0
          have f1 := blk_free K7.out.res 1
          have f2 := blk_free K7.out.res 2
          have f3 := blk_free K7.out.res 3
          have f4 := blk_free K7.out.res 4
          have r0 := blk_cell K7.out.res 0
          have r1 := blk_cell K7.out.res 1
          have r2 := blk_cell K7.out.res 2
          have r3 := blk_cell K7.out.res 3
          have r4 := blk_cell K7.out.res 4
          have hls := blk_lt K7.out.res
          go_wp2_with fail

          refine hK.out _ _ ⟨?cb, ?_⟩
          case cb => exact (((((But.refl _ _).setCell _).setCell _).setCell _).setCell _).setCell _
          clear hK K0
          rw [Flow.wpSegs_nil]
          simp only [Flow.pick, List.getElem?_toArray, List.getElem?_cons_succ, List.getElem?_cons_zero]
          haveI nonE : Nonempty (Flow.Cls (But w.heap.size w9)) := ⟨⟨w9, But.refl _ _⟩⟩
          repeat go_big_quiet_step (fail)
          refine wpQuiet_nil ?_
          go_wp2_with fail

          refine bodyPost_ret (v := .tuple #[rwV ⟨k, a1, 0, (n0, n1)⟩, i64 er]) (by simp [results, Tryz.results70, go_sem, r0, r1, r2, r3, r4, rwV]) rfl ⟨_, er, rfl, V.out, ?_⟩
          have hB := K7.out.bel
          try repeat refine Below.setCell ?_ (by simp) _
          exact hB
end Go.Proofs.YthgefcoaaommkaaGreatDoor
