/- Contracts: the total, the count of a name from a day to a day. -/
import Derived.Test.YthgefcoaaommkaaDoorStC
namespace Go.Proofs.YthgefcoaaommkaaDoor
open Go.RowKit Go.Gn Go.Sr Go.Maps

/-- A count of a moderate number of articles. -/
def smallC (c : C) : Prop := 0 ≤ c.1 ∧ c.1 ≤ 1000000000000 ∧ 0 ≤ c.2 ∧ c.2 ≤ 1000000000000
theorem sumC_small : ∀ (l : List C), (∀ c ∈ l, smallC c) → 0 ≤ (sumC l).1 ∧ (sumC l).1 ≤ l.length * 1000000000000 ∧ 0 ≤ (sumC l).2 ∧ (sumC l).2 ≤ l.length * 1000000000000
  | [], _ => by simp [sumC_nil]
  | a :: r, h => by
    have ih := sumC_small r fun c hc => h c (by simp [hc])
    obtain ⟨h1, h2, h3, h4⟩ := h a (by simp)
    rw [sumC_cons]
    simp only [plus, List.length_cons]
    omega
theorem sumC_ok {l : List C} (h : ∀ c ∈ l, smallC c) (hl : l.length ≤ 100000) : okC (sumC l) := by
  have := sumC_small l h
  unfold okC
  omega
theorem smallC.ok {c : C} (h : smallC c) : okC c := by unfold smallC at h; unfold okC; omega
section
variable {w : World} {ops : Array Oper} {rest : List Oper} {o : Oper} {a : Act} {Q : Exit → Act → World → Prop}
theorem wpList_next_day (hg : o.guard = none) (it : Operand) (hop : o.op = Op.next it false) (b r : Nat) (L done : List (Int × C)) (hit : a.eval it = .pointer (some ⟨r, 0, none⟩)) (h : RngA dayK w b r L done)
    (hDone : done.Perm L → wpList Tryd.prog ops Q rest (a.put o.dst (.tuple #[.bool false])) w)
    (hMore : ∀ x c1 c2 w', (x, (c1, c2)) ∈ L → x ∉ done.map (·.1) → (Lit.int .i64 x).wf = true → RngA dayK w' b r L (done ++ [(x, (c1, c2))]) → w.grownBy w' (some r) → w'.heap.size = w.heap.size →
      (Instr.entry (.pointer (some ⟨r, 0, none⟩))).run Tryd.prog w' = .ok (.tuple #[i64 x, .agg #[i64 c1, i64 c2]]) w' → wpList Tryd.prog ops Q rest (a.put o.dst (.tuple #[.bool true, i64 x, .agg #[i64 c1, i64 c2]])) w') :
    wpList Tryd.prog ops Q (o :: rest) a w :=
  wpList_next_a w hg it hop dayK b r L done hit h hDone fun x c w' h1 h2 h3 h4 h5 h6 h7 => hMore x c.1 c.2 w' h1 h2 h3 h4 h5 h6 h7
theorem wpList_next_name (hg : o.guard = none) (it : Operand) (hop : o.op = Op.next it false) (b r : Nat) (L done : List (Ky × C)) (hit : a.eval it = .pointer (some ⟨r, 0, none⟩)) (h : RngA nameK w b r L done)
    (hDone : done.Perm L → wpList Tryd.prog ops Q rest (a.put o.dst (.tuple #[.bool false])) w)
    (hMore : ∀ x1 x2 x3 c1 c2 w', ((x1, x2, x3), (c1, c2)) ∈ L → (x1, x2, x3) ∉ done.map (·.1) → okKy (x1, x2, x3) → RngA nameK w' b r L (done ++ [((x1, x2, x3), (c1, c2))]) → w.grownBy w' (some r) → w'.heap.size = w.heap.size →
      (Instr.entry (.pointer (some ⟨r, 0, none⟩))).run Tryd.prog w' = .ok (.tuple #[.agg #[i64 x1, i64 x2, enS x3], .agg #[i64 c1, i64 c2]]) w' → wpList Tryd.prog ops Q rest (a.put o.dst (.tuple #[.bool true, .agg #[i64 x1, i64 x2, enS x3], .agg #[i64 c1, i64 c2]])) w') :
    wpList Tryd.prog ops Q (o :: rest) a w :=
  wpList_next_a w hg it hop nameK b r L done hit h hDone fun x c w' h1 h2 h3 h4 h5 h6 h7 => hMore x.1 x.2.1 x.2.2 c.1 c.2 w' h1 h2 h3 h4 h5 h6 h7
end
theorem sum_snoc {κ : Type} (L : List (κ × C)) (x : κ) (c : C) : sumC ((L ++ [(x, c)]).map (·.2)) = plus (sumC (L.map (·.2))) c := by
  rw [List.map_append, sumC_append]
  simp [sumC_cons, sumC_nil, plus_zero]
theorem sumP_snoc {κ : Type} (p : κ → Bool) (L : List (κ × C)) (x : κ) (c : C) : sumP p (L ++ [(x, c)]) = plus (sumP p L) (if p x then c else (0, 0)) := by
  rw [sumP_append, sumP_cons, sumP_nil, plus_zero]
theorem sub_small {κ : Type} {L done : List (κ × C)} (h : ∀ q ∈ L, smallC q.2) (hd : ∀ q ∈ done, q ∈ L) : ∀ c ∈ done.map (·.2), smallC c := fun c hc => by
  obtain ⟨q, hq, rfl⟩ := List.mem_map.1 hc
  exact h q (hd q hq)
theorem RngA.sub {κ β : Type} {P : Program} {k : TypeId} {S : KV P k κ β} {w : World} {b r : Nat} {L done : List (κ × β)} (h : RngA S w b r L done) : ∀ q ∈ done, q ∈ L := by
  obtain ⟨D, n, left, cnt, _, _, _, h4, _⟩ := h
  exact h4
theorem cV_zero : cV (0, 0) = .agg #[i64 0, i64 0] := rfl
/-- The blocks of the loops over the counts: the result's, the sum's. -/
structure SumW (w wr : World) (s : C) : Prop where
  res : wr.heap[w.heap.size]? = some (.cells #[i64 0, i64 0] 29 (0, 0))
  sum : wr.heap[w.heap.size + 1]? = some (.cells #[i64 s.1, i64 s.2] 29 (0, 0))
  bel : Below w.heap.size w wr
theorem SumW.tr {w wr wr2 : World} {s : C} (h : SumW w wr s) (hb : Below wr.heap.size wr wr2) : SumW w wr2 s := ⟨blk_below hb h.res, blk_below hb h.sum, h.bel.tr hb⟩
theorem SumW.set {w wr : World} {s : C} (h : SumW w wr s) (a b : Int) : SumW w ((wr.setCell ⟨w.heap.size + 1, 0, none⟩ (i64 a)).setCell ⟨w.heap.size + 1, 1, none⟩ (i64 b)) (a, b) := by
  refine ⟨?_, ?_, (h.bel.setCell (p := ⟨w.heap.size + 1, 0, none⟩) (Nat.le_succ _) _).setCell (p := ⟨w.heap.size + 1, 1, none⟩) (Nat.le_succ _) _⟩
  · rw [blk_set_ne 1 _ (by omega), blk_set_ne 0 _ (by omega)]; exact h.res
  · have := blk_set (blk_set h.sum 0 (i64 a)) 1 (i64 b)
    simpa using this
theorem RngA.set {κ β : Type} {P : Program} {k : TypeId} {S : KV P k κ β} {w : World} {b r g : Nat} {L done : List (κ × β)} (h : RngA S w b r L done) (hb : g ≠ b) (hr : g ≠ r) (u v : Value) : RngA S ((w.setCell ⟨g, 0, none⟩ u).setCell ⟨g, 1, none⟩ v) b r L done :=
  h.keep (by rw [blk_set_ne 1 _ hb.symm, blk_set_ne 0 _ hb.symm]) (by rw [blk_set_ne 1 _ hr.symm, blk_set_ne 0 _ hr.symm])
theorem SumW.grown {w wr wr2 : World} {s : C} (h : SumW w wr s) {r : Nat} (hg : wr.grownBy wr2 (some r)) (hr : w.heap.size + 1 < r) : SumW w wr2 s := by
  have h1 := blk_lt h.res
  have h2 := blk_lt h.sum
  exact ⟨(hg.block _ h1 (fun e => by injection e; omega)).trans h.res, (hg.block _ h2 (fun e => by injection e; omega)).trans h.sum, h.bel.grown hg h.bel.size (fun k e => by cases e; omega)⟩
set_option maxRecDepth 100000 in
set_option maxHeartbeats 4000000 in
theorem total_any (p bd bn : Nat) (ds : List (Int × C)) (ns : List (Ky × C)) (zs : List Int) (w : World) (h : StM w p bd bn ds ns zs) (hs : ∀ q ∈ ds, smallC q.2) (hn : ds.length ≤ 100000) :
    Calls Tryd.prog 10 #[.pointer (some ⟨p, 0, none⟩)] w fun e w' => e = .returned (cV (sumC (ds.map (·.2)))) ∧ Below w.heap.size w w' := by
  have hcell := h.c0
  have hpl := h.lp
  have H0 := Lib.hid h
  have HS := Lib.hid hs
  clear h hs
  go_enter Tryd.func10, Tryd.ntmps10
  have H1 := Lib.hid ((H0.out.md.below (below_new w (.cells #[i64 0, i64 0] 29))).below (below_new _ (.cells #[i64 0, i64 0] 29)))
  have S1 : Hid (SumW w ((w.alloc (.cells #[i64 0, i64 0] 29)).alloc (.cells #[i64 0, i64 0] 29)) (0, 0)) := Lib.hid ⟨blk_below (below_new _ _) (blk_new _ _), by have := blk_new (w.alloc (.cells #[i64 0, i64 0] 29)) (.cells #[i64 0, i64 0] 29); simpa using this, (below_new _ _).tr (below_new _ _)⟩
  go_wp2_with (first | (at_range; refine wpList_range_a _ rfl _ 54 rfl dayK 29 Tryd.underlying54 bd ds rfl H1.out ?_; intro w0 hrg0 hg0 hs0) | go_in)
  go_frame
  have hbt : Below ((w.alloc (.cells #[i64 0, i64 0] 29)).alloc (.cells #[i64 0, i64 0] 29)).heap.size ((w.alloc (.cells #[i64 0, i64 0] 29)).alloc (.cells #[i64 0, i64 0] 29)) w0 := (Below.refl _ _).grown hg0 (Nat.le_refl _) (fun k hk => by cases hk)
  have S2 := Lib.hid (S1.out.tr hbt)
  have e1 : ((w.alloc (.cells #[i64 0, i64 0] 29)).alloc (.cells #[i64 0, i64 0] 29)).heap.size = w.heap.size + 1 + 1 := by simp
  rw [e1] at hrg0 hs0 ⊢
  have R2 := Lib.hid hrg0
  clear hbt hg0 hs0 hrg0 S1 H1 hcell hpl e1
  go_loopg [5] ds.length (fun gg cv wr => ∃ done : List (Int × C), ds.length - done.length ≤ gg ∧ Hid (RngA dayK wr bd (w.heap.size + 1 + 1) ds done) ∧ Hid (SumW w wr (sumC (done.map (·.2)))))
  case atStart => exact ⟨[], by simp, R2, S2⟩
  case round =>
    obtain ⟨done, hgg, R3, S3⟩ := hrel
    obtain ⟨s, hsum⟩ : ∃ q, sumC (done.map (·.2)) = q := ⟨_, rfl⟩
    have hsok : okC s := by rw [← hsum]; exact sumC_ok (sub_small HS.out R3.out.sub) (by have := R3.out.len; simp; omega)
    obtain ⟨s1, s2⟩ := s
    rw [hsum] at S3
    have HSUM := Lib.hid hsum
    clear hsum
    have hk0 := blk_cell S3.out.res 0
    go_wp2_with (first | (at_next; refine wpList_next_day rfl _ rfl bd (w.heap.size + 1 + 1) ds done rfl R3.out ?_ ?_) | go_in)
    · intro hp
      have hc0 := blk_cell S3.out.sum 0
      have hc1 := blk_cell S3.out.sum 1
      have hr0 := blk_cell S3.out.res 0
      have hr1 := blk_cell S3.out.res 1
      have hf0 := blk_free S3.out.res 0
      have hf1 := blk_free S3.out.res 1
      go_wp2_with fail
      have hb := blk_set (blk_set S3.out.res 0 (i64 s1)) 1 (i64 s2)
      have d0 := blk_cell hb 0
      have d1 := blk_cell hb 1
      have B3 := (S3.out.bel.setCell (p := ⟨w.heap.size, 0, none⟩) (Nat.le_refl _) (i64 s1)).setCell (p := ⟨w.heap.size, 1, none⟩) (Nat.le_refl _) (i64 s2)
      refine bodyPost_ret (v := .agg #[i64 s1, i64 s2]) (by simp [results, Tryd.results10, go_sem, d0, d1]) rfl ⟨?_, B3⟩
      rw [← sumC_perm (hp.map (·.2)), HSUM.out]; rfl
    · intro x c1 c2 w1 hmem hnd hwf R4 hg4 hs4 hen
      have S4 := Lib.hid (S3.out.grown hg4 (by omega))
      have HR4 := Lib.hid R4
      have hcs := HS.out _ hmem
      clear hmem hnd hwf R4 hg4 hs4
      have hc0 := blk_cell S4.out.sum 0
      have hc1 := blk_cell S4.out.sum 1
      have hlt := blk_lt S4.out.sum
      go_wp2_with fail
      refine (plus_any (s1, s2) (c1, c2) _ hsok hcs.ok).mono ?_; rintro e w2 ⟨rfl, b⟩
      have b2 := (below_new w1 (.cells #[i64 c1, i64 c2] 29)).tr b
      have S5 := Lib.hid (S4.out.tr b2)
      have HR5 := Lib.hid (HR4.out.below b2)
      have hsum5 := sum_snoc done x (c1, c2)
      rw [HSUM.out] at hsum5
      have hc0 := blk_cell S5.out.sum 0
      have hc1 := blk_cell S5.out.sum 1
      have hf0 := blk_free S5.out.sum 0
      have hf1 := blk_free S5.out.sum 1
      have HSU := Lib.hid hsum5
      clear hsum5 b b2 S4 HR4
      simp only [cV, plus]
      go_wp2_with fail
      go_roundg (ds.length - (done.length + 1))
      case measure =>
        have := HR5.out.len
        simp at this
        omega
      case rel => exact ⟨done ++ [(x, (c1, c2))], by simp, Lib.hid (HR5.out.set (by have := H0.out.ld; omega) (by omega) _ _), by rw [HSU.out]; exact Lib.hid (S5.out.set _ _)⟩
end Go.Proofs.YthgefcoaaommkaaDoor
