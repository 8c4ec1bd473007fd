/- Contracts of FormatDay (of package date and of its reference), of FormatZone in one piece, and of Format. -/
import Derived.Test.YtpdncgfkoibacaaDoorFormat
import Derived.Test.YtpdncgfkoibacaaDoorRefFrom
namespace Go.Proofs.YtpdncgfkoibacaaDoor
open Go.RowKit
open Cal


set_option maxHeartbeats 2000000 in
theorem formatDay_yes (d : Int) (w : World) (h0 : 0 ≤ d) (h1 : d ≤ 73048) (ht : Tab w) :
    Calls Tryd.prog 30 #[.int .i64 d] w fun e w' => e = .returned (.tuple #[.string ⟨(dayText d).toArray⟩, .int .i64 0]) ∧ Below w.heap.size w w' := by
  have aY := civY_spec d h0 h1
  have aM := civM_spec d h0 h1
  have aD := civD_spec d h0 h1
  have aB := md_bd (civY d) (civM d)
  have y1 := aY.1; have y2 := aY.2.1; have q1 := aM.1; have q2 := aM.2.1; have d1 := aD.1; have d2 : civD d ≤ 31 := by omega
  clear aY aM aD aB
  have HF : Hid (dayText d = digs 4 (civY d) ++ [45] ++ digs 2 (civM d) ++ [45] ++ digs 2 (civD d)) := rfl
  have l1 := digs_length 4 (civY d)
  have l2 := digs_length 2 (civM d)
  have l3 := digs_length 2 (civD d)
  have HT := Lib.hid ht; clear ht
  go_enter Tryd.func30, Tryd.ntmps30
  go_wp2_with fail
  refine (calendar_any _ _ (by omega) (by omega)).mono ?_; rintro e w1 ⟨rfl, b1⟩
  go_wp2_with fail
  generalize civY d = Y at *
  generalize civM d = M at *
  generalize civD d = D at *
  obtain ⟨W, hW⟩ : ∃ W, W = w1.alloc (.cells #[.int .i64 Y, .int .i64 M, .int .i64 D, .int .i64 0, .int .i64 0] 24) := ⟨_, rfl⟩
  have hB : Below w.heap.size w W := by rw [hW]; exact b1.alloc b1.size _
  have blk : W.heap[w1.heap.size]? = some (.cells #[.int .i64 Y, .int .i64 M, .int .i64 D, .int .i64 0, .int .i64 0] 24 (0, 0)) := by rw [hW]; exact blk_new _ _
  rw [← hW]
  have c0 : ∀ t : Cls (fun x => Below W.heap.size W x), t.val.cell? ⟨w1.heap.size, 0, none⟩ = some (.int .i64 Y) := fun t => blk_cell (blk_below t.ok blk) 0
  have c1 : ∀ t : Cls (fun x => Below W.heap.size W x), t.val.cell? ⟨w1.heap.size, 1, none⟩ = some (.int .i64 M) := fun t => blk_cell (blk_below t.ok blk) 1
  have c2 : ∀ t : Cls (fun x => Below W.heap.size W x), t.val.cell? ⟨w1.heap.size, 2, none⟩ = some (.int .i64 D) := fun t => blk_cell (blk_below t.ok blk) 2
  have P4 : Hid (∀ t : Cls (fun x => Below W.heap.size W x), Calls Tryd.prog 43 #[.int .i64 Y, .int .i64 4] t.val fun e w' => e = .returned (.string ⟨(digs 4 Y).toArray⟩) ∧ Below t.val.heap.size t.val w') := fun t => padded4_any Y t.val (by omega) (by omega) ((HT.out.below hB).below t.ok)
  have P2 : Hid (∀ (n : Int) (t : Cls (fun x => Below W.heap.size W x)), 0 ≤ n → n < 100 → Calls Tryd.prog 43 #[.int .i64 n, .int .i64 2] t.val fun e w' => e = .returned (.string ⟨(digs 2 n).toArray⟩) ∧ Below t.val.heap.size t.val w') := fun n t h0 h1 => (padded2_any n t.val h0 h1).mono (fun _ _ ⟨a, b⟩ => ⟨a, b ▸ Below.refl _ _⟩)
  clear blk hW
  haveI : Nonempty (Cls (fun x => Below W.heap.size W x)) := ⟨⟨W, Below.refl _ _⟩⟩
  refine wp_region_class (fun x => Below W.heap.size W x) (by kernel_rfl) (by kernel_rfl) (Below.drew (Below.refl _ _)) ?_
  repeat go_big_quiet_step (first
    | (go_at_call 43; (with_reducible refine Calls.class_below (P2.out M _ ?_ ?_)) <;> omega)
    | (go_at_call 43; (with_reducible refine Calls.class_below (P2.out D _ ?_ ?_)) <;> omega)
    | (go_at_call 43; with_reducible exact Calls.class_below (P4.out _)))
  refine wpQuiet_nil ?_
  rintro w2 ⟨⟨_, b2⟩, rfl⟩
  go_wp2_with fail
  go_ret2
  refine ⟨?_, hB.trans (b2.mono hB.size)⟩
  rw [HF.out]
  refine congrArg (fun s => Ending.returned (.tuple #[.string s, .int .i64 0])) ?_
  simp only [bcat]

set_option maxHeartbeats 400000 in
theorem formatDay_no (d : Int) (w : World) (h : d < 0 ∨ 73048 < d) :
    Calls Tryd.prog 30 #[.int .i64 d] w fun e w' => e = .returned (.tuple #[.string ⟨#[]⟩, .int .i64 2]) ∧ w = w' := by
  have cs : d < 0 ∨ (0 ≤ d ∧ 73048 < d) := by omega
  clear h
  rcases cs with a | ⟨a, b⟩
  all_goals
    go_enter Tryd.func30, Tryd.ntmps30
    go_wp2
    go_ret2
    exact ⟨rfl, rfl⟩


set_option maxHeartbeats 2000000 in
theorem refFormatDay_yes (d : Int) (w : World) (h0 : 0 ≤ d) (h1 : d ≤ 73048) :
    Calls Tryd.prog 31 #[.int .i64 d] w fun e w' => e = .returned (.tuple #[.string ⟨(dayText d).toArray⟩, .int .i64 0]) ∧ Below w.heap.size w w' := by
  have aY := civY_spec d h0 h1
  have aM := civM_spec d h0 h1
  have aD := civD_spec d h0 h1
  have aB := md_bd (civY d) (civM d)
  have y1 := aY.1; have y2 := aY.2.1; have q1 := aM.1; have q2 := aM.2.1; have d1 := aD.1; have d2 : civD d ≤ 31 := by omega
  clear aY aM aD aB
  have HF : Hid (dayText d = digs 4 (civY d) ++ [45] ++ digs 2 (civM d) ++ [45] ++ digs 2 (civD d)) := rfl
  have l1 := digs_length 4 (civY d)
  have l2 := digs_length 2 (civM d)
  have l3 := digs_length 2 (civD d)
  go_enter Tryd.func31, Tryd.ntmps31
  go_wp2_with fail
  refine (refToCivil_yes _ _ (by omega) (by omega)).mono ?_; rintro e w1 ⟨rfl, b1⟩
  have e1 : d * 1440 / 1440 = d := by omega
  have e2 : d * 1440 % 1440 / 60 = 0 := by omega
  have e3 : d * 1440 % 60 = 0 := by omega
  rw [e1, e2, e3]
  clear e1 e2 e3
  go_wp2_with fail
  generalize civY d = Y at *
  generalize civM d = M at *
  generalize civD d = D at *
  obtain ⟨W, hW⟩ : ∃ W, W = w1.alloc (.cells #[.int .i64 Y, .int .i64 M, .int .i64 D, .int .i64 0, .int .i64 0] 28) := ⟨_, rfl⟩
  have hB : Below w.heap.size w W := by rw [hW]; exact b1.alloc b1.size _
  have blk : W.heap[w1.heap.size]? = some (.cells #[.int .i64 Y, .int .i64 M, .int .i64 D, .int .i64 0, .int .i64 0] 28 (0, 0)) := by rw [hW]; exact blk_new _ _
  rw [← hW]
  have c0 : ∀ t : Cls (fun x => Below W.heap.size W x), t.val.cell? ⟨w1.heap.size, 0, none⟩ = some (.int .i64 Y) := fun t => blk_cell (blk_below t.ok blk) 0
  have c1 : ∀ t : Cls (fun x => Below W.heap.size W x), t.val.cell? ⟨w1.heap.size, 1, none⟩ = some (.int .i64 M) := fun t => blk_cell (blk_below t.ok blk) 1
  have c2 : ∀ t : Cls (fun x => Below W.heap.size W x), t.val.cell? ⟨w1.heap.size, 2, none⟩ = some (.int .i64 D) := fun t => blk_cell (blk_below t.ok blk) 2
  have P4 : Hid (∀ t : Cls (fun x => Below W.heap.size W x), Calls Tryd.prog 27 #[.int .i64 Y, .int .i64 4] t.val fun e w' => e = .returned (.string ⟨(digs 4 Y).toArray⟩) ∧ Below t.val.heap.size t.val w') := fun t => refDigits_any Y 4 t.val (by omega) (by omega) (by omega)
  have P2 : Hid (∀ (n : Int) (t : Cls (fun x => Below W.heap.size W x)), 0 ≤ n → n < 100 → Calls Tryd.prog 27 #[.int .i64 n, .int .i64 2] t.val fun e w' => e = .returned (.string ⟨(digs 2 n).toArray⟩) ∧ Below t.val.heap.size t.val w') := fun n t h0 h1 => refDigits_any n 2 t.val h0 (by omega) (by omega)
  clear blk hW
  haveI : Nonempty (Cls (fun x => Below W.heap.size W x)) := ⟨⟨W, Below.refl _ _⟩⟩
  refine wp_region_class (fun x => Below W.heap.size W x) (by kernel_rfl) (by kernel_rfl) (Below.drew (Below.refl _ _)) ?_
  repeat go_big_quiet_step (first
    | (go_at_call 27; (with_reducible refine Calls.class_below (P2.out M _ ?_ ?_)) <;> omega)
    | (go_at_call 27; (with_reducible refine Calls.class_below (P2.out D _ ?_ ?_)) <;> omega)
    | (go_at_call 27; with_reducible exact Calls.class_below (P4.out _)))
  refine wpQuiet_nil ?_
  rintro w2 ⟨⟨_, b2⟩, rfl⟩
  go_wp2_with fail
  go_ret2
  refine ⟨?_, hB.trans (b2.mono hB.size)⟩
  rw [HF.out]
  refine congrArg (fun s => Ending.returned (.tuple #[.string s, .int .i64 0])) ?_
  simp only [bcat]

set_option maxHeartbeats 400000 in
theorem refFormatDay_no (d : Int) (w : World) (h : d < 0 ∨ 73048 < d) :
    Calls Tryd.prog 31 #[.int .i64 d] w fun e w' => e = .returned (.tuple #[.string ⟨#[]⟩, .int .i64 2]) ∧ w = w' := by
  have cs : d < 0 ∨ (0 ≤ d ∧ 73048 < d) := by omega
  clear h
  rcases cs with a | ⟨a, b⟩
  all_goals
    go_enter Tryd.func31, Tryd.ntmps31
    go_wp2
    go_ret2
    exact ⟨rfl, rfl⟩


theorem formatZone_yes (m off : Int) (w : World) (h : zok m off = true) (ht : Tab w) :
    Calls Tryd.prog 20 #[.int .i64 m, .int .i64 off] w fun e w' => e = .returned (.tuple #[.string ⟨(fmtText (m + off) off).toArray⟩, .int .i64 0]) ∧ Below w.heap.size w w' := by
  by_cases hp : off < 0
  · have := formatZone_neg m (-off) w (by rw [Int.neg_neg]; exact h) (by omega) ht
    rw [Int.neg_neg] at this
    exact this
  · exact formatZone_pos m off w h (by omega) ht

theorem zok_zero (m : Int) : zok m 0 = vld m := by
  unfold zok; rw [Int.add_zero]; cases vld m <;> rfl

set_option maxHeartbeats 400000 in
theorem format_yes (m : Int) (w : World) (h : vld m = true) (ht : Tab w) :
    Calls Tryd.prog 18 #[.int .i64 m] w fun e w' => e = .returned (.tuple #[.string ⟨(fmtText m 0).toArray⟩, .int .i64 0]) ∧ Below w.heap.size w w' := by
  have hz := Lib.hid ((zok_zero m).trans h)
  have HT := Lib.hid ht; clear ht
  go_enter Tryd.func18, Tryd.ntmps18
  go_wp2_with fail
  refine (formatZone_yes _ _ _ hz.out HT.out).mono ?_; rintro e w1 ⟨rfl, b1⟩
  rw [Int.add_zero]
  go_wp2_with fail
  go_ret2
  exact ⟨rfl, b1⟩
set_option maxHeartbeats 400000 in
theorem format_no (m : Int) (w : World) (h : vld m = false) :
    Calls Tryd.prog 18 #[.int .i64 m] w fun e w' => e = .returned (.tuple #[.string ⟨#[]⟩, .int .i64 2]) ∧ w = w' := by
  have hz := Lib.hid ((zok_zero m).trans h)
  go_enter Tryd.func18, Tryd.ntmps18
  go_wp2_with fail
  refine (formatZone_no _ _ _ hz.out).mono ?_; rintro e w1 ⟨rfl, rfl⟩
  go_wp2_with fail
  go_ret2
  exact ⟨rfl, rfl⟩
end Go.Proofs.YtpdncgfkoibacaaDoor
