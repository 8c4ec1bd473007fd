/- Contracts of FormatZone, Format and FormatDay of package date. -/
import Derived.Test.YtlchcjnbbhpiaaaGreatDoorZe
import Derived.Test.YtlchcjnbbhpiaaaGreatDoorZf
namespace Go.Proofs.YtlchcjnbbhpiaaaGreatDoor.Dt
open Go.Dt
open Go.RowKit
open Cal
/-- May a minute be printed in the zone of an offset? -/
def zok (m off : Int) : Bool := vld m && decide (-840 ≤ off) && decide (off ≤ 840) && vld (m + off)
theorem zok_true {m off : Int} (h : zok m off = true) : (0 ≤ m ∧ m ≤ 105190559) ∧ -840 ≤ off ∧ off ≤ 840 ∧ 0 ≤ m + off ∧ m + off ≤ 105190559 := by
 simp only [zok, Bool.and_eq_true, decide_eq_true_eq] at h
 have a := vld_true h.1.1.1; have b := vld_true h.2
 exact ⟨a, h.1.1.2, h.1.2, b.1, b.2⟩
theorem dayN_len (d : Int) (h0 : 0 ≤ d) (h1 : d < 7) : (dayN d).length = 3 := by
 have hm : d = 0 ∨ d = 1 ∨ d = 2 ∨ d = 3 ∨ d = 4 ∨ d = 5 ∨ d = 6 := by omega
 rcases hm with rfl | rfl | rfl | rfl | rfl | rfl | rfl <;> rfl
theorem monN_len (d : Int) (h0 : 1 ≤ d) (h1 : d ≤ 12) : (monN d).length = 3 := by
 have hm : d = 1 ∨ d = 2 ∨ d = 3 ∨ d = 4 ∨ d = 5 ∨ d = 6 ∨ d = 7 ∨ d = 8 ∨ d = 9 ∨ d = 10 ∨ d = 11 ∨ d = 12 := by omega
 rcases hm with rfl | rfl | rfl | rfl | rfl | rfl | rfl | rfl | rfl | rfl | rfl | rfl <;> rfl
set_option maxRecDepth 100000 in
set_option maxHeartbeats 4000000 in
theorem formatZone_pos (m A : Int) (w : World) (h : zok m A = true) (hp : 0 ≤ A) (ht : Tab w) :
  Calls Tryz.prog 151 #[.int .i64 m, .int .i64 A] w fun e w' => e = .returned (.tuple #[.string ⟨(fmtText (m + A) A).toArray⟩, .int .i64 0]) ∧ Below w.heap.size w w' := by
 obtain ⟨⟨m0, m1⟩, o0, o1, s0, s1⟩ := zok_true h
 have v1 := vld_mk ⟨m0, m1⟩
 have v2 := vld_mk ⟨s0, s1⟩
 have HT := Lib.hid ht; clear ht h
 have aY := civY_spec ((m + A) / 1440) (by omega) (by omega)
 have aM := civM_spec ((m + A) / 1440) (by omega) (by omega)
 have aD := civD_spec ((m + A) / 1440) (by omega) (by omega)
 have aB := md_bd (civY ((m + A) / 1440)) (civM ((m + A) / 1440))
 have y1 := aY.1; have y2 := aY.2.1; have q1 := aM.1; have q2 := aM.2.1; have d1 := aD.1; have d2 : civD ((m + A) / 1440) ≤ 31 := by omega
 clear aY aM aD aB
 have hh0 : 0 ≤ (m + A) % 1440 / 60 := by omega
 have hh1 : (m + A) % 1440 / 60 ≤ 23 := by omega
 have nn0 : 0 ≤ (m + A) % 60 := by omega
 have nn1 : (m + A) % 60 ≤ 59 := by omega
 have wd0 : 0 ≤ ((m + A) / 1440 + 5) % 7 := by omega
 have wd1 : ((m + A) / 1440 + 5) % 7 < 7 := by omega
 have hf : fmtText (m + A) A = dayN (((m + A) / 1440 + 5) % 7) ++ [44, 32] ++ digs 2 (civD ((m + A) / 1440)) ++ [32] ++ monN (civM ((m + A) / 1440)) ++ [32] ++ digs 4 (civY ((m + A) / 1440)) ++ [32] ++ digs 2 ((m + A) % 1440 / 60) ++ [58] ++ digs 2 ((m + A) % 60) ++ [32] ++ [43] ++ digs 2 (A / 60) ++ digs 2 (A % 60) := by
  have e1 : absI (A) = A := by unfold absI; split <;> omega
  have e2 : (if A < 0 then (45 : UInt8) else 43) = 43 := by split <;> first | rfl | omega
  unfold fmtText; rw [e1, e2]
 have HF := Lib.hid hf; clear hf
 go_enter Tryz.func151, Tryz.ntmps151
 go_wp2_with fail
 refine (valid_any _ _).mono ?_; rintro e w' ⟨rfl, rfl⟩
 go_wp2_with fail
 refine (valid_any _ _).mono ?_; rintro e w' ⟨rfl, rfl⟩
 go_wp2_with fail
 refine (toCivil_yes _ _ (by omega) (by omega)).mono ?_; rintro e w1 ⟨rfl, b1⟩
 go_wp2_with fail
 refine (weekday_yes _ _ (by omega) (by omega)).mono ?_; rintro e w' ⟨rfl, rfl⟩
 go_wp2_with fail
 generalize civY ((m + A) / 1440) = Y at *
 generalize civM ((m + A) / 1440) = M at *
 generalize civD ((m + A) / 1440) = D at *
 generalize (m + A) % 1440 / 60 = H at *
 generalize (m + A) % 60 = N at *
 generalize ((m + A) / 1440 + 5) % 7 = wd at *
 have im := fun w => index_mon (M - 1) (by omega) (by omega) w
 rw [show M - 1 + 1 = M by omega] at im
 have id := fun w => index_day wd wd0 wd1 w
 have l1 := dayN_len wd wd0 wd1
 have l2 := monN_len M q1 q2
 have l3 := digs_length 2 D
 have l4 := digs_length 4 Y
 have l5 := digs_length 2 H
 have l6 := digs_length 2 N
 have l7 := digs_length 2 (A / 60)
 have l8 := digs_length 2 (A % 60)
 have p2 : ∀ (n : Int) (w : World), 0 ≤ n → n < 100 → Calls Tryz.prog 195 #[.int .i64 n, .int .i64 2] w fun e w' => e = .returned (.string ⟨(digs 2 n).toArray⟩) ∧ w = w' := fun n w h0 h1 => padded2_any n w h0 h1
 obtain ⟨W, hW⟩ : ∃ W, W = w1.alloc (.cells #[.int .i64 Y, .int .i64 M, .int .i64 D, .int .i64 H, .int .i64 N] 170) := ⟨_, rfl⟩
 have hB : Below w.heap.size w W := by rw [hW]; exact b1.alloc b1.size _
 have blk : W.heap[w1.heap.size]? = some (.cells #[.int .i64 Y, .int .i64 M, .int .i64 D, .int .i64 H, .int .i64 N] 170 (0, 0)) := by rw [hW]; exact blk_new _ _
 rw [← hW]
 have hS : ∀ t : Cls (fun x => Below W.heap.size W x), t.val.heap[w1.heap.size]? = some (.cells #[.int .i64 Y, .int .i64 M, .int .i64 D, .int .i64 H, .int .i64 N] 170 (0, 0)) := fun t => blk_below t.ok blk
 have c0 : ∀ t : Cls (fun x => Below W.heap.size W x), t.val.cell? ⟨w1.heap.size, 0, none⟩ = some (.int .i64 Y) := fun t => blk_cell (hS t) 0
 have c1 : ∀ t : Cls (fun x => Below W.heap.size W x), t.val.cell? ⟨w1.heap.size, 1, none⟩ = some (.int .i64 M) := fun t => blk_cell (hS t) 1
 have c2 : ∀ t : Cls (fun x => Below W.heap.size W x), t.val.cell? ⟨w1.heap.size, 2, none⟩ = some (.int .i64 D) := fun t => blk_cell (hS t) 2
 have c3 : ∀ t : Cls (fun x => Below W.heap.size W x), t.val.cell? ⟨w1.heap.size, 3, none⟩ = some (.int .i64 H) := fun t => blk_cell (hS t) 3
 have c4 : ∀ t : Cls (fun x => Below W.heap.size W x), t.val.cell? ⟨w1.heap.size, 4, none⟩ = some (.int .i64 N) := fun t => blk_cell (hS t) 4
 have P4 : Hid (∀ t : Cls (fun x => Below W.heap.size W x), Calls Tryz.prog 195 #[.int .i64 Y, .int .i64 4] t.val fun e w' => e = .returned (.string ⟨(digs 4 Y).toArray⟩) ∧ Below t.val.heap.size t.val w') := fun t => padded4_any Y t.val (by omega) (by omega) ((HT.out.below hB).below t.ok)
 have P2 := Lib.hid p2; clear p2
 clear hS blk hW
 haveI : Nonempty (Cls (fun x => Below W.heap.size W x)) := ⟨⟨W, Below.refl _ _⟩⟩
 generalize hg1 : digs 2 D = D2 at *
 generalize hg2 : digs 4 Y = Y4 at *
 generalize hg3 : digs 2 H = H2 at *
 generalize hg4 : digs 2 N = N2 at *
 generalize hg5 : digs 2 (A / 60) = A2 at *
 generalize hg6 : digs 2 (A % 60) = B2 at *
 have G1 := Lib.hid (P2.out D); rw [hg1] at G1
 have G3 := Lib.hid (P2.out H); rw [hg3] at G3
 have G4 := Lib.hid (P2.out N); rw [hg4] at G4
 have G5 := Lib.hid (P2.out (A / 60)); rw [hg5] at G5
 have G6 := Lib.hid (P2.out (A % 60)); rw [hg6] at G6
 clear hg1 hg2 hg3 hg4 hg5 hg6 P2
 generalize dayN wd = W3 at *
 generalize monN M = M3 at *
 refine wp_region_class (fun x => Below W.heap.size W x) (by kernel_rfl) (by kernel_rfl) (Below.drew (Below.refl _ _)) ?_
 repeat go_big_quiet_step (first
  | (go_at_call 157; exact Calls.class_below (dayNames_any _))
  | (go_at_call 158; exact Calls.class_below (monthNames_any _))
  | (go_at_call 195; (with_reducible refine Calls.class_same (G1.out _ ?_ ?_)) <;> omega)
  | (go_at_call 195; (with_reducible refine Calls.class_same (G3.out _ ?_ ?_)) <;> omega)
  | (go_at_call 195; (with_reducible refine Calls.class_same (G4.out _ ?_ ?_)) <;> omega)
  | (go_at_call 195; (with_reducible refine Calls.class_same (G5.out _ ?_ ?_)) <;> omega)
  | (go_at_call 195; (with_reducible refine Calls.class_same (G6.out _ ?_ ?_)) <;> omega)
  | (go_at_call 195; with_reducible exact Calls.class_below (P4.out _)))
 refine wpQuiet_nil ?_
 rintro w2 ⟨⟨_, b2⟩, rfl⟩
 go_wp2_with fail
 go_ret2
 refine ⟨?_, hB.trans (b2.mono hB.size)⟩
 rw [HF.out]
 refine congrArg (fun s => Ending.returned (.tuple #[.string s, .int .i64 0])) ?_
 simp only [bcat]
set_option maxRecDepth 100000 in
set_option maxHeartbeats 4000000 in
theorem formatZone_neg (m A : Int) (w : World) (h : zok m (-A) = true) (hp : 0 < A) (ht : Tab w) :
  Calls Tryz.prog 151 #[.int .i64 m, .int .i64 (-A)] w fun e w' => e = .returned (.tuple #[.string ⟨(fmtText (m + (-A)) (-A)).toArray⟩, .int .i64 0]) ∧ Below w.heap.size w w' := by
 obtain ⟨⟨m0, m1⟩, o0, o1, s0, s1⟩ := zok_true h
 have v1 := vld_mk ⟨m0, m1⟩
 have v2 := vld_mk ⟨s0, s1⟩
 have HT := Lib.hid ht; clear ht h
 have aY := civY_spec ((m + (-A)) / 1440) (by omega) (by omega)
 have aM := civM_spec ((m + (-A)) / 1440) (by omega) (by omega)
 have aD := civD_spec ((m + (-A)) / 1440) (by omega) (by omega)
 have aB := md_bd (civY ((m + (-A)) / 1440)) (civM ((m + (-A)) / 1440))
 have y1 := aY.1; have y2 := aY.2.1; have q1 := aM.1; have q2 := aM.2.1; have d1 := aD.1; have d2 : civD ((m + (-A)) / 1440) ≤ 31 := by omega
 clear aY aM aD aB
 have hh0 : 0 ≤ (m + (-A)) % 1440 / 60 := by omega
 have hh1 : (m + (-A)) % 1440 / 60 ≤ 23 := by omega
 have nn0 : 0 ≤ (m + (-A)) % 60 := by omega
 have nn1 : (m + (-A)) % 60 ≤ 59 := by omega
 have wd0 : 0 ≤ ((m + (-A)) / 1440 + 5) % 7 := by omega
 have wd1 : ((m + (-A)) / 1440 + 5) % 7 < 7 := by omega
 have hf : fmtText (m + (-A)) (-A) = dayN (((m + (-A)) / 1440 + 5) % 7) ++ [44, 32] ++ digs 2 (civD ((m + (-A)) / 1440)) ++ [32] ++ monN (civM ((m + (-A)) / 1440)) ++ [32] ++ digs 4 (civY ((m + (-A)) / 1440)) ++ [32] ++ digs 2 ((m + (-A)) % 1440 / 60) ++ [58] ++ digs 2 ((m + (-A)) % 60) ++ [32] ++ [45] ++ digs 2 (A / 60) ++ digs 2 (A % 60) := by
  have e1 : absI ((-A)) = A := by unfold absI; split <;> omega
  have e2 : (if (-A) < 0 then (45 : UInt8) else 43) = 45 := by split <;> first | rfl | omega
  unfold fmtText; rw [e1, e2]
 have HF := Lib.hid hf; clear hf
 go_enter Tryz.func151, Tryz.ntmps151
 go_wp2_with fail
 refine (valid_any _ _).mono ?_; rintro e w' ⟨rfl, rfl⟩
 go_wp2_with fail
 refine (valid_any _ _).mono ?_; rintro e w' ⟨rfl, rfl⟩
 go_wp2_with fail
 refine (toCivil_yes _ _ (by omega) (by omega)).mono ?_; rintro e w1 ⟨rfl, b1⟩
 go_wp2_with fail
 refine (weekday_yes _ _ (by omega) (by omega)).mono ?_; rintro e w' ⟨rfl, rfl⟩
 go_wp2_with fail
 generalize civY ((m + (-A)) / 1440) = Y at *
 generalize civM ((m + (-A)) / 1440) = M at *
 generalize civD ((m + (-A)) / 1440) = D at *
 generalize (m + (-A)) % 1440 / 60 = H at *
 generalize (m + (-A)) % 60 = N at *
 generalize ((m + (-A)) / 1440 + 5) % 7 = wd at *
 have im := fun w => index_mon (M - 1) (by omega) (by omega) w
 rw [show M - 1 + 1 = M by omega] at im
 have id := fun w => index_day wd wd0 wd1 w
 have l1 := dayN_len wd wd0 wd1
 have l2 := monN_len M q1 q2
 have l3 := digs_length 2 D
 have l4 := digs_length 4 Y
 have l5 := digs_length 2 H
 have l6 := digs_length 2 N
 have l7 := digs_length 2 (A / 60)
 have l8 := digs_length 2 (A % 60)
 have p2 : ∀ (n : Int) (w : World), 0 ≤ n → n < 100 → Calls Tryz.prog 195 #[.int .i64 n, .int .i64 2] w fun e w' => e = .returned (.string ⟨(digs 2 n).toArray⟩) ∧ w = w' := fun n w h0 h1 => padded2_any n w h0 h1
 obtain ⟨W, hW⟩ : ∃ W, W = w1.alloc (.cells #[.int .i64 Y, .int .i64 M, .int .i64 D, .int .i64 H, .int .i64 N] 170) := ⟨_, rfl⟩
 have hB : Below w.heap.size w W := by rw [hW]; exact b1.alloc b1.size _
 have blk : W.heap[w1.heap.size]? = some (.cells #[.int .i64 Y, .int .i64 M, .int .i64 D, .int .i64 H, .int .i64 N] 170 (0, 0)) := by rw [hW]; exact blk_new _ _
 rw [← hW]
 have hS : ∀ t : Cls (fun x => Below W.heap.size W x), t.val.heap[w1.heap.size]? = some (.cells #[.int .i64 Y, .int .i64 M, .int .i64 D, .int .i64 H, .int .i64 N] 170 (0, 0)) := fun t => blk_below t.ok blk
 have c0 : ∀ t : Cls (fun x => Below W.heap.size W x), t.val.cell? ⟨w1.heap.size, 0, none⟩ = some (.int .i64 Y) := fun t => blk_cell (hS t) 0
 have c1 : ∀ t : Cls (fun x => Below W.heap.size W x), t.val.cell? ⟨w1.heap.size, 1, none⟩ = some (.int .i64 M) := fun t => blk_cell (hS t) 1
 have c2 : ∀ t : Cls (fun x => Below W.heap.size W x), t.val.cell? ⟨w1.heap.size, 2, none⟩ = some (.int .i64 D) := fun t => blk_cell (hS t) 2
 have c3 : ∀ t : Cls (fun x => Below W.heap.size W x), t.val.cell? ⟨w1.heap.size, 3, none⟩ = some (.int .i64 H) := fun t => blk_cell (hS t) 3
 have c4 : ∀ t : Cls (fun x => Below W.heap.size W x), t.val.cell? ⟨w1.heap.size, 4, none⟩ = some (.int .i64 N) := fun t => blk_cell (hS t) 4
 have P4 : Hid (∀ t : Cls (fun x => Below W.heap.size W x), Calls Tryz.prog 195 #[.int .i64 Y, .int .i64 4] t.val fun e w' => e = .returned (.string ⟨(digs 4 Y).toArray⟩) ∧ Below t.val.heap.size t.val w') := fun t => padded4_any Y t.val (by omega) (by omega) ((HT.out.below hB).below t.ok)
 have P2 := Lib.hid p2; clear p2
 clear hS blk hW
 haveI : Nonempty (Cls (fun x => Below W.heap.size W x)) := ⟨⟨W, Below.refl _ _⟩⟩
 generalize hg1 : digs 2 D = D2 at *
 generalize hg2 : digs 4 Y = Y4 at *
 generalize hg3 : digs 2 H = H2 at *
 generalize hg4 : digs 2 N = N2 at *
 generalize hg5 : digs 2 (A / 60) = A2 at *
 generalize hg6 : digs 2 (A % 60) = B2 at *
 have G1 := Lib.hid (P2.out D); rw [hg1] at G1
 have G3 := Lib.hid (P2.out H); rw [hg3] at G3
 have G4 := Lib.hid (P2.out N); rw [hg4] at G4
 have G5 := Lib.hid (P2.out (A / 60)); rw [hg5] at G5
 have G6 := Lib.hid (P2.out (A % 60)); rw [hg6] at G6
 clear hg1 hg2 hg3 hg4 hg5 hg6 P2
 generalize dayN wd = W3 at *
 generalize monN M = M3 at *
 refine wp_region_class (fun x => Below W.heap.size W x) (by kernel_rfl) (by kernel_rfl) (Below.drew (Below.refl _ _)) ?_
 repeat go_big_quiet_step (first
  | (go_at_call 157; exact Calls.class_below (dayNames_any _))
  | (go_at_call 158; exact Calls.class_below (monthNames_any _))
  | (go_at_call 195; (with_reducible refine Calls.class_same (G1.out _ ?_ ?_)) <;> omega)
  | (go_at_call 195; (with_reducible refine Calls.class_same (G3.out _ ?_ ?_)) <;> omega)
  | (go_at_call 195; (with_reducible refine Calls.class_same (G4.out _ ?_ ?_)) <;> omega)
  | (go_at_call 195; (with_reducible refine Calls.class_same (G5.out _ ?_ ?_)) <;> omega)
  | (go_at_call 195; (with_reducible refine Calls.class_same (G6.out _ ?_ ?_)) <;> omega)
  | (go_at_call 195; with_reducible exact Calls.class_below (P4.out _)))
 refine wpQuiet_nil ?_
 rintro w2 ⟨⟨_, b2⟩, rfl⟩
 go_wp2_with fail
 go_ret2
 refine ⟨?_, hB.trans (b2.mono hB.size)⟩
 rw [HF.out]
 refine congrArg (fun s => Ending.returned (.tuple #[.string s, .int .i64 0])) ?_
 simp only [bcat]
end Go.Proofs.YtlchcjnbbhpiaaaGreatDoor.Dt
