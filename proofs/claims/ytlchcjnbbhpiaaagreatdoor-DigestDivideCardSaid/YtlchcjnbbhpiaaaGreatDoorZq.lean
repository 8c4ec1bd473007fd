/- Contract of Parse of package date. -/
import Derived.Test.YtlchcjnbbhpiaaaGreatDoorZp
import Derived.Test.YtlchcjnbbhpiaaaGreatDoorZf
namespace Go.Proofs.YtlchcjnbbhpiaaaGreatDoor.Dt
open Go.Dt
open Go.RowKit
open Cal
theorem zoneV_bd (z : List UInt8) : -840 ≤ zoneV z ∧ zoneV z ≤ 840 := by
 unfold zoneV
 split
 ·rename_i o h
  unfold zoneName at h
  cases hf : zoneTab.find? fun r => r.1 == capL z with
  | none => rw [hf] at h; cases h
  | some r =>
   rw [hf] at h
   have hm := List.mem_of_find?_eq_some hf
   have hall : ∀ x ∈ zoneTab, -840 ≤ x.2 ∧ x.2 ≤ 840 := by decide
   have := hall r hm
   simp at h; rw [← h]; exact this
 ·rename_i h
  by_cases hE : zoneE z ≠ 0
  ·rw [if_pos hE]; omega
  ·rw [if_neg hE]
   have hE0 : zoneE z = 0 := by omega
   unfold zoneE at hE0
   rw [h] at hE0
   simp only [] at hE0
   split at hE0
   ·omega
   ·rename_i hc
    split at hE0
    ·omega
    ·rename_i h8
     have he : (zs z).e = 0 := by
      rcases Nat.eq_zero_or_pos (zs z).e with h | h
      ·exact h
      ·exact absurd (.inr (.inr (.inl (by omega)))) hc
     have m1 := digV_ok (t := z) (s := digS z 2 ⟨1, 0⟩) (k := 2) he
     have m2 := digV_ok (t := z) (s := ⟨1, 0⟩) (k := 2) (digS_e he)
     have m1' : 0 ≤ zm z := m1.1
     have m2' : 0 ≤ zh z := m2.1
     split <;> omega
theorem pOff_bd (t : List UInt8) : -840 ≤ pOff t ∧ pOff t ≤ 840 := by
 unfold pOff zoneOf
 split
 ·split
  ·omega
  ·exact zoneV_bd _
 ·omega
theorem pMon_bd (t : List UInt8) : 1 ≤ pMon t ∧ pMon t ≤ 12 := by
 have := nameV_lt (t := t) (n := monTab) (s := r3 t) (by decide)
 have h12 : monTab.length = 12 := rfl
 unfold pMon; omega
theorem ok_all {t : List UInt8} (h : (r13 t).e = 0) : 0 ≤ pHour t ∧ 0 ≤ pMin t ∧ 0 ≤ pYear t ∧ 0 ≤ pDay t ∧ pYear t ≤ 9999 := by
 have h12 := zoneSt_e h
 have h11 := blanks_e h12
 have h10 : (r10 t).e = 0 := by
  unfold r11 at h11; split at h11
  ·exact (need_e (numS_e h11)).2
  ·exact h11
 have h9 := numS_e h10
 have h8 := (need_e h9).2
 have h7 := numS_e h8
 have h6 := blanks_e h7
 have h5 := numS_e h6
 have h4 := blanks_e h5
 have h3 := nameS_e h4
 have h2 := blanks_e h3
 exact ⟨(numV_ok (.inl (by omega)) h8).1, (numV_ok (.inl (by omega)) h10).1, (numV_ok (.inr ⟨rfl, rfl⟩) h6).1, (numV_ok (.inl (by omega)) h2).1, (numV_ok (.inr ⟨rfl, rfl⟩) h6).2⟩
set_option maxHeartbeats 400000 in
theorem parse_long (t : List UInt8) (w : World) (hl : 64 < t.length) (hm : t.length ≤ 1000000000) :
  Calls Tryz.prog 91 #[.string ⟨t.toArray⟩] w fun e w' => e = .returned (.tuple #[.int .i64 0, .int .i64 64, .int .i64 5]) ∧ w = w' := by
 go_enter Tryz.func91, Tryz.ntmps91
 go_wp2_with fail
 go_ret3
 exact ⟨rfl, rfl⟩
set_option maxRecDepth 100000 in
set_option maxHeartbeats 800000 in
theorem parse_e (t : List UInt8) (w : World) (Y M D H N WD SE OF A1 A5 A7 A9 AS : Int) (R : St) (hl : t.length ≤ 64)
  (HR : Hid (∀ (b : Nat) (w : World), Scn w b t ⟨0, 0⟩ → Calls Tryz.prog 124 #[.pointer (some ⟨b, 0, none⟩)] w fun e w' => e = .returned (.agg #[.int .i64 Y, .int .i64 M, .int .i64 D, .int .i64 H, .int .i64 N, .int .i64 WD, .int .i64 SE, .int .i64 OF, .int .i64 A1, .int .i64 A5, .int .i64 A7, .int .i64 A9, .int .i64 AS]) ∧ Scn w' b t R ∧ But b w w'))
  (_yb : -600000 ≤ Y ∧ Y ≤ 2300000) (_ob : -840 ≤ OF ∧ OF ≤ 840) (_mb : 1 ≤ M ∧ M ≤ 12) (he : ((R.e : Int) != 0) = true) :
  Calls Tryz.prog 91 #[.string ⟨t.toArray⟩] w fun e w' => e = .returned (.tuple #[.int .i64 0, .int .i64 (R.p : Nat), .int .i64 (R.e : Nat)]) ∧ Below w.heap.size w w' := by
 go_enter Tryz.func91, Tryz.ntmps91
 go_wp2_with fail
 refine (HR.out w.heap.size _ (scn_new w t 0)).mono ?_; rintro e w2 ⟨rfl, S2, B2⟩
 have hB2 : Below w.heap.size w w2 := ((Below.refl w.heap.size w).alloc (Nat.le_refl _) _).trans (B2.below (Nat.le_refl _) (by simp))
 clear HR B2
 have S2' := Lib.hid S2; clear S2
 go_upto_region 5 with (fail)
 obtain ⟨w3, hw3⟩ : ∃ w3, w3 = w2.alloc (.cells #[.int .i64 Y, .int .i64 M, .int .i64 D, .int .i64 H, .int .i64 N, .int .i64 WD, .int .i64 SE, .int .i64 OF, .int .i64 A1, .int .i64 A5, .int .i64 A7, .int .i64 A9, .int .i64 AS] 172) := ⟨_, rfl⟩
 have K3 : w3.heap[w2.heap.size]? = some (.cells #[.int .i64 Y, .int .i64 M, .int .i64 D, .int .i64 H, .int .i64 N, .int .i64 WD, .int .i64 SE, .int .i64 OF, .int .i64 A1, .int .i64 A5, .int .i64 A7, .int .i64 A9, .int .i64 AS] 172 (0, 0)) := by rw [hw3]; exact blk_new _ _
 have B3 : Below w2.heap.size w2 w3 := by rw [hw3]; exact (Below.refl _ _).alloc (Nat.le_refl _) _
 rw [← hw3]
 have S3 := S2'.out.below B3
 have hB3 := hB2.trans (B3.mono hB2.size)
 clear hw3 S2' hB2 B3
 generalize w2.heap.size = q at *
 have sc1 := S3.c1
 have sc2 := S3.c2
 have c0 : w3.cell? ⟨q, 0, none⟩ = some (.int .i64 Y) := blk_cell K3 0
 have c1 : w3.cell? ⟨q, 1, none⟩ = some (.int .i64 M) := blk_cell K3 1
 have c2 : w3.cell? ⟨q, 2, none⟩ = some (.int .i64 D) := blk_cell K3 2
 have c3 : w3.cell? ⟨q, 3, none⟩ = some (.int .i64 H) := blk_cell K3 3
 have c4 : w3.cell? ⟨q, 4, none⟩ = some (.int .i64 N) := blk_cell K3 4
 have c5 : w3.cell? ⟨q, 5, none⟩ = some (.int .i64 WD) := blk_cell K3 5
 have c6 : w3.cell? ⟨q, 6, none⟩ = some (.int .i64 SE) := blk_cell K3 6
 have c7 : w3.cell? ⟨q, 7, none⟩ = some (.int .i64 OF) := blk_cell K3 7
 have c8 : w3.cell? ⟨q, 8, none⟩ = some (.int .i64 A1) := blk_cell K3 8
 have c9 : w3.cell? ⟨q, 9, none⟩ = some (.int .i64 A5) := blk_cell K3 9
 have c10 : w3.cell? ⟨q, 10, none⟩ = some (.int .i64 A7) := blk_cell K3 10
 have c11 : w3.cell? ⟨q, 11, none⟩ = some (.int .i64 A9) := blk_cell K3 11
 have c12 : w3.cell? ⟨q, 12, none⟩ = some (.int .i64 AS) := blk_cell K3 12
 have K3' := Lib.hid K3
 clear K3 S3
 go_wp2_with fail
 go_quiet (fail)
 go_wp2_with fail
 go_ret3
 exact ⟨rfl, Below.drewN _ hB3⟩
set_option maxRecDepth 100000 in
set_option maxHeartbeats 800000 in
theorem parse_y1 (t : List UInt8) (w : World) (Y M D H N WD SE OF A1 A5 A7 A9 AS : Int) (R : St) (hl : t.length ≤ 64)
  (HR : Hid (∀ (b : Nat) (w : World), Scn w b t ⟨0, 0⟩ → Calls Tryz.prog 124 #[.pointer (some ⟨b, 0, none⟩)] w fun e w' => e = .returned (.agg #[.int .i64 Y, .int .i64 M, .int .i64 D, .int .i64 H, .int .i64 N, .int .i64 WD, .int .i64 SE, .int .i64 OF, .int .i64 A1, .int .i64 A5, .int .i64 A7, .int .i64 A9, .int .i64 AS]) ∧ Scn w' b t R ∧ But b w w'))
  (_yb : -600000 ≤ Y ∧ Y ≤ 2300000) (_ob : -840 ≤ OF ∧ OF ≤ 840) (_mb : 1 ≤ M ∧ M ≤ 12) (he : ((R.e : Int) != 0) = false) (y1 : Y < 2000) :
  Calls Tryz.prog 91 #[.string ⟨t.toArray⟩] w fun e w' => e = .returned (.tuple #[.int .i64 0, .int .i64 A5, .int .i64 2]) ∧ Below w.heap.size w w' := by
 go_enter Tryz.func91, Tryz.ntmps91
 go_wp2_with fail
 refine (HR.out w.heap.size _ (scn_new w t 0)).mono ?_; rintro e w2 ⟨rfl, S2, B2⟩
 have hB2 : Below w.heap.size w w2 := ((Below.refl w.heap.size w).alloc (Nat.le_refl _) _).trans (B2.below (Nat.le_refl _) (by simp))
 clear HR B2
 have S2' := Lib.hid S2; clear S2
 go_upto_region 5 with (fail)
 obtain ⟨w3, hw3⟩ : ∃ w3, w3 = w2.alloc (.cells #[.int .i64 Y, .int .i64 M, .int .i64 D, .int .i64 H, .int .i64 N, .int .i64 WD, .int .i64 SE, .int .i64 OF, .int .i64 A1, .int .i64 A5, .int .i64 A7, .int .i64 A9, .int .i64 AS] 172) := ⟨_, rfl⟩
 have K3 : w3.heap[w2.heap.size]? = some (.cells #[.int .i64 Y, .int .i64 M, .int .i64 D, .int .i64 H, .int .i64 N, .int .i64 WD, .int .i64 SE, .int .i64 OF, .int .i64 A1, .int .i64 A5, .int .i64 A7, .int .i64 A9, .int .i64 AS] 172 (0, 0)) := by rw [hw3]; exact blk_new _ _
 have B3 : Below w2.heap.size w2 w3 := by rw [hw3]; exact (Below.refl _ _).alloc (Nat.le_refl _) _
 rw [← hw3]
 have S3 := S2'.out.below B3
 have hB3 := hB2.trans (B3.mono hB2.size)
 clear hw3 S2' hB2 B3
 generalize w2.heap.size = q at *
 have sc1 := S3.c1
 have sc2 := S3.c2
 have c0 : w3.cell? ⟨q, 0, none⟩ = some (.int .i64 Y) := blk_cell K3 0
 have c1 : w3.cell? ⟨q, 1, none⟩ = some (.int .i64 M) := blk_cell K3 1
 have c2 : w3.cell? ⟨q, 2, none⟩ = some (.int .i64 D) := blk_cell K3 2
 have c3 : w3.cell? ⟨q, 3, none⟩ = some (.int .i64 H) := blk_cell K3 3
 have c4 : w3.cell? ⟨q, 4, none⟩ = some (.int .i64 N) := blk_cell K3 4
 have c5 : w3.cell? ⟨q, 5, none⟩ = some (.int .i64 WD) := blk_cell K3 5
 have c6 : w3.cell? ⟨q, 6, none⟩ = some (.int .i64 SE) := blk_cell K3 6
 have c7 : w3.cell? ⟨q, 7, none⟩ = some (.int .i64 OF) := blk_cell K3 7
 have c8 : w3.cell? ⟨q, 8, none⟩ = some (.int .i64 A1) := blk_cell K3 8
 have c9 : w3.cell? ⟨q, 9, none⟩ = some (.int .i64 A5) := blk_cell K3 9
 have c10 : w3.cell? ⟨q, 10, none⟩ = some (.int .i64 A7) := blk_cell K3 10
 have c11 : w3.cell? ⟨q, 11, none⟩ = some (.int .i64 A9) := blk_cell K3 11
 have c12 : w3.cell? ⟨q, 12, none⟩ = some (.int .i64 AS) := blk_cell K3 12
 have K3' := Lib.hid K3
 clear K3 S3
 go_wp2_with fail
 go_quiet (fail)
 go_wp2_with fail
 go_ret3
 exact ⟨rfl, Below.drewN _ hB3⟩
set_option maxRecDepth 100000 in
set_option maxHeartbeats 800000 in
theorem parse_y2 (t : List UInt8) (w : World) (Y M D H N WD SE OF A1 A5 A7 A9 AS : Int) (R : St) (hl : t.length ≤ 64)
  (HR : Hid (∀ (b : Nat) (w : World), Scn w b t ⟨0, 0⟩ → Calls Tryz.prog 124 #[.pointer (some ⟨b, 0, none⟩)] w fun e w' => e = .returned (.agg #[.int .i64 Y, .int .i64 M, .int .i64 D, .int .i64 H, .int .i64 N, .int .i64 WD, .int .i64 SE, .int .i64 OF, .int .i64 A1, .int .i64 A5, .int .i64 A7, .int .i64 A9, .int .i64 AS]) ∧ Scn w' b t R ∧ But b w w'))
  (_yb : -600000 ≤ Y ∧ Y ≤ 2300000) (_ob : -840 ≤ OF ∧ OF ≤ 840) (_mb : 1 ≤ M ∧ M ≤ 12) (he : ((R.e : Int) != 0) = false) (y1 : 2000 ≤ Y) (y2 : 2199 < Y) :
  Calls Tryz.prog 91 #[.string ⟨t.toArray⟩] w fun e w' => e = .returned (.tuple #[.int .i64 0, .int .i64 A5, .int .i64 2]) ∧ Below w.heap.size w w' := by
 go_enter Tryz.func91, Tryz.ntmps91
 go_wp2_with fail
 refine (HR.out w.heap.size _ (scn_new w t 0)).mono ?_; rintro e w2 ⟨rfl, S2, B2⟩
 have hB2 : Below w.heap.size w w2 := ((Below.refl w.heap.size w).alloc (Nat.le_refl _) _).trans (B2.below (Nat.le_refl _) (by simp))
 clear HR B2
 have S2' := Lib.hid S2; clear S2
 go_upto_region 5 with (fail)
 obtain ⟨w3, hw3⟩ : ∃ w3, w3 = w2.alloc (.cells #[.int .i64 Y, .int .i64 M, .int .i64 D, .int .i64 H, .int .i64 N, .int .i64 WD, .int .i64 SE, .int .i64 OF, .int .i64 A1, .int .i64 A5, .int .i64 A7, .int .i64 A9, .int .i64 AS] 172) := ⟨_, rfl⟩
 have K3 : w3.heap[w2.heap.size]? = some (.cells #[.int .i64 Y, .int .i64 M, .int .i64 D, .int .i64 H, .int .i64 N, .int .i64 WD, .int .i64 SE, .int .i64 OF, .int .i64 A1, .int .i64 A5, .int .i64 A7, .int .i64 A9, .int .i64 AS] 172 (0, 0)) := by rw [hw3]; exact blk_new _ _
 have B3 : Below w2.heap.size w2 w3 := by rw [hw3]; exact (Below.refl _ _).alloc (Nat.le_refl _) _
 rw [← hw3]
 have S3 := S2'.out.below B3
 have hB3 := hB2.trans (B3.mono hB2.size)
 clear hw3 S2' hB2 B3
 generalize w2.heap.size = q at *
 have sc1 := S3.c1
 have sc2 := S3.c2
 have c0 : w3.cell? ⟨q, 0, none⟩ = some (.int .i64 Y) := blk_cell K3 0
 have c1 : w3.cell? ⟨q, 1, none⟩ = some (.int .i64 M) := blk_cell K3 1
 have c2 : w3.cell? ⟨q, 2, none⟩ = some (.int .i64 D) := blk_cell K3 2
 have c3 : w3.cell? ⟨q, 3, none⟩ = some (.int .i64 H) := blk_cell K3 3
 have c4 : w3.cell? ⟨q, 4, none⟩ = some (.int .i64 N) := blk_cell K3 4
 have c5 : w3.cell? ⟨q, 5, none⟩ = some (.int .i64 WD) := blk_cell K3 5
 have c6 : w3.cell? ⟨q, 6, none⟩ = some (.int .i64 SE) := blk_cell K3 6
 have c7 : w3.cell? ⟨q, 7, none⟩ = some (.int .i64 OF) := blk_cell K3 7
 have c8 : w3.cell? ⟨q, 8, none⟩ = some (.int .i64 A1) := blk_cell K3 8
 have c9 : w3.cell? ⟨q, 9, none⟩ = some (.int .i64 A5) := blk_cell K3 9
 have c10 : w3.cell? ⟨q, 10, none⟩ = some (.int .i64 A7) := blk_cell K3 10
 have c11 : w3.cell? ⟨q, 11, none⟩ = some (.int .i64 A9) := blk_cell K3 11
 have c12 : w3.cell? ⟨q, 12, none⟩ = some (.int .i64 AS) := blk_cell K3 12
 have K3' := Lib.hid K3
 clear K3 S3
 go_wp2_with fail
 go_quiet (fail)
 go_wp2_with fail
 go_ret3
 exact ⟨rfl, Below.drewN _ hB3⟩
set_option maxRecDepth 100000 in
set_option maxHeartbeats 800000 in
theorem parse_d1 (t : List UInt8) (w : World) (Y M D H N WD SE OF A1 A5 A7 A9 AS : Int) (R : St) (hl : t.length ≤ 64)
  (HR : Hid (∀ (b : Nat) (w : World), Scn w b t ⟨0, 0⟩ → Calls Tryz.prog 124 #[.pointer (some ⟨b, 0, none⟩)] w fun e w' => e = .returned (.agg #[.int .i64 Y, .int .i64 M, .int .i64 D, .int .i64 H, .int .i64 N, .int .i64 WD, .int .i64 SE, .int .i64 OF, .int .i64 A1, .int .i64 A5, .int .i64 A7, .int .i64 A9, .int .i64 AS]) ∧ Scn w' b t R ∧ But b w w'))
  (yb : -600000 ≤ Y ∧ Y ≤ 2300000) (_ob : -840 ≤ OF ∧ OF ≤ 840) (_mb : 1 ≤ M ∧ M ≤ 12) (he : ((R.e : Int) != 0) = false) (y1 : 2000 ≤ Y) (y2 : Y ≤ 2199) (d1 : D < 1) :
  Calls Tryz.prog 91 #[.string ⟨t.toArray⟩] w fun e w' => e = .returned (.tuple #[.int .i64 0, .int .i64 A1, .int .i64 13]) ∧ Below w.heap.size w w' := by
 go_enter Tryz.func91, Tryz.ntmps91
 go_wp2_with fail
 refine (HR.out w.heap.size _ (scn_new w t 0)).mono ?_; rintro e w2 ⟨rfl, S2, B2⟩
 have hB2 : Below w.heap.size w w2 := ((Below.refl w.heap.size w).alloc (Nat.le_refl _) _).trans (B2.below (Nat.le_refl _) (by simp))
 clear HR B2
 have S2' := Lib.hid S2; clear S2
 go_upto_region 5 with (fail)
 obtain ⟨w3, hw3⟩ : ∃ w3, w3 = w2.alloc (.cells #[.int .i64 Y, .int .i64 M, .int .i64 D, .int .i64 H, .int .i64 N, .int .i64 WD, .int .i64 SE, .int .i64 OF, .int .i64 A1, .int .i64 A5, .int .i64 A7, .int .i64 A9, .int .i64 AS] 172) := ⟨_, rfl⟩
 have K3 : w3.heap[w2.heap.size]? = some (.cells #[.int .i64 Y, .int .i64 M, .int .i64 D, .int .i64 H, .int .i64 N, .int .i64 WD, .int .i64 SE, .int .i64 OF, .int .i64 A1, .int .i64 A5, .int .i64 A7, .int .i64 A9, .int .i64 AS] 172 (0, 0)) := by rw [hw3]; exact blk_new _ _
 have B3 : Below w2.heap.size w2 w3 := by rw [hw3]; exact (Below.refl _ _).alloc (Nat.le_refl _) _
 rw [← hw3]
 have S3 := S2'.out.below B3
 have hB3 := hB2.trans (B3.mono hB2.size)
 clear hw3 S2' hB2 B3
 generalize w2.heap.size = q at *
 have sc1 := S3.c1
 have sc2 := S3.c2
 have c0 : w3.cell? ⟨q, 0, none⟩ = some (.int .i64 Y) := blk_cell K3 0
 have c1 : w3.cell? ⟨q, 1, none⟩ = some (.int .i64 M) := blk_cell K3 1
 have c2 : w3.cell? ⟨q, 2, none⟩ = some (.int .i64 D) := blk_cell K3 2
 have c3 : w3.cell? ⟨q, 3, none⟩ = some (.int .i64 H) := blk_cell K3 3
 have c4 : w3.cell? ⟨q, 4, none⟩ = some (.int .i64 N) := blk_cell K3 4
 have c5 : w3.cell? ⟨q, 5, none⟩ = some (.int .i64 WD) := blk_cell K3 5
 have c6 : w3.cell? ⟨q, 6, none⟩ = some (.int .i64 SE) := blk_cell K3 6
 have c7 : w3.cell? ⟨q, 7, none⟩ = some (.int .i64 OF) := blk_cell K3 7
 have c8 : w3.cell? ⟨q, 8, none⟩ = some (.int .i64 A1) := blk_cell K3 8
 have c9 : w3.cell? ⟨q, 9, none⟩ = some (.int .i64 A5) := blk_cell K3 9
 have c10 : w3.cell? ⟨q, 10, none⟩ = some (.int .i64 A7) := blk_cell K3 10
 have c11 : w3.cell? ⟨q, 11, none⟩ = some (.int .i64 A9) := blk_cell K3 11
 have c12 : w3.cell? ⟨q, 12, none⟩ = some (.int .i64 AS) := blk_cell K3 12
 have K3' := Lib.hid K3
 clear K3 S3
 go_wp2_with fail
 go_quiet ((go_at_call 125; exact Calls.quiet_of_same (by refine (monthDays_any _ _ _ (by omega) (by omega)).mono ?_; rintro e w' ⟨rfl, rfl⟩; exact ⟨rfl, rfl⟩)))
 go_wp2_with fail
 go_quiet (fail)
 go_wp2_with fail
 go_ret3
 exact ⟨rfl, Below.drewN _ (Below.drewN _ hB3)⟩
set_option maxRecDepth 100000 in
set_option maxHeartbeats 800000 in
theorem parse_d2 (t : List UInt8) (w : World) (Y M D H N WD SE OF A1 A5 A7 A9 AS : Int) (R : St) (hl : t.length ≤ 64)
  (HR : Hid (∀ (b : Nat) (w : World), Scn w b t ⟨0, 0⟩ → Calls Tryz.prog 124 #[.pointer (some ⟨b, 0, none⟩)] w fun e w' => e = .returned (.agg #[.int .i64 Y, .int .i64 M, .int .i64 D, .int .i64 H, .int .i64 N, .int .i64 WD, .int .i64 SE, .int .i64 OF, .int .i64 A1, .int .i64 A5, .int .i64 A7, .int .i64 A9, .int .i64 AS]) ∧ Scn w' b t R ∧ But b w w'))
  (yb : -600000 ≤ Y ∧ Y ≤ 2300000) (_ob : -840 ≤ OF ∧ OF ≤ 840) (_mb : 1 ≤ M ∧ M ≤ 12) (he : ((R.e : Int) != 0) = false) (y1 : 2000 ≤ Y) (y2 : Y ≤ 2199) (d1 : 1 ≤ D) (d2 : md (Y) (M) < D) :
  Calls Tryz.prog 91 #[.string ⟨t.toArray⟩] w fun e w' => e = .returned (.tuple #[.int .i64 0, .int .i64 A1, .int .i64 13]) ∧ Below w.heap.size w w' := by
 go_enter Tryz.func91, Tryz.ntmps91
 go_wp2_with fail
 refine (HR.out w.heap.size _ (scn_new w t 0)).mono ?_; rintro e w2 ⟨rfl, S2, B2⟩
 have hB2 : Below w.heap.size w w2 := ((Below.refl w.heap.size w).alloc (Nat.le_refl _) _).trans (B2.below (Nat.le_refl _) (by simp))
 clear HR B2
 have S2' := Lib.hid S2; clear S2
 go_upto_region 5 with (fail)
 obtain ⟨w3, hw3⟩ : ∃ w3, w3 = w2.alloc (.cells #[.int .i64 Y, .int .i64 M, .int .i64 D, .int .i64 H, .int .i64 N, .int .i64 WD, .int .i64 SE, .int .i64 OF, .int .i64 A1, .int .i64 A5, .int .i64 A7, .int .i64 A9, .int .i64 AS] 172) := ⟨_, rfl⟩
 have K3 : w3.heap[w2.heap.size]? = some (.cells #[.int .i64 Y, .int .i64 M, .int .i64 D, .int .i64 H, .int .i64 N, .int .i64 WD, .int .i64 SE, .int .i64 OF, .int .i64 A1, .int .i64 A5, .int .i64 A7, .int .i64 A9, .int .i64 AS] 172 (0, 0)) := by rw [hw3]; exact blk_new _ _
 have B3 : Below w2.heap.size w2 w3 := by rw [hw3]; exact (Below.refl _ _).alloc (Nat.le_refl _) _
 rw [← hw3]
 have S3 := S2'.out.below B3
 have hB3 := hB2.trans (B3.mono hB2.size)
 clear hw3 S2' hB2 B3
 generalize w2.heap.size = q at *
 have sc1 := S3.c1
 have sc2 := S3.c2
 have c0 : w3.cell? ⟨q, 0, none⟩ = some (.int .i64 Y) := blk_cell K3 0
 have c1 : w3.cell? ⟨q, 1, none⟩ = some (.int .i64 M) := blk_cell K3 1
 have c2 : w3.cell? ⟨q, 2, none⟩ = some (.int .i64 D) := blk_cell K3 2
 have c3 : w3.cell? ⟨q, 3, none⟩ = some (.int .i64 H) := blk_cell K3 3
 have c4 : w3.cell? ⟨q, 4, none⟩ = some (.int .i64 N) := blk_cell K3 4
 have c5 : w3.cell? ⟨q, 5, none⟩ = some (.int .i64 WD) := blk_cell K3 5
 have c6 : w3.cell? ⟨q, 6, none⟩ = some (.int .i64 SE) := blk_cell K3 6
 have c7 : w3.cell? ⟨q, 7, none⟩ = some (.int .i64 OF) := blk_cell K3 7
 have c8 : w3.cell? ⟨q, 8, none⟩ = some (.int .i64 A1) := blk_cell K3 8
 have c9 : w3.cell? ⟨q, 9, none⟩ = some (.int .i64 A5) := blk_cell K3 9
 have c10 : w3.cell? ⟨q, 10, none⟩ = some (.int .i64 A7) := blk_cell K3 10
 have c11 : w3.cell? ⟨q, 11, none⟩ = some (.int .i64 A9) := blk_cell K3 11
 have c12 : w3.cell? ⟨q, 12, none⟩ = some (.int .i64 AS) := blk_cell K3 12
 have K3' := Lib.hid K3
 clear K3 S3
 go_wp2_with fail
 go_quiet ((go_at_call 125; exact Calls.quiet_of_same (by refine (monthDays_any _ _ _ (by omega) (by omega)).mono ?_; rintro e w' ⟨rfl, rfl⟩; exact ⟨rfl, rfl⟩)))
 go_wp2_with fail
 go_quiet (fail)
 go_wp2_with fail
 go_ret3
 exact ⟨rfl, Below.drewN _ (Below.drewN _ hB3)⟩
set_option maxRecDepth 100000 in
set_option maxHeartbeats 800000 in
theorem parse_h (t : List UInt8) (w : World) (Y M D H N WD SE OF A1 A5 A7 A9 AS : Int) (R : St) (hl : t.length ≤ 64)
  (HR : Hid (∀ (b : Nat) (w : World), Scn w b t ⟨0, 0⟩ → Calls Tryz.prog 124 #[.pointer (some ⟨b, 0, none⟩)] w fun e w' => e = .returned (.agg #[.int .i64 Y, .int .i64 M, .int .i64 D, .int .i64 H, .int .i64 N, .int .i64 WD, .int .i64 SE, .int .i64 OF, .int .i64 A1, .int .i64 A5, .int .i64 A7, .int .i64 A9, .int .i64 AS]) ∧ Scn w' b t R ∧ But b w w'))
  (yb : -600000 ≤ Y ∧ Y ≤ 2300000) (_ob : -840 ≤ OF ∧ OF ≤ 840) (_mb : 1 ≤ M ∧ M ≤ 12) (he : ((R.e : Int) != 0) = false) (y1 : 2000 ≤ Y) (y2 : Y ≤ 2199) (d1 : 1 ≤ D) (d2 : D ≤ md (Y) (M)) (h1 : 23 < H) :
  Calls Tryz.prog 91 #[.string ⟨t.toArray⟩] w fun e w' => e = .returned (.tuple #[.int .i64 0, .int .i64 A7, .int .i64 13]) ∧ Below w.heap.size w w' := by
 go_enter Tryz.func91, Tryz.ntmps91
 go_wp2_with fail
 refine (HR.out w.heap.size _ (scn_new w t 0)).mono ?_; rintro e w2 ⟨rfl, S2, B2⟩
 have hB2 : Below w.heap.size w w2 := ((Below.refl w.heap.size w).alloc (Nat.le_refl _) _).trans (B2.below (Nat.le_refl _) (by simp))
 clear HR B2
 have S2' := Lib.hid S2; clear S2
 go_upto_region 5 with (fail)
 obtain ⟨w3, hw3⟩ : ∃ w3, w3 = w2.alloc (.cells #[.int .i64 Y, .int .i64 M, .int .i64 D, .int .i64 H, .int .i64 N, .int .i64 WD, .int .i64 SE, .int .i64 OF, .int .i64 A1, .int .i64 A5, .int .i64 A7, .int .i64 A9, .int .i64 AS] 172) := ⟨_, rfl⟩
 have K3 : w3.heap[w2.heap.size]? = some (.cells #[.int .i64 Y, .int .i64 M, .int .i64 D, .int .i64 H, .int .i64 N, .int .i64 WD, .int .i64 SE, .int .i64 OF, .int .i64 A1, .int .i64 A5, .int .i64 A7, .int .i64 A9, .int .i64 AS] 172 (0, 0)) := by rw [hw3]; exact blk_new _ _
 have B3 : Below w2.heap.size w2 w3 := by rw [hw3]; exact (Below.refl _ _).alloc (Nat.le_refl _) _
 rw [← hw3]
 have S3 := S2'.out.below B3
 have hB3 := hB2.trans (B3.mono hB2.size)
 clear hw3 S2' hB2 B3
 generalize w2.heap.size = q at *
 have sc1 := S3.c1
 have sc2 := S3.c2
 have c0 : w3.cell? ⟨q, 0, none⟩ = some (.int .i64 Y) := blk_cell K3 0
 have c1 : w3.cell? ⟨q, 1, none⟩ = some (.int .i64 M) := blk_cell K3 1
 have c2 : w3.cell? ⟨q, 2, none⟩ = some (.int .i64 D) := blk_cell K3 2
 have c3 : w3.cell? ⟨q, 3, none⟩ = some (.int .i64 H) := blk_cell K3 3
 have c4 : w3.cell? ⟨q, 4, none⟩ = some (.int .i64 N) := blk_cell K3 4
 have c5 : w3.cell? ⟨q, 5, none⟩ = some (.int .i64 WD) := blk_cell K3 5
 have c6 : w3.cell? ⟨q, 6, none⟩ = some (.int .i64 SE) := blk_cell K3 6
 have c7 : w3.cell? ⟨q, 7, none⟩ = some (.int .i64 OF) := blk_cell K3 7
 have c8 : w3.cell? ⟨q, 8, none⟩ = some (.int .i64 A1) := blk_cell K3 8
 have c9 : w3.cell? ⟨q, 9, none⟩ = some (.int .i64 A5) := blk_cell K3 9
 have c10 : w3.cell? ⟨q, 10, none⟩ = some (.int .i64 A7) := blk_cell K3 10
 have c11 : w3.cell? ⟨q, 11, none⟩ = some (.int .i64 A9) := blk_cell K3 11
 have c12 : w3.cell? ⟨q, 12, none⟩ = some (.int .i64 AS) := blk_cell K3 12
 have K3' := Lib.hid K3
 clear K3 S3
 go_wp2_with fail
 go_quiet ((go_at_call 125; exact Calls.quiet_of_same (by refine (monthDays_any _ _ _ (by omega) (by omega)).mono ?_; rintro e w' ⟨rfl, rfl⟩; exact ⟨rfl, rfl⟩)))
 go_wp2_with fail
 go_quiet (fail)
 go_wp2_with fail
 go_ret3
 exact ⟨rfl, Below.drewN _ (Below.drewN _ hB3)⟩
set_option maxRecDepth 100000 in
set_option maxHeartbeats 800000 in
theorem parse_n (t : List UInt8) (w : World) (Y M D H N WD SE OF A1 A5 A7 A9 AS : Int) (R : St) (hl : t.length ≤ 64)
  (HR : Hid (∀ (b : Nat) (w : World), Scn w b t ⟨0, 0⟩ → Calls Tryz.prog 124 #[.pointer (some ⟨b, 0, none⟩)] w fun e w' => e = .returned (.agg #[.int .i64 Y, .int .i64 M, .int .i64 D, .int .i64 H, .int .i64 N, .int .i64 WD, .int .i64 SE, .int .i64 OF, .int .i64 A1, .int .i64 A5, .int .i64 A7, .int .i64 A9, .int .i64 AS]) ∧ Scn w' b t R ∧ But b w w'))
  (yb : -600000 ≤ Y ∧ Y ≤ 2300000) (_ob : -840 ≤ OF ∧ OF ≤ 840) (_mb : 1 ≤ M ∧ M ≤ 12) (he : ((R.e : Int) != 0) = false) (y1 : 2000 ≤ Y) (y2 : Y ≤ 2199) (d1 : 1 ≤ D) (d2 : D ≤ md (Y) (M)) (h1 : H ≤ 23) (n1 : 59 < N) :
  Calls Tryz.prog 91 #[.string ⟨t.toArray⟩] w fun e w' => e = .returned (.tuple #[.int .i64 0, .int .i64 A9, .int .i64 13]) ∧ Below w.heap.size w w' := by
 go_enter Tryz.func91, Tryz.ntmps91
 go_wp2_with fail
 refine (HR.out w.heap.size _ (scn_new w t 0)).mono ?_; rintro e w2 ⟨rfl, S2, B2⟩
 have hB2 : Below w.heap.size w w2 := ((Below.refl w.heap.size w).alloc (Nat.le_refl _) _).trans (B2.below (Nat.le_refl _) (by simp))
 clear HR B2
 have S2' := Lib.hid S2; clear S2
 go_upto_region 5 with (fail)
 obtain ⟨w3, hw3⟩ : ∃ w3, w3 = w2.alloc (.cells #[.int .i64 Y, .int .i64 M, .int .i64 D, .int .i64 H, .int .i64 N, .int .i64 WD, .int .i64 SE, .int .i64 OF, .int .i64 A1, .int .i64 A5, .int .i64 A7, .int .i64 A9, .int .i64 AS] 172) := ⟨_, rfl⟩
 have K3 : w3.heap[w2.heap.size]? = some (.cells #[.int .i64 Y, .int .i64 M, .int .i64 D, .int .i64 H, .int .i64 N, .int .i64 WD, .int .i64 SE, .int .i64 OF, .int .i64 A1, .int .i64 A5, .int .i64 A7, .int .i64 A9, .int .i64 AS] 172 (0, 0)) := by rw [hw3]; exact blk_new _ _
 have B3 : Below w2.heap.size w2 w3 := by rw [hw3]; exact (Below.refl _ _).alloc (Nat.le_refl _) _
 rw [← hw3]
 have S3 := S2'.out.below B3
 have hB3 := hB2.trans (B3.mono hB2.size)
 clear hw3 S2' hB2 B3
 generalize w2.heap.size = q at *
 have sc1 := S3.c1
 have sc2 := S3.c2
 have c0 : w3.cell? ⟨q, 0, none⟩ = some (.int .i64 Y) := blk_cell K3 0
 have c1 : w3.cell? ⟨q, 1, none⟩ = some (.int .i64 M) := blk_cell K3 1
 have c2 : w3.cell? ⟨q, 2, none⟩ = some (.int .i64 D) := blk_cell K3 2
 have c3 : w3.cell? ⟨q, 3, none⟩ = some (.int .i64 H) := blk_cell K3 3
 have c4 : w3.cell? ⟨q, 4, none⟩ = some (.int .i64 N) := blk_cell K3 4
 have c5 : w3.cell? ⟨q, 5, none⟩ = some (.int .i64 WD) := blk_cell K3 5
 have c6 : w3.cell? ⟨q, 6, none⟩ = some (.int .i64 SE) := blk_cell K3 6
 have c7 : w3.cell? ⟨q, 7, none⟩ = some (.int .i64 OF) := blk_cell K3 7
 have c8 : w3.cell? ⟨q, 8, none⟩ = some (.int .i64 A1) := blk_cell K3 8
 have c9 : w3.cell? ⟨q, 9, none⟩ = some (.int .i64 A5) := blk_cell K3 9
 have c10 : w3.cell? ⟨q, 10, none⟩ = some (.int .i64 A7) := blk_cell K3 10
 have c11 : w3.cell? ⟨q, 11, none⟩ = some (.int .i64 A9) := blk_cell K3 11
 have c12 : w3.cell? ⟨q, 12, none⟩ = some (.int .i64 AS) := blk_cell K3 12
 have K3' := Lib.hid K3
 clear K3 S3
 go_wp2_with fail
 go_quiet ((go_at_call 125; exact Calls.quiet_of_same (by refine (monthDays_any _ _ _ (by omega) (by omega)).mono ?_; rintro e w' ⟨rfl, rfl⟩; exact ⟨rfl, rfl⟩)))
 go_wp2_with fail
 go_quiet (fail)
 go_wp2_with fail
 go_ret3
 exact ⟨rfl, Below.drewN _ (Below.drewN _ hB3)⟩
set_option maxRecDepth 100000 in
set_option maxHeartbeats 800000 in
theorem parse_s (t : List UInt8) (w : World) (Y M D H N WD SE OF A1 A5 A7 A9 AS : Int) (R : St) (hl : t.length ≤ 64)
  (HR : Hid (∀ (b : Nat) (w : World), Scn w b t ⟨0, 0⟩ → Calls Tryz.prog 124 #[.pointer (some ⟨b, 0, none⟩)] w fun e w' => e = .returned (.agg #[.int .i64 Y, .int .i64 M, .int .i64 D, .int .i64 H, .int .i64 N, .int .i64 WD, .int .i64 SE, .int .i64 OF, .int .i64 A1, .int .i64 A5, .int .i64 A7, .int .i64 A9, .int .i64 AS]) ∧ Scn w' b t R ∧ But b w w'))
  (yb : -600000 ≤ Y ∧ Y ≤ 2300000) (_ob : -840 ≤ OF ∧ OF ≤ 840) (_mb : 1 ≤ M ∧ M ≤ 12) (he : ((R.e : Int) != 0) = false) (y1 : 2000 ≤ Y) (y2 : Y ≤ 2199) (d1 : 1 ≤ D) (d2 : D ≤ md (Y) (M)) (h1 : H ≤ 23) (n1 : N ≤ 59) (s1 : 60 < SE) :
  Calls Tryz.prog 91 #[.string ⟨t.toArray⟩] w fun e w' => e = .returned (.tuple #[.int .i64 0, .int .i64 (AS), .int .i64 13]) ∧ Below w.heap.size w w' := by
 go_enter Tryz.func91, Tryz.ntmps91
 go_wp2_with fail
 refine (HR.out w.heap.size _ (scn_new w t 0)).mono ?_; rintro e w2 ⟨rfl, S2, B2⟩
 have hB2 : Below w.heap.size w w2 := ((Below.refl w.heap.size w).alloc (Nat.le_refl _) _).trans (B2.below (Nat.le_refl _) (by simp))
 clear HR B2
 have S2' := Lib.hid S2; clear S2
 go_upto_region 5 with (fail)
 obtain ⟨w3, hw3⟩ : ∃ w3, w3 = w2.alloc (.cells #[.int .i64 Y, .int .i64 M, .int .i64 D, .int .i64 H, .int .i64 N, .int .i64 WD, .int .i64 SE, .int .i64 OF, .int .i64 A1, .int .i64 A5, .int .i64 A7, .int .i64 A9, .int .i64 AS] 172) := ⟨_, rfl⟩
 have K3 : w3.heap[w2.heap.size]? = some (.cells #[.int .i64 Y, .int .i64 M, .int .i64 D, .int .i64 H, .int .i64 N, .int .i64 WD, .int .i64 SE, .int .i64 OF, .int .i64 A1, .int .i64 A5, .int .i64 A7, .int .i64 A9, .int .i64 AS] 172 (0, 0)) := by rw [hw3]; exact blk_new _ _
 have B3 : Below w2.heap.size w2 w3 := by rw [hw3]; exact (Below.refl _ _).alloc (Nat.le_refl _) _
 rw [← hw3]
 have S3 := S2'.out.below B3
 have hB3 := hB2.trans (B3.mono hB2.size)
 clear hw3 S2' hB2 B3
 generalize w2.heap.size = q at *
 have sc1 := S3.c1
 have sc2 := S3.c2
 have c0 : w3.cell? ⟨q, 0, none⟩ = some (.int .i64 Y) := blk_cell K3 0
 have c1 : w3.cell? ⟨q, 1, none⟩ = some (.int .i64 M) := blk_cell K3 1
 have c2 : w3.cell? ⟨q, 2, none⟩ = some (.int .i64 D) := blk_cell K3 2
 have c3 : w3.cell? ⟨q, 3, none⟩ = some (.int .i64 H) := blk_cell K3 3
 have c4 : w3.cell? ⟨q, 4, none⟩ = some (.int .i64 N) := blk_cell K3 4
 have c5 : w3.cell? ⟨q, 5, none⟩ = some (.int .i64 WD) := blk_cell K3 5
 have c6 : w3.cell? ⟨q, 6, none⟩ = some (.int .i64 SE) := blk_cell K3 6
 have c7 : w3.cell? ⟨q, 7, none⟩ = some (.int .i64 OF) := blk_cell K3 7
 have c8 : w3.cell? ⟨q, 8, none⟩ = some (.int .i64 A1) := blk_cell K3 8
 have c9 : w3.cell? ⟨q, 9, none⟩ = some (.int .i64 A5) := blk_cell K3 9
 have c10 : w3.cell? ⟨q, 10, none⟩ = some (.int .i64 A7) := blk_cell K3 10
 have c11 : w3.cell? ⟨q, 11, none⟩ = some (.int .i64 A9) := blk_cell K3 11
 have c12 : w3.cell? ⟨q, 12, none⟩ = some (.int .i64 AS) := blk_cell K3 12
 have K3' := Lib.hid K3
 clear K3 S3
 go_wp2_with fail
 go_quiet ((go_at_call 125; exact Calls.quiet_of_same (by refine (monthDays_any _ _ _ (by omega) (by omega)).mono ?_; rintro e w' ⟨rfl, rfl⟩; exact ⟨rfl, rfl⟩)))
 go_wp2_with fail
 go_quiet (fail)
 go_wp2_with fail
 go_ret3
 exact ⟨rfl, Below.drewN _ (Below.drewN _ hB3)⟩
set_option maxRecDepth 100000 in
set_option maxHeartbeats 800000 in
theorem parse_w (t : List UInt8) (w : World) (Y M D H N WD SE OF A1 A5 A7 A9 AS : Int) (R : St) (hl : t.length ≤ 64)
  (HR : Hid (∀ (b : Nat) (w : World), Scn w b t ⟨0, 0⟩ → Calls Tryz.prog 124 #[.pointer (some ⟨b, 0, none⟩)] w fun e w' => e = .returned (.agg #[.int .i64 Y, .int .i64 M, .int .i64 D, .int .i64 H, .int .i64 N, .int .i64 WD, .int .i64 SE, .int .i64 OF, .int .i64 A1, .int .i64 A5, .int .i64 A7, .int .i64 A9, .int .i64 AS]) ∧ Scn w' b t R ∧ But b w w'))
  (yb : -600000 ≤ Y ∧ Y ≤ 2300000) (_ob : -840 ≤ OF ∧ OF ≤ 840) (mb : 1 ≤ M ∧ M ≤ 12) (he : ((R.e : Int) != 0) = false) (y1 : 2000 ≤ Y) (y2 : Y ≤ 2199) (d1 : 1 ≤ D) (d2 : D ≤ md (Y) (M)) (h0 : 0 ≤ H) (h1 : H ≤ 23) (n0 : 0 ≤ N) (n1 : N ≤ 59) (s1 : SE ≤ 60) (w0 : 0 ≤ WD) (wn : (WD != ((dayNum (Y) (M) (D) * 1440 + H * 60 + N) / 1440 + 5) % 7) = true) :
  Calls Tryz.prog 91 #[.string ⟨t.toArray⟩] w fun e w' => e = .returned (.tuple #[.int .i64 0, .int .i64 0, .int .i64 13]) ∧ Below w.heap.size w w' := by
 go_enter Tryz.func91, Tryz.ntmps91
 go_wp2_with fail
 refine (HR.out w.heap.size _ (scn_new w t 0)).mono ?_; rintro e w2 ⟨rfl, S2, B2⟩
 have hB2 : Below w.heap.size w w2 := ((Below.refl w.heap.size w).alloc (Nat.le_refl _) _).trans (B2.below (Nat.le_refl _) (by simp))
 clear HR B2
 have S2' := Lib.hid S2; clear S2
 go_upto_region 5 with (fail)
 obtain ⟨w3, hw3⟩ : ∃ w3, w3 = w2.alloc (.cells #[.int .i64 Y, .int .i64 M, .int .i64 D, .int .i64 H, .int .i64 N, .int .i64 WD, .int .i64 SE, .int .i64 OF, .int .i64 A1, .int .i64 A5, .int .i64 A7, .int .i64 A9, .int .i64 AS] 172) := ⟨_, rfl⟩
 have K3 : w3.heap[w2.heap.size]? = some (.cells #[.int .i64 Y, .int .i64 M, .int .i64 D, .int .i64 H, .int .i64 N, .int .i64 WD, .int .i64 SE, .int .i64 OF, .int .i64 A1, .int .i64 A5, .int .i64 A7, .int .i64 A9, .int .i64 AS] 172 (0, 0)) := by rw [hw3]; exact blk_new _ _
 have B3 : Below w2.heap.size w2 w3 := by rw [hw3]; exact (Below.refl _ _).alloc (Nat.le_refl _) _
 rw [← hw3]
 have S3 := S2'.out.below B3
 have hB3 := hB2.trans (B3.mono hB2.size)
 clear hw3 S2' hB2 B3
 generalize w2.heap.size = q at *
 have sc1 := S3.c1
 have sc2 := S3.c2
 have c0 : w3.cell? ⟨q, 0, none⟩ = some (.int .i64 Y) := blk_cell K3 0
 have c1 : w3.cell? ⟨q, 1, none⟩ = some (.int .i64 M) := blk_cell K3 1
 have c2 : w3.cell? ⟨q, 2, none⟩ = some (.int .i64 D) := blk_cell K3 2
 have c3 : w3.cell? ⟨q, 3, none⟩ = some (.int .i64 H) := blk_cell K3 3
 have c4 : w3.cell? ⟨q, 4, none⟩ = some (.int .i64 N) := blk_cell K3 4
 have c5 : w3.cell? ⟨q, 5, none⟩ = some (.int .i64 WD) := blk_cell K3 5
 have c6 : w3.cell? ⟨q, 6, none⟩ = some (.int .i64 SE) := blk_cell K3 6
 have c7 : w3.cell? ⟨q, 7, none⟩ = some (.int .i64 OF) := blk_cell K3 7
 have c8 : w3.cell? ⟨q, 8, none⟩ = some (.int .i64 A1) := blk_cell K3 8
 have c9 : w3.cell? ⟨q, 9, none⟩ = some (.int .i64 A5) := blk_cell K3 9
 have c10 : w3.cell? ⟨q, 10, none⟩ = some (.int .i64 A7) := blk_cell K3 10
 have c11 : w3.cell? ⟨q, 11, none⟩ = some (.int .i64 A9) := blk_cell K3 11
 have c12 : w3.cell? ⟨q, 12, none⟩ = some (.int .i64 AS) := blk_cell K3 12
 have K3' := Lib.hid K3
 clear K3 S3
 go_wp2_with fail
 go_quiet ((go_at_call 125; exact Calls.quiet_of_same (by refine (monthDays_any _ _ _ (by omega) (by omega)).mono ?_; rintro e w' ⟨rfl, rfl⟩; exact ⟨rfl, rfl⟩)))
 go_wp2_with fail
 refine (fromCivil_yes _ _ _ _ _ _ (by omega) (by omega) (by omega) (by omega) (by omega) (by omega) (by omega) (by omega) (by omega) (by omega)).mono ?_
 rintro e w5 ⟨rfl, b5⟩
 have dnb := dayNum_bd y1 y2 mb.1 mb.2 d1 d2
 have hB5 : Below w.heap.size w w5 := (Below.drewN _ hB3).trans (b5.mono (Below.drewN _ hB3).size)
 have k5 : w5.cell? ⟨q, 5, none⟩ = some (.int .i64 WD) := Below.cellv b5 c5
 have k7 : w5.cell? ⟨q, 7, none⟩ = some (.int .i64 OF) := Below.cellv b5 c7
 clear c0 c1 c2 c3 c4 c5 c6 c7 c8 c9 c10 c11 c12 sc1 sc2 b5 hB3 K3'
 have LL : Hid (dayNum Y M D * 1440 + H * 60 + N = dayNum Y M D * 1440 + H * 60 + N) := rfl
 generalize hDN : dayNum Y M D = DN at *
 have HDN := Lib.hid hDN; clear hDN
 go_wp2_with fail
 refine (weekday_yes _ _ (by omega) (by omega)).mono ?_; rintro e w6 ⟨rfl, rfl⟩
 go_wp2_with fail
 go_ret3
 exact ⟨rfl, hB5⟩
set_option maxRecDepth 100000 in
set_option maxHeartbeats 800000 in
theorem parse_ra (t : List UInt8) (w : World) (Y M D H N WD SE OF A1 A5 A7 A9 AS : Int) (R : St) (hl : t.length ≤ 64)
  (HR : Hid (∀ (b : Nat) (w : World), Scn w b t ⟨0, 0⟩ → Calls Tryz.prog 124 #[.pointer (some ⟨b, 0, none⟩)] w fun e w' => e = .returned (.agg #[.int .i64 Y, .int .i64 M, .int .i64 D, .int .i64 H, .int .i64 N, .int .i64 WD, .int .i64 SE, .int .i64 OF, .int .i64 A1, .int .i64 A5, .int .i64 A7, .int .i64 A9, .int .i64 AS]) ∧ Scn w' b t R ∧ But b w w'))
  (yb : -600000 ≤ Y ∧ Y ≤ 2300000) (ob : -840 ≤ OF ∧ OF ≤ 840) (mb : 1 ≤ M ∧ M ≤ 12) (he : ((R.e : Int) != 0) = false) (y1 : 2000 ≤ Y) (y2 : Y ≤ 2199) (d1 : 1 ≤ D) (d2 : D ≤ md (Y) (M)) (h0 : 0 ≤ H) (h1 : H ≤ 23) (n0 : 0 ≤ N) (n1 : N ≤ 59) (s1 : SE ≤ 60) (w0 : WD < 0) (vv : vld ((dayNum (Y) (M) (D) * 1440 + H * 60 + N) - OF) = false) :
  Calls Tryz.prog 91 #[.string ⟨t.toArray⟩] w fun e w' => e = .returned (.tuple #[.int .i64 0, .int .i64 0, .int .i64 2]) ∧ Below w.heap.size w w' := by
 go_enter Tryz.func91, Tryz.ntmps91
 go_wp2_with fail
 refine (HR.out w.heap.size _ (scn_new w t 0)).mono ?_; rintro e w2 ⟨rfl, S2, B2⟩
 have hB2 : Below w.heap.size w w2 := ((Below.refl w.heap.size w).alloc (Nat.le_refl _) _).trans (B2.below (Nat.le_refl _) (by simp))
 clear HR B2
 have S2' := Lib.hid S2; clear S2
 go_upto_region 5 with (fail)
 obtain ⟨w3, hw3⟩ : ∃ w3, w3 = w2.alloc (.cells #[.int .i64 Y, .int .i64 M, .int .i64 D, .int .i64 H, .int .i64 N, .int .i64 WD, .int .i64 SE, .int .i64 OF, .int .i64 A1, .int .i64 A5, .int .i64 A7, .int .i64 A9, .int .i64 AS] 172) := ⟨_, rfl⟩
 have K3 : w3.heap[w2.heap.size]? = some (.cells #[.int .i64 Y, .int .i64 M, .int .i64 D, .int .i64 H, .int .i64 N, .int .i64 WD, .int .i64 SE, .int .i64 OF, .int .i64 A1, .int .i64 A5, .int .i64 A7, .int .i64 A9, .int .i64 AS] 172 (0, 0)) := by rw [hw3]; exact blk_new _ _
 have B3 : Below w2.heap.size w2 w3 := by rw [hw3]; exact (Below.refl _ _).alloc (Nat.le_refl _) _
 rw [← hw3]
 have S3 := S2'.out.below B3
 have hB3 := hB2.trans (B3.mono hB2.size)
 clear hw3 S2' hB2 B3
 generalize w2.heap.size = q at *
 have sc1 := S3.c1
 have sc2 := S3.c2
 have c0 : w3.cell? ⟨q, 0, none⟩ = some (.int .i64 Y) := blk_cell K3 0
 have c1 : w3.cell? ⟨q, 1, none⟩ = some (.int .i64 M) := blk_cell K3 1
 have c2 : w3.cell? ⟨q, 2, none⟩ = some (.int .i64 D) := blk_cell K3 2
 have c3 : w3.cell? ⟨q, 3, none⟩ = some (.int .i64 H) := blk_cell K3 3
 have c4 : w3.cell? ⟨q, 4, none⟩ = some (.int .i64 N) := blk_cell K3 4
 have c5 : w3.cell? ⟨q, 5, none⟩ = some (.int .i64 WD) := blk_cell K3 5
 have c6 : w3.cell? ⟨q, 6, none⟩ = some (.int .i64 SE) := blk_cell K3 6
 have c7 : w3.cell? ⟨q, 7, none⟩ = some (.int .i64 OF) := blk_cell K3 7
 have c8 : w3.cell? ⟨q, 8, none⟩ = some (.int .i64 A1) := blk_cell K3 8
 have c9 : w3.cell? ⟨q, 9, none⟩ = some (.int .i64 A5) := blk_cell K3 9
 have c10 : w3.cell? ⟨q, 10, none⟩ = some (.int .i64 A7) := blk_cell K3 10
 have c11 : w3.cell? ⟨q, 11, none⟩ = some (.int .i64 A9) := blk_cell K3 11
 have c12 : w3.cell? ⟨q, 12, none⟩ = some (.int .i64 AS) := blk_cell K3 12
 have K3' := Lib.hid K3
 clear K3 S3
 go_wp2_with fail
 go_quiet ((go_at_call 125; exact Calls.quiet_of_same (by refine (monthDays_any _ _ _ (by omega) (by omega)).mono ?_; rintro e w' ⟨rfl, rfl⟩; exact ⟨rfl, rfl⟩)))
 go_wp2_with fail
 refine (fromCivil_yes _ _ _ _ _ _ (by omega) (by omega) (by omega) (by omega) (by omega) (by omega) (by omega) (by omega) (by omega) (by omega)).mono ?_
 rintro e w5 ⟨rfl, b5⟩
 have dnb := dayNum_bd y1 y2 mb.1 mb.2 d1 d2
 have hB5 : Below w.heap.size w w5 := (Below.drewN _ hB3).trans (b5.mono (Below.drewN _ hB3).size)
 have k5 : w5.cell? ⟨q, 5, none⟩ = some (.int .i64 WD) := Below.cellv b5 c5
 have k7 : w5.cell? ⟨q, 7, none⟩ = some (.int .i64 OF) := Below.cellv b5 c7
 clear c0 c1 c2 c3 c4 c5 c6 c7 c8 c9 c10 c11 c12 sc1 sc2 b5 hB3 K3'
 have LL : Hid (dayNum Y M D * 1440 + H * 60 + N = dayNum Y M D * 1440 + H * 60 + N) := rfl
 generalize hDN : dayNum Y M D = DN at *
 have HDN := Lib.hid hDN; clear hDN
 go_wp2_with fail
 refine (weekday_yes _ _ (by omega) (by omega)).mono ?_; rintro e w6 ⟨rfl, rfl⟩
 go_wp2_with fail
 refine (valid_any _ _).mono ?_; rintro e w6 ⟨rfl, rfl⟩
 go_wp2_with fail
 go_ret3
 exact ⟨rfl, hB5⟩
set_option maxRecDepth 100000 in
set_option maxHeartbeats 800000 in
theorem parse_oa (t : List UInt8) (w : World) (Y M D H N WD SE OF A1 A5 A7 A9 AS : Int) (R : St) (hl : t.length ≤ 64)
  (HR : Hid (∀ (b : Nat) (w : World), Scn w b t ⟨0, 0⟩ → Calls Tryz.prog 124 #[.pointer (some ⟨b, 0, none⟩)] w fun e w' => e = .returned (.agg #[.int .i64 Y, .int .i64 M, .int .i64 D, .int .i64 H, .int .i64 N, .int .i64 WD, .int .i64 SE, .int .i64 OF, .int .i64 A1, .int .i64 A5, .int .i64 A7, .int .i64 A9, .int .i64 AS]) ∧ Scn w' b t R ∧ But b w w'))
  (yb : -600000 ≤ Y ∧ Y ≤ 2300000) (ob : -840 ≤ OF ∧ OF ≤ 840) (mb : 1 ≤ M ∧ M ≤ 12) (he : ((R.e : Int) != 0) = false) (y1 : 2000 ≤ Y) (y2 : Y ≤ 2199) (d1 : 1 ≤ D) (d2 : D ≤ md (Y) (M)) (h0 : 0 ≤ H) (h1 : H ≤ 23) (n0 : 0 ≤ N) (n1 : N ≤ 59) (s1 : SE ≤ 60) (w0 : WD < 0) (vv : vld ((dayNum (Y) (M) (D) * 1440 + H * 60 + N) - OF) = true) :
  Calls Tryz.prog 91 #[.string ⟨t.toArray⟩] w fun e w' => e = .returned (.tuple #[.int .i64 ((dayNum (Y) (M) (D) * 1440 + H * 60 + N) - OF), .int .i64 0, .int .i64 0]) ∧ Below w.heap.size w w' := by
 go_enter Tryz.func91, Tryz.ntmps91
 go_wp2_with fail
 refine (HR.out w.heap.size _ (scn_new w t 0)).mono ?_; rintro e w2 ⟨rfl, S2, B2⟩
 have hB2 : Below w.heap.size w w2 := ((Below.refl w.heap.size w).alloc (Nat.le_refl _) _).trans (B2.below (Nat.le_refl _) (by simp))
 clear HR B2
 have S2' := Lib.hid S2; clear S2
 go_upto_region 5 with (fail)
 obtain ⟨w3, hw3⟩ : ∃ w3, w3 = w2.alloc (.cells #[.int .i64 Y, .int .i64 M, .int .i64 D, .int .i64 H, .int .i64 N, .int .i64 WD, .int .i64 SE, .int .i64 OF, .int .i64 A1, .int .i64 A5, .int .i64 A7, .int .i64 A9, .int .i64 AS] 172) := ⟨_, rfl⟩
 have K3 : w3.heap[w2.heap.size]? = some (.cells #[.int .i64 Y, .int .i64 M, .int .i64 D, .int .i64 H, .int .i64 N, .int .i64 WD, .int .i64 SE, .int .i64 OF, .int .i64 A1, .int .i64 A5, .int .i64 A7, .int .i64 A9, .int .i64 AS] 172 (0, 0)) := by rw [hw3]; exact blk_new _ _
 have B3 : Below w2.heap.size w2 w3 := by rw [hw3]; exact (Below.refl _ _).alloc (Nat.le_refl _) _
 rw [← hw3]
 have S3 := S2'.out.below B3
 have hB3 := hB2.trans (B3.mono hB2.size)
 clear hw3 S2' hB2 B3
 generalize w2.heap.size = q at *
 have sc1 := S3.c1
 have sc2 := S3.c2
 have c0 : w3.cell? ⟨q, 0, none⟩ = some (.int .i64 Y) := blk_cell K3 0
 have c1 : w3.cell? ⟨q, 1, none⟩ = some (.int .i64 M) := blk_cell K3 1
 have c2 : w3.cell? ⟨q, 2, none⟩ = some (.int .i64 D) := blk_cell K3 2
 have c3 : w3.cell? ⟨q, 3, none⟩ = some (.int .i64 H) := blk_cell K3 3
 have c4 : w3.cell? ⟨q, 4, none⟩ = some (.int .i64 N) := blk_cell K3 4
 have c5 : w3.cell? ⟨q, 5, none⟩ = some (.int .i64 WD) := blk_cell K3 5
 have c6 : w3.cell? ⟨q, 6, none⟩ = some (.int .i64 SE) := blk_cell K3 6
 have c7 : w3.cell? ⟨q, 7, none⟩ = some (.int .i64 OF) := blk_cell K3 7
 have c8 : w3.cell? ⟨q, 8, none⟩ = some (.int .i64 A1) := blk_cell K3 8
 have c9 : w3.cell? ⟨q, 9, none⟩ = some (.int .i64 A5) := blk_cell K3 9
 have c10 : w3.cell? ⟨q, 10, none⟩ = some (.int .i64 A7) := blk_cell K3 10
 have c11 : w3.cell? ⟨q, 11, none⟩ = some (.int .i64 A9) := blk_cell K3 11
 have c12 : w3.cell? ⟨q, 12, none⟩ = some (.int .i64 AS) := blk_cell K3 12
 have K3' := Lib.hid K3
 clear K3 S3
 go_wp2_with fail
 go_quiet ((go_at_call 125; exact Calls.quiet_of_same (by refine (monthDays_any _ _ _ (by omega) (by omega)).mono ?_; rintro e w' ⟨rfl, rfl⟩; exact ⟨rfl, rfl⟩)))
 go_wp2_with fail
 refine (fromCivil_yes _ _ _ _ _ _ (by omega) (by omega) (by omega) (by omega) (by omega) (by omega) (by omega) (by omega) (by omega) (by omega)).mono ?_
 rintro e w5 ⟨rfl, b5⟩
 have dnb := dayNum_bd y1 y2 mb.1 mb.2 d1 d2
 have hB5 : Below w.heap.size w w5 := (Below.drewN _ hB3).trans (b5.mono (Below.drewN _ hB3).size)
 have k5 : w5.cell? ⟨q, 5, none⟩ = some (.int .i64 WD) := Below.cellv b5 c5
 have k7 : w5.cell? ⟨q, 7, none⟩ = some (.int .i64 OF) := Below.cellv b5 c7
 clear c0 c1 c2 c3 c4 c5 c6 c7 c8 c9 c10 c11 c12 sc1 sc2 b5 hB3 K3'
 have LL : Hid (dayNum Y M D * 1440 + H * 60 + N = dayNum Y M D * 1440 + H * 60 + N) := rfl
 generalize hDN : dayNum Y M D = DN at *
 have HDN := Lib.hid hDN; clear hDN
 go_wp2_with fail
 refine (weekday_yes _ _ (by omega) (by omega)).mono ?_; rintro e w6 ⟨rfl, rfl⟩
 go_wp2_with fail
 refine (valid_any _ _).mono ?_; rintro e w6 ⟨rfl, rfl⟩
 go_wp2_with fail
 go_ret3
 exact ⟨by rw [HDN.out]; rfl, hB5⟩
set_option maxRecDepth 100000 in
set_option maxHeartbeats 800000 in
theorem parse_rb (t : List UInt8) (w : World) (Y M D H N WD SE OF A1 A5 A7 A9 AS : Int) (R : St) (hl : t.length ≤ 64)
  (HR : Hid (∀ (b : Nat) (w : World), Scn w b t ⟨0, 0⟩ → Calls Tryz.prog 124 #[.pointer (some ⟨b, 0, none⟩)] w fun e w' => e = .returned (.agg #[.int .i64 Y, .int .i64 M, .int .i64 D, .int .i64 H, .int .i64 N, .int .i64 WD, .int .i64 SE, .int .i64 OF, .int .i64 A1, .int .i64 A5, .int .i64 A7, .int .i64 A9, .int .i64 AS]) ∧ Scn w' b t R ∧ But b w w'))
  (yb : -600000 ≤ Y ∧ Y ≤ 2300000) (ob : -840 ≤ OF ∧ OF ≤ 840) (mb : 1 ≤ M ∧ M ≤ 12) (he : ((R.e : Int) != 0) = false) (y1 : 2000 ≤ Y) (y2 : Y ≤ 2199) (d1 : 1 ≤ D) (d2 : D ≤ md (Y) (M)) (h0 : 0 ≤ H) (h1 : H ≤ 23) (n0 : 0 ≤ N) (n1 : N ≤ 59) (s1 : SE ≤ 60) (w0 : 0 ≤ WD) (wn : (WD != ((dayNum (Y) (M) (D) * 1440 + H * 60 + N) / 1440 + 5) % 7) = false) (vv : vld ((dayNum (Y) (M) (D) * 1440 + H * 60 + N) - OF) = false) :
  Calls Tryz.prog 91 #[.string ⟨t.toArray⟩] w fun e w' => e = .returned (.tuple #[.int .i64 0, .int .i64 0, .int .i64 2]) ∧ Below w.heap.size w w' := by
 go_enter Tryz.func91, Tryz.ntmps91
 go_wp2_with fail
 refine (HR.out w.heap.size _ (scn_new w t 0)).mono ?_; rintro e w2 ⟨rfl, S2, B2⟩
 have hB2 : Below w.heap.size w w2 := ((Below.refl w.heap.size w).alloc (Nat.le_refl _) _).trans (B2.below (Nat.le_refl _) (by simp))
 clear HR B2
 have S2' := Lib.hid S2; clear S2
 go_upto_region 5 with (fail)
 obtain ⟨w3, hw3⟩ : ∃ w3, w3 = w2.alloc (.cells #[.int .i64 Y, .int .i64 M, .int .i64 D, .int .i64 H, .int .i64 N, .int .i64 WD, .int .i64 SE, .int .i64 OF, .int .i64 A1, .int .i64 A5, .int .i64 A7, .int .i64 A9, .int .i64 AS] 172) := ⟨_, rfl⟩
 have K3 : w3.heap[w2.heap.size]? = some (.cells #[.int .i64 Y, .int .i64 M, .int .i64 D, .int .i64 H, .int .i64 N, .int .i64 WD, .int .i64 SE, .int .i64 OF, .int .i64 A1, .int .i64 A5, .int .i64 A7, .int .i64 A9, .int .i64 AS] 172 (0, 0)) := by rw [hw3]; exact blk_new _ _
 have B3 : Below w2.heap.size w2 w3 := by rw [hw3]; exact (Below.refl _ _).alloc (Nat.le_refl _) _
 rw [← hw3]
 have S3 := S2'.out.below B3
 have hB3 := hB2.trans (B3.mono hB2.size)
 clear hw3 S2' hB2 B3
 generalize w2.heap.size = q at *
 have sc1 := S3.c1
 have sc2 := S3.c2
 have c0 : w3.cell? ⟨q, 0, none⟩ = some (.int .i64 Y) := blk_cell K3 0
 have c1 : w3.cell? ⟨q, 1, none⟩ = some (.int .i64 M) := blk_cell K3 1
 have c2 : w3.cell? ⟨q, 2, none⟩ = some (.int .i64 D) := blk_cell K3 2
 have c3 : w3.cell? ⟨q, 3, none⟩ = some (.int .i64 H) := blk_cell K3 3
 have c4 : w3.cell? ⟨q, 4, none⟩ = some (.int .i64 N) := blk_cell K3 4
 have c5 : w3.cell? ⟨q, 5, none⟩ = some (.int .i64 WD) := blk_cell K3 5
 have c6 : w3.cell? ⟨q, 6, none⟩ = some (.int .i64 SE) := blk_cell K3 6
 have c7 : w3.cell? ⟨q, 7, none⟩ = some (.int .i64 OF) := blk_cell K3 7
 have c8 : w3.cell? ⟨q, 8, none⟩ = some (.int .i64 A1) := blk_cell K3 8
 have c9 : w3.cell? ⟨q, 9, none⟩ = some (.int .i64 A5) := blk_cell K3 9
 have c10 : w3.cell? ⟨q, 10, none⟩ = some (.int .i64 A7) := blk_cell K3 10
 have c11 : w3.cell? ⟨q, 11, none⟩ = some (.int .i64 A9) := blk_cell K3 11
 have c12 : w3.cell? ⟨q, 12, none⟩ = some (.int .i64 AS) := blk_cell K3 12
 have K3' := Lib.hid K3
 clear K3 S3
 go_wp2_with fail
 go_quiet ((go_at_call 125; exact Calls.quiet_of_same (by refine (monthDays_any _ _ _ (by omega) (by omega)).mono ?_; rintro e w' ⟨rfl, rfl⟩; exact ⟨rfl, rfl⟩)))
 go_wp2_with fail
 refine (fromCivil_yes _ _ _ _ _ _ (by omega) (by omega) (by omega) (by omega) (by omega) (by omega) (by omega) (by omega) (by omega) (by omega)).mono ?_
 rintro e w5 ⟨rfl, b5⟩
 have dnb := dayNum_bd y1 y2 mb.1 mb.2 d1 d2
 have hB5 : Below w.heap.size w w5 := (Below.drewN _ hB3).trans (b5.mono (Below.drewN _ hB3).size)
 have k5 : w5.cell? ⟨q, 5, none⟩ = some (.int .i64 WD) := Below.cellv b5 c5
 have k7 : w5.cell? ⟨q, 7, none⟩ = some (.int .i64 OF) := Below.cellv b5 c7
 clear c0 c1 c2 c3 c4 c5 c6 c7 c8 c9 c10 c11 c12 sc1 sc2 b5 hB3 K3'
 have LL : Hid (dayNum Y M D * 1440 + H * 60 + N = dayNum Y M D * 1440 + H * 60 + N) := rfl
 generalize hDN : dayNum Y M D = DN at *
 have HDN := Lib.hid hDN; clear hDN
 go_wp2_with fail
 refine (weekday_yes _ _ (by omega) (by omega)).mono ?_; rintro e w6 ⟨rfl, rfl⟩
 go_wp2_with fail
 refine (valid_any _ _).mono ?_; rintro e w6 ⟨rfl, rfl⟩
 go_wp2_with fail
 go_ret3
 exact ⟨rfl, hB5⟩
set_option maxRecDepth 100000 in
set_option maxHeartbeats 800000 in
theorem parse_ob (t : List UInt8) (w : World) (Y M D H N WD SE OF A1 A5 A7 A9 AS : Int) (R : St) (hl : t.length ≤ 64)
  (HR : Hid (∀ (b : Nat) (w : World), Scn w b t ⟨0, 0⟩ → Calls Tryz.prog 124 #[.pointer (some ⟨b, 0, none⟩)] w fun e w' => e = .returned (.agg #[.int .i64 Y, .int .i64 M, .int .i64 D, .int .i64 H, .int .i64 N, .int .i64 WD, .int .i64 SE, .int .i64 OF, .int .i64 A1, .int .i64 A5, .int .i64 A7, .int .i64 A9, .int .i64 AS]) ∧ Scn w' b t R ∧ But b w w'))
  (yb : -600000 ≤ Y ∧ Y ≤ 2300000) (ob : -840 ≤ OF ∧ OF ≤ 840) (mb : 1 ≤ M ∧ M ≤ 12) (he : ((R.e : Int) != 0) = false) (y1 : 2000 ≤ Y) (y2 : Y ≤ 2199) (d1 : 1 ≤ D) (d2 : D ≤ md (Y) (M)) (h0 : 0 ≤ H) (h1 : H ≤ 23) (n0 : 0 ≤ N) (n1 : N ≤ 59) (s1 : SE ≤ 60) (w0 : 0 ≤ WD) (wn : (WD != ((dayNum (Y) (M) (D) * 1440 + H * 60 + N) / 1440 + 5) % 7) = false) (vv : vld ((dayNum (Y) (M) (D) * 1440 + H * 60 + N) - OF) = true) :
  Calls Tryz.prog 91 #[.string ⟨t.toArray⟩] w fun e w' => e = .returned (.tuple #[.int .i64 ((dayNum (Y) (M) (D) * 1440 + H * 60 + N) - OF), .int .i64 0, .int .i64 0]) ∧ Below w.heap.size w w' := by
 go_enter Tryz.func91, Tryz.ntmps91
 go_wp2_with fail
 refine (HR.out w.heap.size _ (scn_new w t 0)).mono ?_; rintro e w2 ⟨rfl, S2, B2⟩
 have hB2 : Below w.heap.size w w2 := ((Below.refl w.heap.size w).alloc (Nat.le_refl _) _).trans (B2.below (Nat.le_refl _) (by simp))
 clear HR B2
 have S2' := Lib.hid S2; clear S2
 go_upto_region 5 with (fail)
 obtain ⟨w3, hw3⟩ : ∃ w3, w3 = w2.alloc (.cells #[.int .i64 Y, .int .i64 M, .int .i64 D, .int .i64 H, .int .i64 N, .int .i64 WD, .int .i64 SE, .int .i64 OF, .int .i64 A1, .int .i64 A5, .int .i64 A7, .int .i64 A9, .int .i64 AS] 172) := ⟨_, rfl⟩
 have K3 : w3.heap[w2.heap.size]? = some (.cells #[.int .i64 Y, .int .i64 M, .int .i64 D, .int .i64 H, .int .i64 N, .int .i64 WD, .int .i64 SE, .int .i64 OF, .int .i64 A1, .int .i64 A5, .int .i64 A7, .int .i64 A9, .int .i64 AS] 172 (0, 0)) := by rw [hw3]; exact blk_new _ _
 have B3 : Below w2.heap.size w2 w3 := by rw [hw3]; exact (Below.refl _ _).alloc (Nat.le_refl _) _
 rw [← hw3]
 have S3 := S2'.out.below B3
 have hB3 := hB2.trans (B3.mono hB2.size)
 clear hw3 S2' hB2 B3
 generalize w2.heap.size = q at *
 have sc1 := S3.c1
 have sc2 := S3.c2
 have c0 : w3.cell? ⟨q, 0, none⟩ = some (.int .i64 Y) := blk_cell K3 0
 have c1 : w3.cell? ⟨q, 1, none⟩ = some (.int .i64 M) := blk_cell K3 1
 have c2 : w3.cell? ⟨q, 2, none⟩ = some (.int .i64 D) := blk_cell K3 2
 have c3 : w3.cell? ⟨q, 3, none⟩ = some (.int .i64 H) := blk_cell K3 3
 have c4 : w3.cell? ⟨q, 4, none⟩ = some (.int .i64 N) := blk_cell K3 4
 have c5 : w3.cell? ⟨q, 5, none⟩ = some (.int .i64 WD) := blk_cell K3 5
 have c6 : w3.cell? ⟨q, 6, none⟩ = some (.int .i64 SE) := blk_cell K3 6
 have c7 : w3.cell? ⟨q, 7, none⟩ = some (.int .i64 OF) := blk_cell K3 7
 have c8 : w3.cell? ⟨q, 8, none⟩ = some (.int .i64 A1) := blk_cell K3 8
 have c9 : w3.cell? ⟨q, 9, none⟩ = some (.int .i64 A5) := blk_cell K3 9
 have c10 : w3.cell? ⟨q, 10, none⟩ = some (.int .i64 A7) := blk_cell K3 10
 have c11 : w3.cell? ⟨q, 11, none⟩ = some (.int .i64 A9) := blk_cell K3 11
 have c12 : w3.cell? ⟨q, 12, none⟩ = some (.int .i64 AS) := blk_cell K3 12
 have K3' := Lib.hid K3
 clear K3 S3
 go_wp2_with fail
 go_quiet ((go_at_call 125; exact Calls.quiet_of_same (by refine (monthDays_any _ _ _ (by omega) (by omega)).mono ?_; rintro e w' ⟨rfl, rfl⟩; exact ⟨rfl, rfl⟩)))
 go_wp2_with fail
 refine (fromCivil_yes _ _ _ _ _ _ (by omega) (by omega) (by omega) (by omega) (by omega) (by omega) (by omega) (by omega) (by omega) (by omega)).mono ?_
 rintro e w5 ⟨rfl, b5⟩
 have dnb := dayNum_bd y1 y2 mb.1 mb.2 d1 d2
 have hB5 : Below w.heap.size w w5 := (Below.drewN _ hB3).trans (b5.mono (Below.drewN _ hB3).size)
 have k5 : w5.cell? ⟨q, 5, none⟩ = some (.int .i64 WD) := Below.cellv b5 c5
 have k7 : w5.cell? ⟨q, 7, none⟩ = some (.int .i64 OF) := Below.cellv b5 c7
 clear c0 c1 c2 c3 c4 c5 c6 c7 c8 c9 c10 c11 c12 sc1 sc2 b5 hB3 K3'
 have LL : Hid (dayNum Y M D * 1440 + H * 60 + N = dayNum Y M D * 1440 + H * 60 + N) := rfl
 generalize hDN : dayNum Y M D = DN at *
 have HDN := Lib.hid hDN; clear hDN
 go_wp2_with fail
 refine (weekday_yes _ _ (by omega) (by omega)).mono ?_; rintro e w6 ⟨rfl, rfl⟩
 go_wp2_with fail
 refine (valid_any _ _).mono ?_; rintro e w6 ⟨rfl, rfl⟩
 go_wp2_with fail
 go_ret3
 exact ⟨by rw [HDN.out]; rfl, hB5⟩
end Go.Proofs.YtlchcjnbbhpiaaaGreatDoor.Dt
