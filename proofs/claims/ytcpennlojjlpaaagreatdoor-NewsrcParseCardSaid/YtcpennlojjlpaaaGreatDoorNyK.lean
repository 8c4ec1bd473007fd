/- Contract: strings.IndexAny at a colon and an exclamation mark, for every text. -/
import Derived.Test.YtcpennlojjlpaaaGreatDoorNyF
import Derived.Laws.RangeAny
import Derived.Laws.Runes
import Derived.WalkMore
import Derived.LoopN
import Derived.Lib.IndexAny
import Derived.Lib.OthersKept
namespace Go.Nr
open Go.Lib
theorem get_bang {s : ByteArray} {j : Nat} {b : UInt8} (h : s.data.toList[j]? = some b) : s.get! j = b := by
  obtain ⟨hl, e⟩ := List.getElem?_eq_some_iff.1 h
  have hl' : j < s.data.size := by simpa using hl
  show s.data[j]! = b
  rw [getElem!_pos s.data j hl']
  simpa using e
theorem decode_w (s : ByteArray) (pos : Nat) (hn : 128 ≤ (s.get! (pos + 0)).toNat) : 1 ≤ (Utf8.decode s pos).2 ∧ ∀ k, 1 ≤ k → k < (Utf8.decode s pos).2 → pos + k < s.size ∧ (s.get! (pos + k)).toNat / 64 = 2 := by
  have hn' : ¬ (s.get! (pos + 0)).toNat < 128 := by omega
  simp only [Utf8.decode, hn', if_false]
  repeat' split
  all_goals refine ⟨by simp, fun k h1 h2 => ?_⟩
  all_goals simp only [Bool.and_eq_true, decide_eq_true_eq, beq_iff_eq] at *
  all_goals first | (exfalso; omega) | skip
  all_goals
    have hk : k = 1 ∨ k = 2 ∨ k = 3 := by omega
    rcases hk with rfl | rfl | rfl <;> first | (exfalso; omega) | (constructor <;> omega)
theorem decode_bytes (s : ByteArray) (pos : Nat) (h : pos < s.size) (ha : 128 ≤ (s[pos]'h).toNat) : pos + (Utf8.decode s pos).2 ≤ s.size ∧ 1 ≤ (Utf8.decode s pos).2 ∧ ∀ j, pos ≤ j → j < pos + (Utf8.decode s pos).2 → ∀ b, s.data.toList[j]? = some b → 128 ≤ b.toNat := by
  have h0 : 128 ≤ (s.get! (pos + 0)).toNat := by rw [get_at s pos h]; exact ha
  obtain ⟨h1, h2⟩ := decode_w s pos h0
  generalize (Utf8.decode s pos).2 = n at *
  refine ⟨?_, h1, fun j hj hj2 b hb => ?_⟩
  · rcases Nat.lt_or_ge 1 n with h3 | h3
    · have := (h2 (n - 1) (by omega) (by omega)).1
      omega
    · omega
  · have e := get_bang hb
    rcases Nat.lt_or_ge pos j with h3 | h3
    · have := (h2 (j - pos) (by omega) (by omega)).2
      rw [show pos + (j - pos) = j by omega, e] at this
      omega
    · obtain rfl : j = pos := by omega
      rw [Nat.add_zero, e] at h0
      exact h0
theorem noAny_skip {s : ByteArray} {pos : Nat} (h : pos < s.size) (ha : 128 ≤ (s[pos]'h).toNat) (hN : NoAny s.data.toList [58, 33] pos) : NoAny s.data.toList [58, 33] (pos + (Utf8.decode s pos).2) := fun j b hj hb => by
  rcases Nat.lt_or_ge j pos with h1 | h1
  · exact hN j b h1 hb
  · have := (decode_bytes s pos h ha).2.2 j h1 hj b hb
    cases hq : List.contains [58, 33] b with
    | false => rfl
    | true =>
      simp at hq
      rcases hq with rfl | rfl <;> exact absurd this (by decide)
theorem enc_bytes {r : Int} (h1 : 128 ≤ r) (hv : Utf8.valid r = true) : ((Utf8.encode r).size = 2 ∧ ∃ c : UInt8, (∀ h, (Utf8.encode r)[1]'h = c) ∧ 128 ≤ c.toNat) ∨ (Utf8.encode r).size = 3 ∨ (Utf8.encode r).size = 4 := by
  unfold Utf8.encode
  rw [hv, if_pos rfl]
  have hn : 128 ≤ r.toNat := by omega
  by_cases a : r.toNat < 128
  · omega
  by_cases b : r.toNat < 2048
  · left
    simp only [a, b, if_false, if_true]
    refine ⟨rfl, UInt8.ofNat (0x80 + r.toNat % 64), fun _ => rfl, ?_⟩
    simp; omega
  · right
    by_cases c : r.toNat < 65536
    · left; simp only [a, b, c, if_false, if_true]; rfl
    · right; simp only [a, b, c, if_false]; rfl
end Go.Nr
namespace Go.Proofs.YtcpennlojjlpaaaGreatDoor
open Go.RowKit Go.Nr Go.Gn

set_option maxRecDepth 100000 in
set_option maxHeartbeats 2000000 in
theorem indexRune_high (r : Int) (h1 : 128 ≤ r) (h2 : r ≤ 2147483647) (w : World) :
    Calls Tryz.prog 151 #[.string ⟨#[58, 33]⟩, .int .i32 r] w fun e w' => e = .returned (i64 (-1)) ∧ Below w.heap.size w w' := by
  have n128 : ¬ r < 128 := by omega
  have n0 : (0 : Int) ≤ r := by omega
  by_cases hE : r = 65533
  · subst hE
    go_enter Tryz.func151, Tryz.ntmps151
    go_wp2_with fail
    go_loopg [5] 2 (fun gg _ wr => ∃ i : Nat, i ≤ 2 ∧ 2 - i ≤ gg ∧ wr = w.iter ⟨#[58, 33]⟩ i)
    case atStart => exact ⟨0, by omega, by omega, rfl⟩
    case round =>
      obtain ⟨i, hi, hgi, rfl⟩ := hrel
      obtain rfl | rfl | rfl : i = 0 ∨ i = 1 ∨ i = 2 := by omega
      · have hnx := fun ty => run_next_ascii (P := Tryz.prog) w ⟨#[58, 33]⟩ 0 ty (by decide) (by decide)
        go_wp2_with fail
        go_roundg 1
        case measure => omega
        case rel => exact ⟨1, by omega, by omega, rfl⟩
      · have hnx := fun ty => run_next_ascii (P := Tryz.prog) w ⟨#[58, 33]⟩ 1 ty (by decide) (by decide)
        go_wp2_with fail
        go_roundg 0
        case measure => omega
        case rel => exact ⟨2, by omega, by omega, rfl⟩
      · have hnx := fun ty => run_next_end (P := Tryz.prog) w ⟨#[58, 33]⟩ 2 ty (by decide)
        go_wp2_with fail
        go_ret
        exact ⟨rfl, below_new _ _⟩
  · have nE : (r == 65533) = false := by simpa using hE
    have hvr := Lib.hid (fun W => Tryz.utf8_ValidRune r W)
    cases hv : Lib.validRune r with
    | false =>
      rw [hv] at hvr
      go_enter Tryz.func151, Tryz.ntmps151
      go_wp2_with fail
      refine (hvr.out _).mono ?_; rintro e w1 ⟨rfl, rfl⟩
      go_wp2_with fail
      go_ret
      exact ⟨rfl, Below.refl _ _⟩
    | true =>
      rw [hv] at hvr
      have hv2 : Utf8.valid r = true := by
        unfold Lib.validRune at hv
        unfold Utf8.valid
        simp at hv ⊢
        omega
      have hen := enc_bytes h1 hv2
      have hcv := fun W => run_convert_int_string (P := Tryz.prog) W 21 9 .i32 r (by rw [Tryz.underlying21]; rfl) Tryz.underlying9
      obtain ⟨E, hE2⟩ : ∃ E, Utf8.encode r = E := ⟨_, rfl⟩
      rw [hE2] at hen hcv
      clear hv hv2 hE2
      rcases hen with ⟨hs2, c, hc, hc128⟩ | hs3 | hs3
      · obtain ⟨n, hn, hs3⟩ : ∃ n, n = 1 ∧ E.size = n + 1 := ⟨1, rfl, hs2⟩
        have hc2 : ∀ h, E[n]'h = c := by subst hn; exact hc
        obtain ⟨k33, hk, hk33⟩ : ∃ k : UInt8, (∀ h, (⟨#[58, 33]⟩ : ByteArray)[n]'h = k) ∧ k.toNat = 33 := by subst hn; exact ⟨33, fun _ => rfl, rfl⟩
        have e1 : ((k33.toNat : Int) != (c.toNat : Int)) = true := by simp; omega
        have e2 : (k33.toNat != c.toNat) = true := by simp; omega
        have hx : (⟨#[58, 33]⟩ : ByteArray).extract (n + 1) 2 = ⟨#[]⟩ := by subst hn; decide
        have hsz2 : (⟨#[58, 33]⟩ : ByteArray).size = 2 := rfl
        have HIB : Hid (∀ W, Calls Tryz.prog 181 #[.string ⟨#[]⟩, .int .u8 (c.toNat : Int)] W fun e w' => e = .returned (.int .i64 (-1)) ∧ w' = W) := fun W => Tryz.strings_IndexByte ⟨#[]⟩ (c.toNat : Int) W
        have n1 : (n : Int) < 2 := by omega
        have n2 : (n : Int) + 1 ≤ 2 := by omega
        have n3 : (0 : Int) ≤ (n : Int) := by omega
        have n4 : (n : Int) < (n : Int) + 1 := by omega
        have n5 : n < 2 := by omega
        clear hc128 hk33 hs2 hc hn
        go_enter Tryz.func151, Tryz.ntmps151
        go_wp2_with fail
        refine (hvr.out _).mono ?_; rintro e w1 ⟨rfl, rfl⟩
        go_wp2_with fail
        go_step3
        go_wp2_with fail
        refine wp_loop_rounds 1 ?_
        rw [rounds_succ]
        go_wp2_with fail
        go_step3
        go_wp2_with fail
        go_quiet (fail)
        go_wp2_with fail
        refine Flow.wp_region_segs Flow.Later Flow.Later.refl Flow.Later.trans [([0, 1, 4, 5, 6], 2), ([3], 7)] [8] (by kernel_rfl) (by kernel_rfl) ?_
        have B1 := Lib.hid ((Below.refl w1.heap.size w1).drewN (nq + 1))
        rw [show (w1.drewN nq).drew = w1.drewN (nq + 1) from rfl]
        generalize w1.drewN (nq + 1) = wd at *
        haveI nonE := Flow.cls_nonempty wd
        rw [Flow.wpSegs_cons]
        simp only [Flow.pick, List.getElem?_toArray, List.getElem?_cons_succ, List.getElem?_cons_zero]
        repeat go_big_quiet_step (fail)
        refine wpQuiet_nil ?_
        clear nonE
        rw [Flow.callAt_eq]
        simp only [List.getElem?_toArray, List.getElem?_cons_succ, List.getElem?_cons_zero]
        rw [if_pos (by rfl)]
        refine Flow.wp_behind (fun K hK => ?_)
        go_wp2_with fail
        refine hK.out _ _ ⟨Below.refl _ _, ?_⟩
        clear hK K
        haveI nonE := Flow.cls_nonempty wd
        rw [Flow.wpSegs_cons]
        simp only [Flow.pick, List.getElem?_toArray, List.getElem?_cons_succ, List.getElem?_cons_zero]
        repeat go_big_quiet_step (fail)
        refine wpQuiet_nil ?_
        clear nonE
        rw [Flow.callAt_eq]
        simp only [List.getElem?_toArray, List.getElem?_cons_succ, List.getElem?_cons_zero]
        rw [if_pos (by rfl)]
        refine Flow.wp_behind (fun K hK => ?_)
        go_wp2_with fail
        refine (HIB.out _).mono ?_; rintro e w2 ⟨rfl, rfl⟩
        refine hK.out _ _ ⟨Below.refl _ _, ?_⟩
        clear hK K
        haveI nonE := Flow.cls_nonempty w2
        rw [Flow.wpSegs_nil]
        simp only [Flow.pick, List.getElem?_toArray, List.getElem?_cons_succ, List.getElem?_cons_zero]
        repeat go_big_quiet_step (fail)
        refine wpQuiet_nil ?_
        clear nonE
        go_wp2_with fail
        rw [Exit.noGoto_ret]
        go_wp2_with fail
        rw [Exit.noGoto_ret]
        go_ret
        exact ⟨rfl, B1.out⟩
      · go_enter Tryz.func151, Tryz.ntmps151
        go_wp2_with fail
        refine (hvr.out _).mono ?_; rintro e w1 ⟨rfl, rfl⟩
        go_wp2_with fail
        go_step3
        go_wp2_with fail
        refine wp_loop_rounds 1 ?_
        rw [rounds_succ]
        go_wp2_with fail
        rw [Exit.noGoto_ret]
        go_ret
        exact ⟨rfl, Below.refl _ _⟩
      · go_enter Tryz.func151, Tryz.ntmps151
        go_wp2_with fail
        refine (hvr.out _).mono ?_; rintro e w1 ⟨rfl, rfl⟩
        go_wp2_with fail
        go_step3
        go_wp2_with fail
        refine wp_loop_rounds 1 ?_
        rw [rounds_succ]
        go_wp2_with fail
        rw [Exit.noGoto_ret]
        go_ret
        exact ⟨rfl, Below.refl _ _⟩

theorem below_iterAt {B : Nat} {w v : World} (h : Below B w v) {k : Nat} (hk : B ≤ k) (s : ByteArray) (p : Nat) : Below B w (v.iterAt k s p) :=
  ⟨h.os, h.tape, h.output, by have := h.size; simpa [World.iterAt] using this, fun i hi => by
    rw [← h.block i hi]
    simp only [World.iterAt]
    rw [Array.getElem?_setIfInBounds_ne (by omega)]⟩
theorem zero195 (w : World) : (zeroValue 195).run Tryz.prog w = .ok (.agg (Array.replicate 256 (.bool false))) w := by kernel_rfl

set_option maxRecDepth 100000 in
set_option maxHeartbeats 4000000 in
theorem idx_short (t : List UInt8) (h8 : t.length ≤ 8) : IdxOk t := fun w => by
  obtain ⟨s, hs⟩ : ∃ s : ByteArray, (⟨t.toArray⟩ : ByteArray) = s := ⟨_, rfl⟩
  have hts : s.data.toList = t := by rw [← hs]
  have hsz : s.size = t.length := by rw [← hs]; show t.toArray.size = _; simp
  have hd8 : decide ((8 : Int) < (s.size : Int)) = false := decide_eq_false (by omega)
  have HS := Lib.hid (fun W => Tryz.strings_shouldUseASCIISet (s.size : Int) W)
  rw [hd8] at HS
  obtain ⟨R, hR⟩ : ∃ R, Lib.indexAny t [58, 33] = R := ⟨_, rfl⟩
  have V := Lib.hid hR
  rw [hR]
  show Calls Tryz.prog 127 #[.string ⟨t.toArray⟩, .string ⟨#[58, 33]⟩] w fun e w' => e = .returned (i64 R) ∧ Below w.heap.size w w'
  rw [hs]
  have HTS := Lib.hid hts
  clear hR hs hts h8 hd8 hsz
  go_enter Tryz.func127, Tryz.ntmps127
  go_wp2_with fail
  refine (HS.out _).mono ?_; rintro e w1 ⟨rfl, rfl⟩
  go_wp2_with fail
  go_loopg [9, 10] s.size (fun gg _ _ wr => ∃ i : Nat, i ≤ s.size ∧ s.size - i ≤ gg ∧ Hid (Lib.NoAny s.data.toList [58, 33] i) ∧ Hid (wr.heap[w1.heap.size]? = some (.stringIter s i)) ∧ Below w1.heap.size w1 wr)
  case atStart => exact ⟨0, by omega, by omega, Lib.NoAny.zero _ _, World.iter_heap _ _ _, below_new _ _⟩
  case round =>
    obtain ⟨i, hi, hgi, N, I, hB⟩ := hrel
    by_cases hlt : i < s.size
    · obtain ⟨x, hx⟩ : ∃ x : UInt8, s[i]'hlt = x := ⟨_, rfl⟩
      have hxl : s.data.toList[i]? = some x := by rw [← hx]; exact Lib.data_getElem? s i hlt
      have HX := Lib.hid hxl
      by_cases h128 : x.toNat < 128
      · have hnx := fun ty => Lib.run_next_ascii_at (P := Tryz.prog) wr w1.heap.size s i ty I.out hlt (by rw [hx]; exact h128)
        rw [hx] at hnx
        have HR := Lib.hid (fun W => Tryz.strings_IndexRune_ascii ⟨#[58, 33]⟩ (x.toNat : Int) W (by omega) (by omega))
        have hback : ((x.toNat : Int)).toNat.toUInt8 = x := by simp
        rw [hback] at HR
        have hcon := Lib.contains_iff_indexByte [58, 33] x
        have HI2 := Lib.hid (Lib.iterAt_heap wr w1.heap.size s i (i + 1) I.out)
        have HB2 := Lib.hid (below_iterAt hB (Nat.le_refl _) s (i + 1))
        clear hx hxl hback hB I
        cases hin : List.contains [58, 33] x with
        | false =>
          rw [hin] at hcon
          have hlt2 : ¬ ((0 : Int) ≤ Lib.indexByte [58, 33] x) := of_decide_eq_false hcon.symm
          have N2 := Lib.hid (N.out.succ HX.out hin)
          clear hcon hin N
          go_wp2_with fail
          refine (HR.out _).mono ?_; rintro e w2 ⟨rfl, rfl⟩
          generalize Lib.indexByte _ x = z at *
          go_wp2_with fail
          go_roundg (s.size - (i + 1))
          case measure => omega
          case rel => exact ⟨i + 1, by omega, by omega, N2.out, HI2.out, HB2.out⟩
        | true =>
          rw [hin] at hcon
          have hge : (0 : Int) ≤ Lib.indexByte [58, 33] x := of_decide_eq_true hcon.symm
          have hfin : Hid (R = (i : Int)) := by
            show R = _
            rw [← V.out, ← HTS.out]; exact Lib.indexAny_hit N.out HX.out hin
          clear hcon hin N
          go_wp2_with fail
          refine (HR.out _).mono ?_; rintro e w2 ⟨rfl, rfl⟩
          generalize Lib.indexByte _ x = z at *
          go_wp2_with fail
          go_ret
          exact ⟨by rw [hfin.out]; try rfl, HB2.out⟩
      · have hnx := fun ty => Lib.run_next_any_at (P := Tryz.prog) wr w1.heap.size s i ty I.out hlt
        have h129 : 128 ≤ (s[i]'hlt).toNat := by rw [hx]; omega
        have hd1 := decode_high s i hlt h129
        have hd2 := decode_le s i
        have hd3 := decode_bytes s i hlt h129
        have N2 := Lib.hid (noAny_skip hlt h129 N.out)
        clear hx hxl h128 h129 HX N
        generalize Utf8.decode s i = d at *
        obtain ⟨r, n⟩ := d
        simp only at hnx hd1 hd2 hd3 N2
        have HR := Lib.hid (fun W => indexRune_high (r : Int) (by omega) (by omega) W)
        have HI2 := Lib.hid (Lib.iterAt_heap wr w1.heap.size s i (i + n) I.out)
        have HB2 := Lib.hid (below_iterAt hB (Nat.le_refl _) s (i + n))
        have hle : i + n ≤ s.size := hd3.1
        have hn1 : 1 ≤ n := hd3.2.1
        clear hd1 hd2 hd3 hB I
        go_wp2_with fail
        refine (HR.out _).mono ?_; rintro e w2 ⟨rfl, b2⟩
        have HI3 := Lib.hid ((b2.block _ (Array.getElem?_eq_some_iff.1 HI2.out).1).trans HI2.out)
        have HB3 := Lib.hid (HB2.out.tr b2)
        clear b2
        go_wp2_with fail
        go_roundg (s.size - (i + n))
        case measure => omega
        case rel => exact ⟨i + n, by omega, by omega, N2.out, HI3.out, HB3.out⟩
    · obtain rfl : i = s.size := by omega
      have hnx := fun ty => Lib.run_next_end_at (P := Tryz.prog) wr w1.heap.size s s.size ty I.out (by omega)
      have hfin : Hid (R = -1) := by
        show R = _
        rw [← V.out, ← HTS.out]; exact Lib.indexAny_none (by rw [← Lib.size_eq]; exact N.out)
      go_wp2_with fail
      go_ret
      exact ⟨by rw [hfin.out]; try rfl, hB⟩
theorem idx_any (t : List UInt8) (hl : t.length ≤ 1000000000) : IdxOk t := by
  rcases Nat.lt_or_ge 8 t.length with h8 | h8
  · intro W
    have e1 : (⟨t.toArray⟩ : ByteArray).data.toList = t := by simp
    have hsz : (⟨t.toArray⟩ : ByteArray).size = t.length := by show t.toArray.size = _; simp
    have := Tryz.strings_IndexAny_long zero195 ⟨t.toArray⟩ ⟨#[58, 33]⟩ W (by decide) (by omega) (by omega) (by decide) (fun j b hj => by
      have hj' : [(58 : UInt8), 33][j]? = some b := hj
      have := List.mem_of_getElem? hj'
      simp at this
      rcases this with rfl | rfl <;> decide)
    rw [e1] at this
    exact this.mono fun _ _ ⟨h1, h2⟩ => ⟨h1, by rw [h2]; exact (below_new _ _).tr (below_new _ _)⟩
  · exact idx_short t h8
end Go.Proofs.YtcpennlojjlpaaaGreatDoor
