/- Contract of capital of package date; rows of bytes in memory. -/
import Derived.Test.YtpdncgfkoibacaaDoorNeed
import Derived.Laws.IdiomStrings
namespace Go.Proofs.YtpdncgfkoibacaaDoor
open Go.RowKit

/-- A row of bytes in memory that may be written. -/
def Row (w : World) (b : Nat) (m : List UInt8) : Prop := ∀ j, j < m.length → w.cell? ⟨b, j, none⟩ = some (.int .u8 (m.getD j 0).toNat) ∧ w.frozen? ⟨b, j, none⟩ = false

theorem to_bytes (w : World) (l : List UInt8) : ∃ (cap : Nat) (w1 : World), (convert 9 88 (.string ⟨l.toArray⟩)).run Tryd.prog w = .ok (.slice (some ⟨w.heap.size, 0, none⟩) l.length cap) w1 ∧
    Below w.heap.size w w1 ∧ w.heap.size < w1.heap.size ∧ Row w1 w.heap.size l := by
  have h := run_bytes_of_string (P := Tryd.prog) w 9 88 5 ⟨l.toArray⟩ Tryd.underlying9 Tryd.underlying88 Tryd.underlying5
  have hsz : (⟨l.toArray⟩ : ByteArray).size = l.length := rfl
  rw [hsz] at h
  refine ⟨_, _, h, (Below.drew (Below.refl _ _)).alloc (Nat.le_refl _) _, by simp [World.drew, -World.drew_eq], fun j hj => ⟨?_, ?_⟩⟩
  · have := World.cell?_alloc_mark w.drew (bytesRow ⟨l.toArray⟩ (grownCap w l.length 0 5)) 5 ((bytesRow ⟨l.toArray⟩ (grownCap w l.length 0 5)).size, (bytesRow ⟨l.toArray⟩ (grownCap w l.length 0 5)).size + 1) j
    refine Eq.trans this ?_
    rw [bytesRow_at _ _ _ (by simpa using hj)]
    simp [hj]
  · have := World.frozen?_alloc_mark w.drew (bytesRow ⟨l.toArray⟩ (grownCap w l.length 0 5)) 5 (bytesRow ⟨l.toArray⟩ (grownCap w l.length 0 5)).size ((bytesRow ⟨l.toArray⟩ (grownCap w l.length 0 5)).size + 1) j
    refine Eq.trans this ?_
    have hs : l.length ≤ (bytesRow ⟨l.toArray⟩ (grownCap w l.length 0 5)).size := by simp [bytesRow]
    simp; omega
theorem of_bytes (w : World) (b cap : Nat) (m : List UInt8) (h : Row w b m) : (convert 88 9 (.slice (some ⟨b, 0, none⟩) m.length cap)).run Tryd.prog w = .ok (.string ⟨m.toArray⟩) w :=
  run_convert_bytes_back (P := Tryd.prog) w 88 9 5 ⟨b, 0, none⟩ cap m Tryd.underlying88 Tryd.underlying5 Tryd.underlying9 (by
    intro j hj
    have := (h j hj).1
    have e : (⟨b, 0, none⟩ : Addr).add j = ⟨b, j, none⟩ := by
      unfold Addr.add; split
      · rename_i h0; simp_all
      · simp
    rw [e]
    simpa [hj] using this)
theorem Row.set {w : World} {b : Nat} {m : List UInt8} (h : Row w b m) (i : Nat) (c : UInt8) : Row (w.setCell ⟨b, i, none⟩ (.int .u8 c.toNat)) b (m.set i c) := by
  intro j hj
  rw [List.length_set] at hj
  have hh := h j hj
  refine ⟨?_, by rw [World.frozen?_setCell]; exact hh.2⟩
  by_cases e : j = i
  · subst e
    rw [World.cell?_setCell_same' _ _ _ (by rw [hh.1]; rfl)]
    simp [hj]
  · rw [World.cell?_setCell_other _ _ _ _ (by intro h; injection h; omega), hh.1]
    simp [Ne.symm e, hj]

/-- The first k bytes as capital letters. -/
def capTo (l : List UInt8) (k : Nat) : List UInt8 := (l.take k).map cap ++ l.drop k
theorem capTo_len (l : List UInt8) (k : Nat) : (capTo l k).length = l.length := by simp [capTo]; omega
theorem capTo_all (l : List UInt8) : capTo l l.length = capL l := by simp [capTo, capL]
theorem capTo_get (l : List UInt8) (k : Nat) (h : k < l.length) : (capTo l k).getD k 0 = l.getD k 0 := by
  have : (List.map cap (List.take k l)).length = k := by simp; omega
  simp only [capTo, List.getD_eq_getElem?_getD]
  rw [List.getElem?_append_right (by rw [this]; exact Nat.le_refl _), this]
  simp
theorem capTo_succ (l : List UInt8) (k : Nat) (h : k < l.length) : capTo l (k + 1) = (capTo l k).set k (cap (l.getD k 0)) := by
  have hl : (List.map cap (List.take k l)).length = k := by simp; omega
  unfold capTo
  rw [List.set_append_right _ _ (by rw [hl]; exact Nat.le_refl _), hl, Nat.sub_self]
  rw [List.take_succ_eq_append_getElem h, List.map_append]
  have e : List.drop k l = l[k] :: List.drop (k + 1) l := List.drop_eq_getElem_cons h
  simp [h]
  rw [e]; rfl

theorem List.set_getElem_self' (m : List UInt8) (k : Nat) : m.set k (m.getD k 0) = m := by
  rcases Nat.lt_or_ge k m.length with h | h
  · simp [h]
  · rw [List.set_eq_of_length_le h]
theorem cap_low {c : UInt8} (h1 : 97 ≤ c.toNat) (h2 : c.toNat ≤ 122) : ((cap c).toNat : Int) = (c.toNat : Int) - 32 := by
  unfold cap; rw [if_pos ⟨h1, h2⟩]
  have : (32 : UInt8) ≤ c := by rw [UInt8.le_iff_toNat_le]; simp; omega
  rw [UInt8.toNat_sub_of_le _ _ this]; simp; omega
theorem cap_id {c : UInt8} (h : c.toNat < 97 ∨ 122 < c.toNat) : cap c = c := by
  unfold cap; rw [if_neg (by omega)]

set_option maxRecDepth 100000 in
set_option maxHeartbeats 1000000 in
theorem capital_any (l : List UInt8) (w : World) (hl : l.length ≤ 1000) :
    Calls Tryd.prog 54 #[.string ⟨l.toArray⟩] w fun e w' => e = .returned (.string ⟨(capL l).toArray⟩) ∧ Below w.heap.size w w' := by
  obtain ⟨cp, w1, hcv, b1, z1, R1⟩ := to_bytes w l
  have HR := Lib.hid R1; clear R1
  go_enter Tryd.func54, Tryd.ntmps54
  go_wp2_with fail
  clear hcv
  go_loopw [10] (fun i wr => ∃ k : Nat, k ≤ l.length ∧ i = .int .i64 k ∧ Row wr w.heap.size (capTo l k) ∧ Below w.heap.size w wr) (fun i _ => l.length - (intOf i).toNat)
  case atStart => exact ⟨0, by omega, rfl, by have : capTo l 0 = l := by simp [capTo]
                                              rw [this]; exact HR.out, b1⟩
  case round =>
    obtain ⟨k, hk, rfl, hR, hB⟩ := hrel
    have A := Lib.hid hR; clear hR
    by_cases hlt : k < l.length
    · have hc : wr.cell? ⟨w.heap.size, k, none⟩ = some (.int .u8 (l.getD k 0).toNat) := by
        have := (A.out k (by rw [capTo_len]; exact hlt)).1
        rw [capTo_get l k hlt] at this; exact this
      have hf := (A.out k (by rw [capTo_len]; exact hlt)).2
      have hb := (l.getD k 0).toNat_lt
      have HS := Lib.hid (capTo_succ l k hlt)
      have RS := Lib.hid (A.out.set k (cap (l.getD k 0)))
      by_cases h1 : 97 ≤ (l.getD k 0).toNat ∧ (l.getD k 0).toNat ≤ 122
      · have hcl := cap_low h1.1 h1.2
        have HCL := Lib.hid hcl; clear hcl
        have h2 : (97 : Int) ≤ ((l.getD k 0).toNat : Int) := by omega
        have h3 : ((l.getD k 0).toNat : Int) ≤ 122 := by omega
        clear h1
        generalize hgc : (l.getD k 0).toNat = c at *
        have GC := Lib.hid hgc; clear hgc
        go_wp2_with fail
        go_roundw
        case rel =>
          refine ⟨k + 1, by omega, by go_num, ?_, hB.setCell (by simp) _⟩
          have r := RS.out
          rw [HCL.out, ← HS.out] at r
          exact r
        case measure => simp [intOf]; omega
      · have hci := cap_id (c := l.getD k 0) (by omega)
        have HCI := Lib.hid hci; clear hci
        have h1' : ((l.getD k 0).toNat : Int) < 97 ∨ (122 : Int) < ((l.getD k 0).toNat : Int) := by omega
        have keep : Hid (capTo l (k + 1) = capTo l k) := by
          show _ = _
          rw [HS.out, HCI.out, ← capTo_get l k hlt]
          exact List.set_getElem_self' _ _
        generalize hgc : (l.getD k 0).toNat = c at *
        clear hgc
        rcases h1' with h1' | h1'
        · go_wp2_with fail
          go_roundw
          case rel => exact ⟨k + 1, by omega, by go_num, by rw [keep.out]; exact A.out, hB⟩
          case measure => simp [intOf]; omega
        · have h2 : (97 : Int) ≤ c := by omega
          go_wp2_with fail
          go_roundw
          case rel => exact ⟨k + 1, by omega, by go_num, by rw [keep.out]; exact A.out, hB⟩
          case measure => simp [intOf]; omega
    · obtain rfl : k = l.length := by omega
      have hb := of_bytes wr w.heap.size cp _ A.out
      rw [capTo_len, capTo_all] at hb
      go_wp2_with fail
      go_ret
      exact ⟨rfl, hB⟩
end Go.Proofs.YtpdncgfkoibacaaDoor
