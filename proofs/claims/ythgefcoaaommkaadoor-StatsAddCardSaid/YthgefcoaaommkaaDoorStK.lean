/- Contract: few events of moderate length. -/
import Derived.Test.YthgefcoaaommkaaDoorStJ
namespace Go.Proofs.YthgefcoaaommkaaDoor
open Go.RowKit Go.Gn Go.Sr Go.Maps

/-- No string is longer than what a machine holds. -/
structure LenM (m : EvM) : Prop where
  lg : ∀ x ∈ m.e.groups, x.length ≤ 140737488355328
  ls : ∀ x ∈ m.e.sites, x.length ≤ 140737488355328
theorem ev_cell {w : World} {b o : Nat} {m : EvM} (h : w.rangeAt b o (evL m)) (j : Nat) {v : Value} (hj : (evL m)[j]? = some v) : w.cell? ⟨b, o + j, none⟩ = some v := h j v hj
theorem mem_take_succ {l : List (List UInt8)} {k : Nat} {x : List UInt8} (hx : l[k]? = some x) {p : List UInt8 → Prop} (h : ∀ y ∈ l.take k, p y) (hp : p x) : ∀ y ∈ l.take (k + 1), p y := by
  obtain ⟨hl, e⟩ := List.getElem?_eq_some_iff.1 hx
  rw [List.take_succ_eq_append_getElem hl, e]
  intro y hy
  rcases List.mem_append.1 hy with hy | hy
  · exact h y hy
  · simp at hy; subst hy; exact hp
/-- What the sum of lengths bears. -/
def SumOk (v : Int) (L : List (List UInt8)) (n : Nat) : Prop := 0 ≤ v ∧ v ≤ n * 140737488355328 ∧ ∀ x ∈ L, (x.length : Int) ≤ v
theorem wrap_in {n : Int} (h0 : 0 ≤ n) (h1 : n < 9223372036854775808) : wrap64 n = n := by unfold wrap64; omega
theorem SumOk.step {v : Int} {l : List (List UInt8)} {q : Nat} {x : List UInt8} (h : SumOk v (l.take q) q) (hx : l[q]? = some x) (hq : q ≤ 1000) (hl : x.length ≤ 140737488355328) : SumOk (wrap64 (v + x.length)) (l.take (q + 1)) (q + 1) := by
  obtain ⟨h0, h1, h2⟩ := h
  rw [wrap_in (by omega) (by omega)]
  exact ⟨by omega, by omega, mem_take_succ hx (fun y hy => by have := h2 y hy; omega) (by omega)⟩
theorem SumOk.step2 {v : Int} {g l : List (List UInt8)} {p q : Nat} {x : List UInt8} (h : SumOk v (g ++ l.take q) (p + q)) (hx : l[q]? = some x) (hq : p + q ≤ 1000) (hl : x.length ≤ 140737488355328) : SumOk (wrap64 (v + x.length)) (g ++ l.take (q + 1)) (p + (q + 1)) := by
  obtain ⟨h0, h1, h2⟩ := h
  rw [wrap_in (by omega) (by omega)]
  refine ⟨by omega, by omega, fun y hy => ?_⟩
  rcases List.mem_append.1 hy with hy | hy
  · have := h2 y (List.mem_append_left _ hy); omega
  · exact mem_take_succ (p := fun y => (y.length : Int) ≤ v + x.length) hx (fun y hy => by have := h2 y (List.mem_append_right _ hy); omega) (by omega) y hy
theorem mem_take_succ' {l : List EvM} {k : Nat} {x : EvM} (hx : l[k]? = some x) {p : EvM → Prop} (h : ∀ y ∈ l.take k, p y) (hp : p x) : ∀ y ∈ l.take (k + 1), p y := by
  obtain ⟨hl, e⟩ := List.getElem?_eq_some_iff.1 hx
  rw [List.take_succ_eq_append_getElem hl, e]
  intro y hy
  rcases List.mem_append.1 hy with hy | hy
  · exact h y hy
  · simp at hy; subst hy; exact hp
set_option maxRecDepth 100000 in
set_option maxHeartbeats 4000000 in
theorem few_any (A : Option Addr) (c : Nat) (ms : List EvM) (w : World) (h : RdE w A ms) (hL : ∀ m ∈ ms, LenM m) (hlc : ms.length ≤ c) (hc : c ≤ maxLen) : Calls Tryd.prog 6 #[.slice A ms.length c] w fun e w' => ∃ r : Bool, e = .returned (.bool r) ∧ w' = w ∧ (r = true → (∀ m ∈ ms, FewM m) ∧ ms.length ≤ 20) := by
  have H := Lib.hid h
  have HLM := Lib.hid hL
  unfold maxLen at hc
  clear h hL
  go_enter Tryd.func6, Tryd.ntmps6
  go_wp2_with fail
  go_loopg [3, 4, 5, 6] ms.length (fun gg iv _ _ _ wr => ∃ k : Nat, k ≤ ms.length ∧ ms.length - k ≤ gg ∧ iv = .int .i64 k ∧ wr = w ∧ Hid (∀ m ∈ ms.take k, FewM m))
  case atStart => exact ⟨0, by omega, by omega, rfl, rfl, Lib.hid (by simp)⟩
  case round =>
    obtain ⟨k, hk, hgk, rfl, rfl, F⟩ := hrel
    by_cases hlt : k < ms.length
    · obtain ⟨b, o, m, hA, hbl, hmk, hcell, hgm⟩ := H.out.at_ hlt
      subst hA
      have hlm := HLM.out m (List.mem_of_getElem? hmk)
      have c17 := ev_cell hcell 17 rfl
      have c18 := ev_cell hcell 18 rfl
      have HGR : Hid (Rd wr m.ga m.e.groups) := Lib.hid hgm.rg
      have HSR : Hid (Rd wr m.sa m.e.sites) := Lib.hid hgm.rs
      have HLM1 := Lib.hid hlm
      have HMK := Lib.hid hmk
      have hgl := hgm.gl
      have hgc := hgm.gc
      have hsl := hgm.sl
      have hsc := hgm.sc
      unfold maxLen at hgl hsl
      clear hcell hgm hlm hmk
      go_wp2_with fail
      go_loopg [4, 5] m.e.groups.length (fun gg nv kv wr2 => ∃ (q : Nat) (v : Int), q ≤ m.e.groups.length ∧ m.e.groups.length - q ≤ gg ∧ kv = .int .i64 q ∧ nv = .int .i64 v ∧ (Lit.int .i64 v).wf = true ∧ wr2 = wr ∧ Hid (q ≤ 30 → SumOk v (m.e.groups.take q) q))
      case atStart => exact ⟨0, 0, by omega, by omega, rfl, rfl, rfl, rfl, Lib.hid fun _ => ⟨by omega, by omega, by simp⟩⟩
      case round =>
        obtain ⟨q, v, hq, hgq, rfl, rfl, hwv, rfl, G⟩ := hrel
        by_cases hlq : q < m.e.groups.length
        · obtain ⟨b2, o2, x, hga, hbl2, hxq, hcx⟩ := HGR.out.at_ hlq
          rw [hga] at c17
          have HXQ := Lib.hid hxq
          have hxl := HLM1.out.lg x (List.mem_of_getElem? hxq)
          clear hxq hga
          go_wp2_with fail
          go_roundg (m.e.groups.length - (q + 1))
          case measure => omega
          case rel => exact ⟨q + 1, _, by omega, by omega, by go_num, rfl, wrap64_wf _, rfl, Lib.hid fun h => (G.out (by omega)).step HXQ.out (by omega) (by omega)⟩
        · obtain rfl : q = m.e.groups.length := by omega
          have G1 : Hid (m.e.groups.length ≤ 30 → SumOk v m.e.groups m.e.groups.length) := Lib.hid fun h => by have := G.out h; rwa [List.take_length] at this
          clear G
          go_wp2_with fail
          go_loopg [4, 6] m.e.sites.length (fun gg nv kv wr2 => ∃ (q : Nat) (v : Int), q ≤ m.e.sites.length ∧ m.e.sites.length - q ≤ gg ∧ kv = .int .i64 q ∧ nv = .int .i64 v ∧ (Lit.int .i64 v).wf = true ∧ wr2 = wr ∧ Hid (m.e.groups.length ≤ 30 → q ≤ 80 → SumOk v (m.e.groups ++ m.e.sites.take q) (m.e.groups.length + q)))
          case atStart => exact ⟨0, v, by omega, by omega, rfl, rfl, hwv, rfl, Lib.hid fun h _ => by simpa using G1.out h⟩
          case round =>
            obtain ⟨q, v2, hq2, hgq2, rfl, rfl, hwv2, rfl, G2⟩ := hrel
            by_cases hlq : q < m.e.sites.length
            · obtain ⟨b2, o2, x, hga, hbl2, hxq, hcx⟩ := HSR.out.at_ hlq
              rw [hga] at c18
              have HXQ := Lib.hid hxq
              have hxl := HLM1.out.ls x (List.mem_of_getElem? hxq)
              clear hxq hga
              go_wp2_with fail
              go_roundg (m.e.sites.length - (q + 1))
              case measure => omega
              case rel => exact ⟨q + 1, _, by omega, by omega, by go_num, rfl, wrap64_wf _, rfl, Lib.hid fun h h2 => (G2.out h (by omega)).step2 HXQ.out (by omega) (by omega)⟩
            · obtain rfl : q = m.e.sites.length := by omega
              have G3 : Hid (m.e.groups.length ≤ 30 → m.e.sites.length ≤ 80 → SumOk v2 (m.e.groups ++ m.e.sites) (m.e.groups.length + m.e.sites.length)) := Lib.hid fun h h2 => by have := G2.out h h2; rwa [List.take_length] at this
              clear G2 G1
              by_cases hg30 : 30 < m.e.groups.length
              · go_wp2_with fail
                go_ret
                first | exact ⟨false, rfl, rfl, fun h => by cases h⟩ | exact .inl ⟨rfl, rfl⟩
              by_cases hs80 : 80 < m.e.sites.length
              · go_wp2_with fail
                go_ret
                first | exact ⟨false, rfl, rfl, fun h => by cases h⟩ | exact .inl ⟨rfl, rfl⟩
              by_cases h4 : 4000 < v2
              · go_wp2_with fail
                go_ret
                first | exact ⟨false, rfl, rfl, fun h => by cases h⟩ | exact .inl ⟨rfl, rfl⟩
              have hF : FewM m := by
                have hs := G3.out (by omega) (by omega)
                refine ⟨by omega, by omega, fun x hx => ?_, fun x hx => ?_⟩
                · have := hs.2.2 x (List.mem_append_left _ hx); omega
                · have := hs.2.2 x (List.mem_append_right _ hx); omega
              have HF := Lib.hid hF
              clear hF
              go_wp2_with fail
              go_roundg (ms.length - (k + 1))
              case measure => omega
              case rel => exact ⟨k + 1, by omega, by omega, by go_num, rfl, Lib.hid (mem_take_succ' HMK.out F.out HF.out)⟩
    · obtain rfl : k = ms.length := by omega
      have F1 : Hid (∀ m ∈ ms, FewM m) := Lib.hid (by have := F.out; rwa [List.take_length] at this)
      clear F
      go_wp2_with fail
      go_ret
      exact ⟨_, rfl, rfl, fun h => ⟨F1.out, by have := of_decide_eq_true h; omega⟩⟩
end Go.Proofs.YthgefcoaaommkaaDoor
