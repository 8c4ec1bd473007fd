/- The program's reading of a text, line by line; what holds of what was read. Of no program. -/
import Derived.Test.YthgefcoaaommkaaGreatDoorSrParse
import Derived.Lib.IndexMore
namespace Go.Sr
open Go.Lib Go.Gn Go.Maps Go.Nr Go.Proofs.YthgefcoaaommkaaGreatDoor

theorem index_byte (c : UInt8) : ∀ s : List UInt8, index s [c] = if (s.dropWhile (· != c)) = [] then -1 else ((s.takeWhile (· != c)).length : Int)
  | [] => by simp [index]
  | b :: l => by
    have ih := index_byte c l
    unfold index
    by_cases h : b = c
    · subst h
      have h1 : (b != b) = false := by simp
      rw [List.dropWhile_cons, h1, List.takeWhile_cons, h1]
      simp [List.isPrefixOf]
    · have h1 : (b != c) = true := by simpa using h
      have h2 : (c == b) = false := by simp; exact fun e => h e.symm
      have h3 : [c].isPrefixOf (b :: l) = false := by simp [List.isPrefixOf, h2]
      rw [h3, List.dropWhile_cons, if_pos h1, List.takeWhile_cons, if_pos h1, ih, if_neg Bool.false_ne_true]
      by_cases e : l.dropWhile (· != c) = []
      · rw [if_pos e, if_pos e, if_pos (by rfl)]
      · rw [if_neg e, if_neg e]
        have : ((((l.takeWhile (· != c)).length : Int)) == -1) = false := beq_eq_false_iff_ne.2 (by omega)
        rw [this, if_neg Bool.false_ne_true]
        simp
/-- A cut at one byte. -/
theorem cut_byte (c : UInt8) (s : List UInt8) : cut s [c] = match s.dropWhile (· != c) with | [] => (s, [], false) | _ :: t => (s.takeWhile (· != c), t, true) := by
  unfold cut
  rw [index_byte]
  cases h : s.dropWhile (· != c) with
  | nil => simp
  | cons x t =>
    have e := List.takeWhile_append_dropWhile (p := (· != c)) (l := s)
    rw [h] at e
    simp only [reduceCtorEq, if_false]
    rw [if_pos (by omega)]
    have hl : (((s.takeWhile (· != c)).length : Int)).toNat = (s.takeWhile (· != c)).length := by omega
    rw [hl]
    obtain ⟨p, hp⟩ : ∃ p, s.takeWhile (· != c) = p := ⟨_, rfl⟩
    rw [hp] at e ⊢
    have h1 : s.take p.length = p := by rw [← e]; simp
    have h2 : s.drop (p.length + [c].length) = t := by rw [← e]; simp
    rw [h1, h2]
theorem cut_nl (s : List UInt8) : Lib.cut s [10] = match s.dropWhile nl with | [] => (s, [], false) | _ :: t => (s.takeWhile nl, t, true) := cut_byte 10 s
section
variable {v : Int → List UInt8 → Bool} {st : Sx} {n : Nat} {s : List UInt8} {c : UInt8} {rest : List UInt8} {x : Rw} {e : Nat}
theorem pL_nil : parseL v st n [] = .inl (st, n) := by rw [parseL, if_pos rfl]
theorem pL_none (h0 : s ≠ []) (hd : s.dropWhile nl = []) : parseL v st n s = .inr (n + 1, 4) := by
  obtain ⟨R, hR⟩ : ∃ R, parseL v st n s = R := ⟨_, rfl⟩
  rw [hR]
  rw [parseL, if_neg h0] at hR
  split at hR
  · exact hR.symm
  · rename_i h; rw [hd] at h; cases h
theorem pL_some (hd : s.dropWhile nl = c :: rest) : parseL v st n s = match rowP v (s.takeWhile nl) with
    | .inr e => .inr (n + 1, e)
    | .inl x => if follows x st.prev st.day = true then parseL v (putX st x) (n + 1) rest else .inr (n + 1, 30) := by
  have h0 : s ≠ [] := fun e => by rw [e] at hd; cases hd
  obtain ⟨R, hR⟩ : ∃ R, parseL v st n s = R := ⟨_, rfl⟩
  rw [hR]
  rw [parseL, if_neg h0] at hR
  split at hR
  · rename_i h; rw [hd] at h; cases h
  · rename_i c' rest' h
    rw [hd] at h
    cases h
    exact hR.symm
theorem pL_err (hd : s.dropWhile nl = c :: rest) (hr : rowP v (s.takeWhile nl) = .inr e) : parseL v st n s = .inr (n + 1, e) := by rw [pL_some hd, hr]
theorem pL_seq (hd : s.dropWhile nl = c :: rest) (hr : rowP v (s.takeWhile nl) = .inl x) (hf : ¬ follows x st.prev st.day = true) : parseL v st n s = .inr (n + 1, 30) := by rw [pL_some hd, hr]; simp only; rw [if_neg hf]
theorem pL_go (hd : s.dropWhile nl = c :: rest) (hr : rowP v (s.takeWhile nl) = .inl x) (hf : follows x st.prev st.day = true) : parseL v st n s = parseL v (putX st x) (n + 1) rest := by rw [pL_some hd, hr]; simp only; rw [if_pos hf]
end
/-! ### bounds -/
def NumR (c : C) : Prop := 1 ≤ c.1 ∧ c.1 ≤ 1000000 ∧ 0 ≤ c.2 ∧ c.2 ≤ 65536000000
theorem wordsP_len {w : List (List UInt8)} {x : Rw} (h : wordsP w = some x) : x.name = [] ∨ x.name = w.getD 1 [] := by
  unfold wordsP at h
  by_cases h0 : kindW (w.headD []) < 0 ∨ (w.length : Int) ≠ (if kindW (w.headD []) = 4 then 3 else 4)
  · rw [if_pos h0] at h; cases h
  rw [if_neg h0] at h
  by_cases hk : kindW (w.headD []) = 0 ∨ kindW (w.headD []) = 4
  · rw [if_pos hk] at h
    obtain ⟨n, hn, h⟩ := Option.bind_eq_some_iff.1 h
    obtain ⟨a, ha, h⟩ := Option.bind_eq_some_iff.1 h
    obtain ⟨b, hb, h⟩ := Option.bind_eq_some_iff.1 h
    cases h; exact .inl rfl
  · rw [if_neg hk] at h
    obtain ⟨a, ha, h⟩ := Option.bind_eq_some_iff.1 h
    obtain ⟨b, hb, h⟩ := Option.bind_eq_some_iff.1 h
    cases h; exact .inr rfl
theorem rowP_more {v : Int → List UInt8 → Bool} {s : List UInt8} {x : Rw} (h : rowP v s = .inl x) : (0 ≤ x.sort ∧ x.sort ≤ 4) ∧ 0 ≤ x.first ∧ (x.sort = 0 → x.first ≤ 73048) ∧ (x.sort = 4 → x.first ≤ 17) ∧ NumR x.c ∧ (1 ≤ x.sort → x.sort ≤ 3 → v x.sort x.name = true) ∧ x.name.length ≤ s.length := by
  unfold rowP at h
  cases hw : wordsP (parts 32 s) with
  | none => rw [hw] at h; cases h
  | some y =>
    rw [hw] at h
    obtain ⟨h1, h2, h3, h4, h5, h6⟩ := wordsP_text hw
    have hl := wordsP_len hw
    have h : chkR v y = .inl x := h
    unfold chkR at h
    split at h
    · cases h
    rename_i hnv
    split at h
    · cases h
    · rename_i hr
      cases h
      refine ⟨⟨h2, h3⟩, h4, fun e => by omega, fun e => by omega, ⟨by omega, by omega, h6, by omega⟩, fun a b => ?_, ?_⟩
      · cases hv : v x.sort x.name with
        | true => rfl
        | false => exact absurd ⟨⟨a, b⟩, hv⟩ hnv
      · rcases hl with hl | hl
        · rw [hl]; simp
        · rw [hl]
          cases hg : (parts 32 s)[1]? with
          | none => rw [List.getD_eq_getElem?_getD, hg]; simp
          | some z => rw [List.getD_eq_getElem?_getD, hg]; exact parts_le 32 s z (List.mem_of_getElem? hg)
/-- What holds of what was read of a text of N bytes, behind n lines. -/
structure BdS (v : Int → List UInt8 → Bool) (N : Nat) (st : Sx) (n : Nat) : Prop where
  day : 0 ≤ st.day ∧ st.day ≤ 73048
  ds : ∀ q ∈ st.ds, (0 ≤ q.1 ∧ q.1 ≤ 73048) ∧ NumR q.2
  ns : ∀ q ∈ st.ns, (0 ≤ q.1.1 ∧ q.1.1 ≤ 73048) ∧ (1 ≤ q.1.2.1 ∧ q.1.2.1 ≤ 3) ∧ v q.1.2.1 q.1.2.2 = true ∧ q.1.2.2.length ≤ N ∧ NumR q.2
  zs : ∀ k, 0 ≤ st.zs.getD k 0 ∧ st.zs.getD k 0 ≤ 1000000
  zl : st.zs.length = 18
  dn : st.ds.length ≤ n
  nn : st.ns.length ≤ n
theorem BdS.start (v : Int → List UInt8 → Bool) (N : Nat) : BdS v N st0 0 where
  day := by simp [st0]
  ds q h := by simp [st0] at h
  ns q h := by simp [st0] at h
  zs k := by
    have e : st0.zs.getD k 0 = 0 := by
      unfold st0
      rw [List.getD_eq_getElem?_getD, List.getElem?_replicate]
      split <;> rfl
    rw [e]; omega
  zl := by simp [st0]
  dn := by simp [st0]
  nn := by simp [st0]
theorem mem_putA {κ β : Type} [DecidableEq κ] {L : List (κ × β)} {x : κ} {c : β} {q : κ × β} (h : q ∈ putA L x c) : q ∈ L ∨ q = (x, c) := by
  unfold putA at h
  split at h
  · obtain ⟨p, hp, e⟩ := List.mem_map.1 h
    split at e
    · exact .inr e.symm
    · rw [← e]; exact .inl hp
  · rcases List.mem_append.1 h with h | h
    · exact .inl h
    · exact .inr (List.mem_singleton.1 h)
theorem putA_len {κ β : Type} [DecidableEq κ] (L : List (κ × β)) (x : κ) (c : β) : (putA L x c).length ≤ L.length + 1 := by
  unfold putA
  split
  · rw [List.length_map]; omega
  · simp
theorem BdS.put {v : Int → List UInt8 → Bool} {N : Nat} {st : Sx} {n : Nat} (h : BdS v N st n) {s : List UInt8} {x : Rw} (hr : rowP v s = .inl x) (hs : s.length ≤ N) : BdS v N (putX st x) (n + 1) := by
  obtain ⟨⟨h0, h4⟩, hf, hf0, hf4, hn, hv, hl⟩ := rowP_more hr
  refine ⟨?_, ?_, ?_, ?_, ?_, ?_, ?_⟩
  · unfold putX
    simp only
    split
    · rename_i e; exact ⟨hf, hf0 e⟩
    · exact h.day
  · unfold putX
    simp only
    split
    · rename_i e
      intro q hq
      rcases mem_putA hq with hq | hq
      · exact h.ds q hq
      · rw [hq]; exact ⟨⟨hf, hf0 e⟩, hn⟩
    · exact h.ds
  · unfold putX
    simp only
    split
    · exact h.ns
    · rename_i e
      intro q hq
      rcases mem_putA hq with hq | hq
      · exact h.ns q hq
      · rw [hq]; exact ⟨h.day, by show 1 ≤ x.sort ∧ x.sort ≤ 3; omega, hv (by omega) (by omega), by show x.name.length ≤ N; omega, hn⟩
  · intro k
    unfold putX
    simp only
    split
    · have h1 : 0 ≤ x.c.1 ∧ x.c.1 ≤ 1000000 := ⟨by have := hn.1; omega, hn.2.1⟩
      have h2 := h.zs k
      rw [List.getD_eq_getElem?_getD, List.getElem?_set]
      split
      · split
        · exact h1
        · exact ⟨Int.le_refl 0, by show (0 : Int) ≤ 1000000; omega⟩
      · rw [List.getD_eq_getElem?_getD] at h2; exact h2
    · exact h.zs k
  · unfold putX
    simp only
    split
    · rw [List.length_set]; exact h.zl
    · exact h.zl
  · unfold putX
    simp only
    have := putA_len st.ds x.first x.c
    have := h.dn
    split <;> omega
  · unfold putX
    simp only
    have := putA_len st.ns (st.day, x.sort, x.name) x.c
    have := h.nn
    split <;> omega
theorem inc_len : ∀ (l : List Int) (a b : Int), Inc icmp l → (∀ x ∈ l, a ≤ x ∧ x ≤ b) → l.length ≤ (b - a + 1).toNat
  | [], _, _, _, _ => Nat.zero_le _
  | x :: l, a, b, hi, h => by
    obtain ⟨h1, h2⟩ := List.pairwise_cons.1 hi
    have hx := h x (by simp)
    have := inc_len l (x + 1) b h2 fun y hy => by
      have := (icmp_lt x y).1 (h1 y hy)
      have := h y (by simp [hy])
      omega
    rw [List.length_cons]
    omega
/-- The days that were read are few. -/
theorem days_few {v : Int → List UInt8 → Bool} {N : Nat} {st : Sx} {n : Nat} (h : BdS v N st n) {T : List UInt8} (hi : InvX st T) : st.ds.length ≤ 100000 := by
  have := inc_len (st.ds.map (·.1)) 0 73048 hi.incd fun x hx => by
    obtain ⟨q, hq, rfl⟩ := List.mem_map.1 hx
    exact (h.ds q hq).1
  rw [List.length_map] at this
  omega
theorem sumZ_take {zs : List Int} {k : Nat} (hk : k < zs.length) : sumZ (zs.take (k + 1)) = sumZ (zs.take k) + zs.getD k 0 := by
  rw [List.take_succ_eq_append_getElem hk]
  unfold sumZ
  rw [List.foldl_append, List.getD_eq_getElem?_getD, List.getElem?_eq_getElem hk]
  rfl
theorem sumZ_bnd {zs : List Int} (h : ∀ k, 0 ≤ zs.getD k 0 ∧ zs.getD k 0 ≤ 1000000) : ∀ k, k ≤ zs.length → 0 ≤ sumZ (zs.take k) ∧ sumZ (zs.take k) ≤ k * 1000000
  | 0, _ => by simp [sumZ]
  | k + 1, hk => by
    have := sumZ_bnd h k (by omega)
    have := h k
    rw [sumZ_take (by omega)]
    omega
theorem rowP_err {v : Int → List UInt8 → Bool} {s : List UInt8} {e : Nat} (h : rowP v s = .inr e) : e ≠ 0 := by
  unfold rowP at h
  cases hw : wordsP (parts 32 s) with
  | none => rw [hw] at h; injection h with h; omega
  | some y =>
    rw [hw] at h
    have h : chkR v y = .inr e := h
    unfold chkR at h
    split at h
    · injection h with h; omega
    split at h
    · injection h with h; omega
    · cases h
theorem parseL_bd (v : Int → List UInt8 → Bool) (N : Nat) (s : List UInt8) : ∀ (st : Sx) (n : Nat), BdS v N st n → s.length ≤ N → (match parseL v st n s with
    | .inl (st', n') => BdS v N st' n' ∧ n' ≤ n + s.length
    | .inr (_, e) => e ≠ 0) := by
  induction hn : s.length using Nat.strongRecOn generalizing s with
  | ind k ih =>
    intro st n h hN
    by_cases h0 : s = []
    · rw [h0, pL_nil]; exact ⟨h, by omega⟩
    cases hd : s.dropWhile nl with
    | nil => rw [pL_none h0 hd]; simp
    | cons c rest =>
      rw [pL_some hd]
      have hlen : (s.takeWhile nl).length + rest.length + 1 = s.length := by
        have := congrArg List.length (List.takeWhile_append_dropWhile (p := nl) (l := s))
        rw [hd] at this
        simp only [List.length_append, List.length_cons] at this
        omega
      cases hr : rowP v (s.takeWhile nl) with
      | inr e => exact rowP_err hr
      | inl x =>
        simp only
        by_cases hf : follows x st.prev st.day = true
        · rw [if_pos hf]
          have := ih rest.length (by omega) rest rfl (putX st x) (n + 1) (h.put hr (by omega)) (by omega)
          revert this
          cases parseL v (putX st x) (n + 1) rest with
          | inr q => exact id
          | inl q => exact fun h => ⟨h.1, by have := h.2; omega⟩
        · rw [if_neg hf]; simp
/-- What was read is within bounds, an error is none that is 0. -/
theorem parseP_bd (v : Int → List UInt8 → Bool) (t : List UInt8) : match parseP v t with
    | .inl st => BdS v t.length st t.length
    | .inr (_, e) => e ≠ 0 := by
  have h := parseL_bd v t.length t st0 0 (BdS.start v _) (Nat.le_refl _)
  unfold parseP
  revert h
  cases parseL v st0 0 t with
  | inr q => exact id
  | inl q =>
    obtain ⟨st, n⟩ := q
    intro h
    simp only at h ⊢
    by_cases e1 : sumZ st.zs ≠ totalD st.ds
    · rw [if_pos e1]; simp
    by_cases e2 : 1000000 < totalD st.ds
    · rw [if_neg e1, if_pos e2]; simp
    rw [if_neg e1, if_neg e2]
    obtain ⟨h1, h2⟩ := h
    exact ⟨h1.day, h1.ds, h1.ns, h1.zs, h1.zl, by have := h1.dn; omega, by have := h1.nn; omega⟩
end Go.Sr
