/- The model's reading of the text of statistics, line by line, is the program's. Of no program. -/
import Derived.Test.YthgefcoaaommkaaGreatDoorSrParse
namespace Go.Sr
open Go.Lib Go.Gn Go.Maps Go.Nr Go.Proofs.YthgefcoaaommkaaGreatDoor

theorem parts_nl_none {s : List UInt8} (h : s.dropWhile nl = []) : parts 10 s = [s] := by
  induction s with
  | nil => rfl
  | cons a s ih =>
    rw [List.dropWhile_cons] at h
    split at h
    · rename_i ha
      have ne : a ≠ 10 := by unfold nl at ha; simpa using ha
      rw [parts_cons_ne ne, ih h]; rfl
    · cases h
theorem parts_nl_some {s : List UInt8} {c : UInt8} {rest : List UInt8} (h : s.dropWhile nl = c :: rest) : parts 10 s = s.takeWhile nl :: parts 10 rest := by
  induction s with
  | nil => cases h
  | cons a s ih =>
    rw [List.dropWhile_cons] at h
    split at h
    · rename_i ha
      have ne : a ≠ 10 := by unfold nl at ha; simpa using ha
      rw [parts_cons_ne ne, ih h, List.takeWhile_cons_of_pos ha]; rfl
    · rename_i ha
      have e : a = 10 := by unfold nl at ha; simpa using ha
      cases h
      rw [List.takeWhile_cons_of_neg ha, e, parts_cons_eq]
def mEnd (st : Sx) (i : Nat) : Nat × Nat := if sumZ st.zs ≠ totalD st.ds then (i, 3) else if 1000000 < totalD st.ds then (i, 9) else (0, 0)
/-- What remains to be said of the lines that remain. -/
def mL (v : Int → List UInt8 → Bool) (st : Sx) (i : Nat) : List (List UInt8) → Nat × Nat
  | [] => (0, 0)
  | [s] => if s = [] then mEnd st i else (i + 1, 4)
  | s :: r :: l => match rowP v s with
    | .inr e => (i + 1, e)
    | .inl x => if follows x st.prev st.day = true then mL v (putX st x) (i + 1) (r :: l) else (i + 1, 30)
def outP : Sx ⊕ (Nat × Nat) → Nat × Nat
  | .inl _ => (0, 0)
  | .inr r => r
theorem mL_cons {v : Int → List UInt8 → Bool} {st : Sx} {i : Nat} {s : List UInt8} {l : List (List UInt8)} (h : l ≠ []) : mL v st i (s :: l) = match rowP v s with
    | .inr e => (i + 1, e)
    | .inl x => if follows x st.prev st.day = true then mL v (putX st x) (i + 1) l else (i + 1, 30) := by
  cases l with
  | nil => exact absurd rfl h
  | cons r l => rfl
theorem mL_parse (v : Int → List UInt8 → Bool) (s : List UInt8) : ∀ (st : Sx) (i : Nat), mL v st i (parts 10 s) = match parseL v st i s with
    | .inr r => r
    | .inl (st', n) => mEnd st' n := by
  induction hn : s.length using Nat.strongRecOn generalizing s with
  | ind n ih =>
    intro st i
    obtain ⟨R, hR⟩ : ∃ R, parseL v st i s = R := ⟨_, rfl⟩
    rw [hR]
    rw [parseL] at hR
    by_cases h0 : s = []
    · rw [if_pos h0] at hR
      rw [← hR, h0]; rfl
    rw [if_neg h0] at hR
    split at hR
    · rename_i hd
      rw [parts_nl_none hd, ← hR]
      show (if s = [] then _ else _) = _
      rw [if_neg h0]
    · rename_i c rest hd
      rw [parts_nl_some hd, mL_cons (parts_ne_nil 10 rest)]
      cases hr : rowP v (s.takeWhile nl) with
      | inr e => rw [hr] at hR; rw [← hR]
      | inl x =>
        rw [hr] at hR
        have hR : (if follows x st.prev st.day = true then parseL v (putX st x) (i + 1) rest else .inr (i + 1, 30)) = R := hR
        simp only
        by_cases hf : follows x st.prev st.day = true
        · rw [if_pos hf] at hR
          rw [if_pos hf, ← hR]
          exact ih rest.length (by rw [← hn]; exact drop_nl hd) rest rfl _ _
        · rw [if_neg hf] at hR
          rw [if_neg hf, ← hR]
theorem mL_all (v : Int → List UInt8 → Bool) (t : List UInt8) : mL v st0 0 (parts 10 t) = outP (parseP v t) := by
  rw [mL_parse]
  unfold parseP
  cases parseL v st0 0 t with
  | inr r => rfl
  | inl q =>
    obtain ⟨st, n⟩ := q
    unfold mEnd outP
    simp only
    split
    · rfl
    split <;> rfl
/-! ### what the model keeps of the lines behind it -/
structure Mo (st : Sx) (i : Nat) (bk : Int) (bn : List UInt8) (last size art sum : Int) : Prop where
  fbk : bk = st.prev.sort
  fbn : 1 ≤ st.prev.sort → st.prev.sort ≤ 3 → bn = st.prev.name
  flo : -1 ≤ st.prev.sort
  fhi : st.prev.sort ≤ 4
  fsize4 : st.prev.sort = 4 → size = st.prev.first ∧ 0 ≤ size
  fsize : st.prev.sort ≠ 4 → size = -1
  flast0 : st.prev.sort = -1 → last = -1
  flast : 0 ≤ st.prev.sort → st.prev.sort ≤ 3 → last = st.day ∧ 0 ≤ last
  fart : art = totalD st.ds
  fsum : sum = sumZ st.zs
  fartb : 0 ≤ art ∧ art ≤ i * 1000000
  fsumb : 0 ≤ sum ∧ sum ≤ i * 1000000
  inv : ∃ T, InvX st T
theorem Mo.start : Mo st0 0 (-1) [] (-1) (-1) 0 0 where
  fbk := rfl
  fbn h := by simp [st0] at h
  flo := by simp [st0]
  fhi := by simp [st0]
  fsize4 h := by simp [st0] at h
  fsize _ := rfl
  flast0 _ := rfl
  flast h := by simp [st0] at h
  fart := rfl
  fsum := by decide
  fartb := by omega
  fsumb := by omega
  inv := ⟨[], InvX.start⟩
section
variable {st : Sx} {i : Nat} {bk : Int} {bn : List UInt8} {last size art sum : Int}
theorem Mo.seq_day (h : Mo st i bk bn last size art sum) {x : Rw} (hx : x.sort = 0) (h0 : 0 ≤ x.first) : follows x st.prev st.day = true ↔ ¬ (0 ≤ size) ∧ ¬ (x.first ≤ last) := by
  unfold follows
  rw [if_pos hx]
  simp only [Bool.or_eq_true, Bool.and_eq_true, decide_eq_true_eq, ne_eq]
  have a := h.flo; have b := h.fhi; have c := h.fsize4; have d := h.fsize; have e := h.flast0; have f := h.flast
  by_cases s4 : st.prev.sort = 4
  · have := c s4; omega
  · have := d s4
    by_cases s1 : st.prev.sort = -1
    · have := e s1; omega
    · have := f (by omega) (by omega); omega
theorem Mo.seq_size (h : Mo st i bk bn last size art sum) {x : Rw} (hx : x.sort = 4) (h0 : 0 ≤ x.first) : follows x st.prev st.day = true ↔ ¬ (x.first ≤ size) := by
  unfold follows
  rw [if_neg (by omega), if_pos hx]
  simp only [Bool.or_eq_true, decide_eq_true_eq, ne_eq]
  have c := h.fsize4; have d := h.fsize
  by_cases s4 : st.prev.sort = 4
  · have := c s4; omega
  · have := d s4; omega
theorem or2_pos {a b : Int} : 0 < or2 a b ↔ 0 < a ∨ (a = 0 ∧ 0 < b) := by
  unfold or2
  split <;> omega
theorem Mo.seq_name (h : Mo st i bk bn last size art sum) {x : Rw} (h1 : 1 ≤ x.sort) (h3 : x.sort ≤ 3) : follows x st.prev st.day = true ↔ ¬ last < 0 ∧ ¬ 0 ≤ size ∧ ¬ x.sort < bk ∧ ¬ (x.sort = bk ∧ ¬ 0 < scmp x.name bn) := by
  unfold follows
  rw [if_neg (by omega), if_neg (by omega)]
  simp only [Bool.and_eq_true, Bool.not_eq_true', Bool.or_eq_false_iff, decide_eq_false_iff_not, decide_eq_true_eq, or2_pos]
  have a := h.flo; have b := h.fhi; have c := h.fsize4; have d := h.fsize; have e := h.flast0; have f := h.flast
  have g := h.fbk
  have z := icmp_lin.zero x.sort st.prev.sort
  have l1 := icmp_lt st.prev.sort x.sort
  have an := icmp_lin.anti x.sort st.prev.sort
  by_cases s4 : st.prev.sort = 4
  · have := c s4; omega
  · have := d s4
    by_cases s1 : st.prev.sort = -1
    · have := e s1; omega
    · have := f (by omega) (by omega)
      by_cases hk : x.sort = bk
      · have hb := h.fbn (by omega) (by omega)
        rw [hb]
        have z2 := z.2 (by omega)
        constructor
        · rintro ⟨_, h2⟩
          exact ⟨by omega, by omega, by omega, fun h5 => h5.2 (by omega)⟩
        · rintro ⟨_, _, _, h5⟩
          refine ⟨by omega, .inr ⟨z2, ?_⟩⟩
          rcases Int.lt_or_le 0 (scmp x.name st.prev.name) with h6 | h6
          · exact h6
          · exact absurd ⟨hk, by omega⟩ h5
      · have z2 : ¬ icmp x.sort st.prev.sort = 0 := fun h5 => hk (by rw [g]; exact z.1 h5)
        constructor
        · rintro ⟨_, h2⟩
          have : 0 < icmp x.sort st.prev.sort := by omega
          exact ⟨by omega, by omega, by omega, fun h5 => hk h5.1⟩
        · rintro ⟨_, _, h4, _⟩
          have : st.prev.sort < x.sort := by omega
          have := l1.2 this
          exact ⟨by omega, .inl (by omega)⟩
theorem totalD_snoc (ds : List (Int × C)) (q : Int × C) : totalD (ds ++ [q]) = totalD ds + q.2.1 := by
  unfold totalD
  rw [List.map_append]
  show (sumC (ds.map (·.2) ++ [q.2])).1 = _
  unfold sumC
  rw [List.foldl_append]
  rfl
theorem sumZ_set (zs : List Int) (k : Nat) (a : Int) (hk : k < zs.length) (h0 : zs.getD k 0 = 0) : sumZ (zs.set k a) = sumZ zs + a := by
  have hf : ∀ (l : List Int) (z : Int), l.foldl (· + ·) z = z + l.foldl (· + ·) 0 := by
    intro l
    induction l with
    | nil => intro z; show z = z + 0; omega
    | cons x l ih => intro z; rw [List.foldl_cons, List.foldl_cons, ih (z + x), ih (0 + x)]; omega
  have hc : ∀ (x : Int) (l : List Int), sumZ (x :: l) = x + sumZ l := fun x l => by
    unfold sumZ
    rw [List.foldl_cons, hf l (0 + x)]; omega
  induction zs generalizing k with
  | nil => simp at hk
  | cons x zs ih =>
    cases k with
    | zero =>
      have h0 : x = 0 := h0
      rw [List.set_cons_zero, hc, hc, h0]; omega
    | succ k =>
      rw [List.set_cons_succ, hc, hc, ih k (by simpa using hk) (by simpa using h0)]; omega
theorem Mo.put_day (h : Mo st i bk bn last size art sum) {x : Rw} (n : List UInt8) (hx : x.sort = 0) (h0 : 0 ≤ x.first) (ha : 0 ≤ x.c.1) (hb : x.c.1 ≤ 1000000) (hf : follows x st.prev st.day = true) (hi : ∃ T, InvX (putX st x) T) : Mo (putX st x) (i + 1) 0 n x.first size (art + x.c.1) sum := by
  obtain ⟨T, hT⟩ := h.inv
  have hq := (h.seq_day hx h0).1 hf
  have s4 : st.prev.sort ≠ 4 := fun e => hq.1 (h.fsize4 e).2
  have hlow := hT.low s4 (d := x.first) (by
    have a := h.flo
    by_cases s1 : st.prev.sort = -1
    · exact .inl (by omega)
    · have := h.flast (by omega) (by have := h.fhi; omega)
      exact .inr (by omega))
  have hnew := inc_not icmp_lin hlow
  have hds : (putX st x).ds = st.ds ++ [(x.first, x.c)] := by unfold putX; simp only; rw [if_pos hx, putA_new hnew]
  have hzs : (putX st x).zs = st.zs := by unfold putX; simp only; rw [if_neg (by omega)]
  have hp : (putX st x).prev = x := rfl
  have hd : (putX st x).day = x.first := by unfold putX; simp only; rw [if_pos hx]
  refine ⟨by rw [hp, hx], fun h1 => by rw [hp] at h1; omega, by rw [hp]; omega, by rw [hp]; omega, fun h1 => by rw [hp] at h1; omega, fun _ => h.fsize s4, fun h1 => by rw [hp] at h1; omega, fun _ _ => ⟨hd.symm, h0⟩, ?_, by rw [hzs]; exact h.fsum, ?_, ?_, hi⟩
  · rw [hds, totalD_snoc, h.fart]
  · have := h.fartb; omega
  · have := h.fsumb; omega
theorem Mo.put_size (h : Mo st i bk bn last size art sum) {x : Rw} (n : List UInt8) (hx : x.sort = 4) (h0 : 0 ≤ x.first) (h17 : x.first ≤ 17) (ha : 0 ≤ x.c.1) (hb : x.c.1 ≤ 1000000) (hf : follows x st.prev st.day = true) (hi : ∃ T, InvX (putX st x) T) : Mo (putX st x) (i + 1) 4 n last x.first art (sum + x.c.1) := by
  obtain ⟨T, hT⟩ := h.inv
  have hq := (h.seq_size hx h0).1 hf
  have hds : (putX st x).ds = st.ds := by unfold putX; simp only; rw [if_neg (by omega)]
  have hzs : (putX st x).zs = st.zs.set x.first.toNat x.c.1 := by unfold putX; simp only; rw [if_pos hx]
  have hp : (putX st x).prev = x := rfl
  have hz : st.zs.getD x.first.toNat 0 = 0 := by
    by_cases s4 : st.prev.sort = 4
    · have h1 := hT.tail s4
      have := h.fsize4 s4
      exact h1.2 _ (by omega)
    · rw [hT.zero s4]
      rw [List.getD_eq_getElem?_getD, List.getElem?_replicate]
      split <;> rfl
  refine ⟨by rw [hp, hx], fun h1 => by rw [hp]; omega, by rw [hp]; omega, by rw [hp]; omega, fun _ => ⟨by rw [hp], h0⟩, fun h1 => by rw [hp] at h1; omega, fun h1 => by rw [hp] at h1; omega, fun _ h1 => by rw [hp] at h1; omega, by rw [hds]; exact h.fart, ?_, ?_, ?_, hi⟩
  · rw [hzs, sumZ_set _ _ _ (by rw [hT.len]; omega) hz, h.fsum]
  · have := h.fartb; omega
  · have := h.fsumb; omega
theorem Mo.put_name (h : Mo st i bk bn last size art sum) {x : Rw} (h1 : 1 ≤ x.sort) (h3 : x.sort ≤ 3) (hf : follows x st.prev st.day = true) (hi : ∃ T, InvX (putX st x) T) : Mo (putX st x) (i + 1) x.sort x.name last size art sum := by
  have hq := (h.seq_name h1 h3).1 hf
  have hds : (putX st x).ds = st.ds := by unfold putX; simp only; rw [if_neg (by omega)]
  have hzs : (putX st x).zs = st.zs := by unfold putX; simp only; rw [if_neg (by omega)]
  have hp : (putX st x).prev = x := rfl
  have hd : (putX st x).day = st.day := by unfold putX; simp only; rw [if_neg (by omega)]
  have s4 : st.prev.sort ≠ 4 := fun e => hq.2.1 (h.fsize4 e).2
  have s0 : st.prev.sort ≠ -1 := fun e => hq.1 (by have := h.flast0 e; omega)
  have hl := h.flast (by have := h.flo; omega) (by have := h.fhi; omega)
  refine ⟨by rw [hp], fun _ _ => by rw [hp], by rw [hp]; omega, by rw [hp]; omega, fun h1 => by rw [hp] at h1; omega, fun _ => h.fsize s4, fun h1 => by rw [hp] at h1; omega, fun _ _ => by rw [hd]; exact hl, by rw [hds]; exact h.fart, by rw [hzs]; exact h.fsum, ?_, ?_, hi⟩
  · have := h.fartb; omega
  · have := h.fsumb; omega
end
end Go.Sr
