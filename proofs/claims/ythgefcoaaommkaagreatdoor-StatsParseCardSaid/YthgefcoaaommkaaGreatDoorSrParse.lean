/- The text of statistics, read. Of no program. -/
import Derived.Test.YthgefcoaaommkaaGreatDoorZa
namespace Go.Sr
open Go.Lib Go.Gn Go.Maps Go.Nr Go.Proofs.YthgefcoaaommkaaGreatDoor

/-! ### the text of lists in order -/
def kk : Ky → Ky → Int := lex2 icmp kcmp
theorem kk_lin : Lin kk := lex2_lin icmp_lin kcmp_lin
def nameLn (q : Ky × C) : List UInt8 := lineN q.1.2.1 q.1.2.2 q.2
def dayS (ns : List (Ky × C)) (q : Int × C) : List UInt8 := lineN 0 (dg q.1) q.2 ++ (ns.filter fun x => decide (x.1.1 = q.1)).flatMap nameLn
theorem insAll_self {α : Type} [DecidableEq α] {c : α → α → Int} (h : Lin c) {l : List α} (hi : Inc c l) : insAll c l = l :=
  inc_uniq h _ _ (insAll_inc h l) hi fun x => by rw [mem_insAll h]
theorem inc_two {α : Type} {c : α → α → Int} (h : Lin c) {l : List α} (hi : Inc c l) : l.Nodup := hi.imp fun {a b} hab e => by
  subst e
  rw [h.self] at hab
  omega
theorem textS {ds : List (Int × C)} {ns : List (Ky × C)} (zs : List Int) (hd : Inc icmp (ds.map (·.1))) (hn : Inc kk (ns.map (·.1))) : textP ds ns zs = ds.flatMap (dayS ns) ++ sizesT zs := by
  unfold textP
  rw [insAll_self icmp_lin hd, List.flatMap_map]
  congr 1
  refine flatMap_same fun q hq => ?_
  unfold dayText dayS
  rw [(getA_iff (inc_two icmp_lin hd) q.1 q.2).2 hq]
  congr 1
  have hf : Inc kcmp ((ns.filter fun x => decide (x.1.1 = q.1)).map (·.1.2)) := by
    unfold Inc at *
    rw [List.pairwise_map] at *
    refine List.Pairwise.imp_of_mem ?_ (hn.filter _)
    intro a b ha hb hab
    have h1 := of_decide_eq_true (List.mem_filter.1 ha).2
    have h2 := of_decide_eq_true (List.mem_filter.1 hb).2
    unfold kk lex2 or2 at hab
    have e : icmp a.1.1 b.1.1 = 0 := (icmp_lin.zero _ _).2 (by rw [h1, h2])
    rw [if_neg (by rw [e]; simp)] at hab
    exact hab
  unfold dayNames
  rw [insAll_self kcmp_lin hf, List.flatMap_map]
  refine flatMap_same fun x hx => ?_
  obtain ⟨h1, h2⟩ := List.mem_filter.1 hx
  have h2 := of_decide_eq_true h2
  have e : (q.1, x.1.2) = x.1 := by rw [← h2]
  unfold nameLn
  rw [e, (getA_iff (inc_two kk_lin hn) x.1 x.2).2 h1]
  rfl
theorem dayS_free {ns : List (Ky × C)} {q : Int × C} (h : ∀ x ∈ ns, x.1.1 ≠ q.1) : dayS ns q = lineN 0 (dg q.1) q.2 := by
  unfold dayS
  rw [List.filter_eq_nil_iff.2 fun x hx => by simpa using h x hx]
  simp
theorem dayS_other {ns : List (Ky × C)} {x : Ky × C} {q : Int × C} (h : x.1.1 ≠ q.1) : dayS (ns ++ [x]) q = dayS ns q := by
  unfold dayS
  rw [List.filter_append, List.filter_cons_of_neg (by simpa using h)]
  simp
theorem dayS_put {ns : List (Ky × C)} {x : Ky × C} {q : Int × C} (h : x.1.1 = q.1) : dayS (ns ++ [x]) q = dayS ns q ++ nameLn x := by
  unfold dayS
  rw [List.filter_append, List.filter_cons_of_pos (by simpa using h)]
  simp
theorem sizesT_zero : ∀ n : Nat, sizesT (List.replicate n 0) = [] := fun n => by
  unfold sizesT
  rw [List.flatMap_eq_nil_iff]
  intro k hk
  have hk : k < n := by simpa using hk
  unfold sizeLn
  rw [if_pos]
  simp [List.getD_eq_getElem?_getD, hk]
theorem range_split (k n : Nat) (h : k < n) : List.range n = List.range k ++ k :: (List.range (n - k - 1)).map (· + (k + 1)) := by
  apply List.ext_getElem?
  intro i
  by_cases h1 : i < k
  · rw [List.getElem?_append_left (by simpa using h1)]
    simp [h1, show i < n by omega]
  · rw [List.getElem?_append_right (by simpa using h1)]
    by_cases h2 : i = k
    · subst h2
      simp [h]
    · obtain ⟨j, rfl⟩ : ∃ j, i = k + 1 + j := ⟨i - k - 1, by omega⟩
      rw [show k + 1 + j - (List.range k).length = j + 1 by simp; omega, List.getElem?_cons_succ, List.getElem?_map]
      by_cases h3 : k + 1 + j < n
      · rw [List.getElem?_range h3, List.getElem?_range (by omega)]
        simp; omega
      · rw [List.getElem?_eq_none (by simpa using h3), List.getElem?_eq_none (by simp; omega)]
        rfl
theorem sizesT_set {zs : List Int} {k : Nat} {a : Int} (hk : k < zs.length) (h0 : ∀ j, k ≤ j → zs.getD j 0 = 0) : sizesT (zs.set k a) = sizesT zs ++ sizeLn k a := by
  unfold sizesT
  rw [List.length_set, range_split k zs.length hk]
  simp only [List.flatMap_append, List.flatMap_cons, List.flatMap_map]
  have e1 : ∀ j, k < j → sizeLn j (zs.getD j 0) = [] := fun j hj => by rw [h0 j (by omega)]; rfl
  have e2 : ∀ j, j ≠ k → (zs.set k a).getD j 0 = zs.getD j 0 := fun j hj => by
    have hj' : ¬ k = j := fun e => hj e.symm
    simp [List.getD_eq_getElem?_getD, hj']
  have e3 : (zs.set k a).getD k 0 = a := by simp [List.getD_eq_getElem?_getD, hk]
  have e4 : (List.range (zs.length - k - 1)).flatMap (fun j => sizeLn (j + (k + 1)) ((zs.set k a).getD (j + (k + 1)) 0)) = [] := by
    rw [List.flatMap_eq_nil_iff]
    intro j _
    rw [e2 _ (by omega), e1 _ (by omega)]
  have e5 : (List.range (zs.length - k - 1)).flatMap (fun j => sizeLn (j + (k + 1)) (zs.getD (j + (k + 1)) 0)) = [] := by
    rw [List.flatMap_eq_nil_iff]
    intro j _
    rw [e1 _ (by omega)]
  have e6 : (List.range k).flatMap (fun j => sizeLn j ((zs.set k a).getD j 0)) = (List.range k).flatMap (fun j => sizeLn j (zs.getD j 0)) := flatMap_same fun j hj => by
    have : j < k := by simpa using hj
    rw [e2 _ (by omega)]
  rw [e4, e5, e6, e3, h0 k (Nat.le_refl _)]
  simp [sizeLn]
/-! ### a line -/
structure Rw where
  sort : Int
  name : List UInt8
  first : Int
  c : C
def nl (c : UInt8) : Bool := c != 10
def okW (s : List UInt8) : Bool := decide (1 ≤ s.length) && decide (s.length ≤ 15) && (decide (s.length = 1) || decide (s.getD 0 0 ≠ 48)) && s.all isDig
def dec (s : List UInt8) : Option Int := if okW s = true then some (val s : Nat) else none
def kindW (s : List UInt8) : Int := if s = wordT 0 then 0 else if s = wordT 1 then 1 else if s = wordT 2 then 2 else if s = wordT 3 then 3 else if s = wordT 4 then 4 else -1
def chkR (v : Int → List UInt8 → Bool) (x : Rw) : Rw ⊕ Nat :=
  if (1 ≤ x.sort ∧ x.sort ≤ 3) ∧ v x.sort x.name = false then .inr 12 else
  if (x.sort = 0 ∧ 73048 < x.first) ∨ (x.sort = 4 ∧ 17 < x.first) ∨ x.c.1 < 1 ∨ 1000000 < x.c.1 ∨ x.c.1 * 65536 < x.c.2 then .inr 2 else .inl x
/-- What the words say, ahead of the checks. -/
def wordsP (w : List (List UInt8)) : Option Rw :=
  if kindW (w.headD []) < 0 ∨ (w.length : Int) ≠ (if kindW (w.headD []) = 4 then 3 else 4) then none else
  if kindW (w.headD []) = 0 ∨ kindW (w.headD []) = 4 then
    (dec (w.getD 1 [])).bind fun n => (dec (w.getD 2 [])).bind fun a => (if kindW (w.headD []) = 4 then some 0 else dec (w.getD 3 [])).bind fun b => some ⟨kindW (w.headD []), [], n, (a, b)⟩
  else (dec (w.getD 2 [])).bind fun a => (dec (w.getD 3 [])).bind fun b => some ⟨kindW (w.headD []), w.getD 1 [], 0, (a, b)⟩
def rowP (v : Int → List UInt8 → Bool) (s : List UInt8) : Rw ⊕ Nat := match wordsP (parts 32 s) with
  | none => .inr 3
  | some x => chkR v x
/-- The line of a row, with its end. -/
def rowT (x : Rw) : List UInt8 := if x.sort = 4 then wordT 4 ++ 32 :: dg x.first ++ 32 :: dg x.c.1 ++ [10] else lineN x.sort (if x.sort = 0 then dg x.first else x.name) x.c
theorem dec_dg {s : List UInt8} {n : Int} (h : dec s = some n) : dg n = s ∧ 0 ≤ n := by
  unfold dec at h
  split at h
  · rename_i hk
    unfold okW at hk
    simp only [Bool.and_eq_true, Bool.or_eq_true, decide_eq_true_eq] at hk
    obtain ⟨⟨⟨h1, h2⟩, h3⟩, h4⟩ := hk
    cases h
    refine ⟨?_, by omega⟩
    unfold dg
    rw [Int.toNat_natCast]
    refine digits_of s h4 (by intro e; subst e; simp at h1) ?_
    rcases h3 with h3 | h3
    · exact .inr h3
    · refine .inl fun e => h3 ?_
      rw [List.getD_eq_getElem?_getD, ← List.head?_eq_getElem?, e]; rfl
  · cases h
theorem kindW_word {s : List UInt8} (h : 0 ≤ kindW s) : s = wordT (kindW s) ∧ kindW s ≤ 4 := by
  unfold kindW at *
  split
  · rename_i e; exact ⟨e, by omega⟩
  split
  · rename_i e; exact ⟨e, by omega⟩
  split
  · rename_i e; exact ⟨e, by omega⟩
  split
  · rename_i e; exact ⟨e, by omega⟩
  split
  · rename_i e; exact ⟨e, by omega⟩
  · rename_i e1 e2 e3 e4 e5
    rw [if_neg e1, if_neg e2, if_neg e3, if_neg e4, if_neg e5] at h
    omega
theorem words4 {w : List (List UInt8)} (h : w.length = 4) : w = [w.headD [], w.getD 1 [], w.getD 2 [], w.getD 3 []] := by
  match w, h with
  | [a, b, c, d], _ => rfl
theorem words3 {w : List (List UInt8)} (h : w.length = 3) : w = [w.headD [], w.getD 1 [], w.getD 2 []] := by
  match w, h with
  | [a, b, c], _ => rfl
theorem wordsP_text {s : List UInt8} {x : Rw} (h : wordsP (parts 32 s) = some x) : rowT x = s ++ [10] ∧ 0 ≤ x.sort ∧ x.sort ≤ 4 ∧ 0 ≤ x.first ∧ 0 ≤ x.c.1 ∧ 0 ≤ x.c.2 := by
  have hs := text_parts 32 s
  generalize parts 32 s = w at *
  unfold wordsP at h
  by_cases h0 : kindW (w.headD []) < 0 ∨ (w.length : Int) ≠ (if kindW (w.headD []) = 4 then 3 else 4)
  · rw [if_pos h0] at h; cases h
  rw [if_neg h0] at h
  have hk0 : 0 ≤ kindW (w.headD []) := by
    rcases Int.lt_or_le (kindW (w.headD [])) 0 with h1 | h1
    · exact absurd (.inl h1) h0
    · exact h1
  obtain ⟨hk1, hk2⟩ := kindW_word hk0
  have hl : (w.length : Int) = if kindW (w.headD []) = 4 then 3 else 4 := Classical.byContradiction fun h1 => h0 (.inr h1)
  clear h0
  generalize kindW (w.headD []) = k at *
  by_cases hk : k = 0 ∨ k = 4
  rw [if_pos hk] at h; rotate_left; rw [if_neg hk] at h; rotate_left
  · obtain ⟨n, hn, h⟩ := Option.bind_eq_some_iff.1 h
    obtain ⟨a, ha, h⟩ := Option.bind_eq_some_iff.1 h
    obtain ⟨b, hb, h⟩ := Option.bind_eq_some_iff.1 h
    cases h
    obtain ⟨en, pn⟩ := dec_dg hn
    obtain ⟨ea, pa⟩ := dec_dg ha
    unfold rowT
    by_cases h4 : k = 4
    · subst h4
      rw [if_pos rfl] at hb hl
      cases hb
      simp only [if_true]
      refine ⟨?_, by omega, by omega, pn, pa, by omega⟩
      rw [← hs, words3 (w := w) (by omega), hk1, en, ea]
      simp [text_cons, text_one]
    · rw [if_neg h4] at hb hl
      obtain ⟨eb, pb⟩ := dec_dg hb
      have h0 : k = 0 := by omega
      subst h0
      simp only [if_true]
      refine ⟨?_, by omega, by omega, pn, pa, pb⟩
      rw [← hs, words4 (w := w) (by omega), hk1, en]
      unfold lineN lineC
      rw [ea, eb]
      simp [text_cons, text_one]
  · obtain ⟨a, ha, h⟩ := Option.bind_eq_some_iff.1 h
    obtain ⟨b, hb, h⟩ := Option.bind_eq_some_iff.1 h
    cases h
    obtain ⟨ea, pa⟩ := dec_dg ha
    obtain ⟨eb, pb⟩ := dec_dg hb
    have h4 : ¬ k = 4 := by omega
    have h0 : ¬ k = 0 := by omega
    unfold rowT
    rw [if_neg h4] at hl
    simp only [h4, h0, if_false]
    refine ⟨?_, by omega, by omega, by omega, pa, pb⟩
    rw [← hs, words4 (w := w) (by omega), hk1]
    unfold lineN lineC
    rw [ea, eb]
    simp [text_cons, text_one]
/-! ### the lines, one after another -/
structure Sx where
  day : Int
  prev : Rw
  ds : List (Int × C)
  ns : List (Ky × C)
  zs : List Int
def st0 : Sx := ⟨0, ⟨-1, [], 0, (0, 0)⟩, [], [], List.replicate 18 0⟩
def follows (x p : Rw) (day : Int) : Bool :=
  if x.sort = 0 then decide (p.sort < 0) || (decide (p.sort ≠ 4) && decide (day < x.first)) else
  if x.sort = 4 then decide (p.sort ≠ 4) || decide (p.first < x.first) else
  !(decide (p.sort < 0) || decide (p.sort = 4)) && decide (0 < or2 (icmp x.sort p.sort) (scmp x.name p.name))
def putX (st : Sx) (x : Rw) : Sx :=
  ⟨if x.sort = 0 then x.first else st.day, x, if x.sort = 0 then putA st.ds x.first x.c else st.ds,
    if x.sort = 0 ∨ x.sort = 4 then st.ns else putA st.ns (st.day, x.sort, x.name) x.c, if x.sort = 4 then st.zs.set x.first.toNat x.c.1 else st.zs⟩
theorem drop_nl {p : UInt8 → Bool} {s : List UInt8} {c : UInt8} {rest : List UInt8} (h : s.dropWhile p = c :: rest) : rest.length < s.length := by
  have := congrArg List.length (List.takeWhile_append_dropWhile (p := p) (l := s))
  rw [h] at this
  simp at this; omega
def parseL (v : Int → List UInt8 → Bool) (st : Sx) (line : Nat) (s : List UInt8) : (Sx × Nat) ⊕ (Nat × Nat) :=
  if s = [] then .inl (st, line) else
  match _h : s.dropWhile nl with
  | [] => .inr (line + 1, 4)
  | _ :: rest =>
    match rowP v (s.takeWhile nl) with
    | .inr e => .inr (line + 1, e)
    | .inl x => if follows x st.prev st.day = true then parseL v (putX st x) (line + 1) rest else .inr (line + 1, 30)
termination_by s.length
decreasing_by exact drop_nl _h
def sumZ (zs : List Int) : Int := zs.foldl (· + ·) 0
def totalD (ds : List (Int × C)) : Int := (sumC (ds.map (·.2))).1
def parseP (v : Int → List UInt8 → Bool) (t : List UInt8) : Sx ⊕ (Nat × Nat) := match parseL v st0 0 t with
  | .inr r => .inr r
  | .inl (st, line) => if sumZ st.zs ≠ totalD st.ds then .inr (line, 3) else if 1000000 < totalD st.ds then .inr (line, 9) else .inl st
structure InvX (st : Sx) (T : List UInt8) : Prop where
  text : st.ds.flatMap (dayS st.ns) ++ sizesT st.zs = T
  incd : Inc icmp (st.ds.map (·.1))
  incn : Inc kk (st.ns.map (·.1))
  len : st.zs.length = 18
  sort : -1 ≤ st.prev.sort ∧ st.prev.sort ≤ 4
  none : st.prev.sort = -1 → st.ds = [] ∧ st.ns = []
  zero : st.prev.sort ≠ 4 → st.zs = List.replicate 18 0
  tail : st.prev.sort = 4 → 0 ≤ st.prev.first ∧ ∀ j : Nat, st.prev.first < j → st.zs.getD j 0 = 0
  last : 0 ≤ st.prev.sort → st.prev.sort ≠ 4 → ∃ L c, st.ds = L ++ [(st.day, c)]
  days : ∀ q ∈ st.ns, q.1.1 ∈ st.ds.map (·.1)
  keys : 0 ≤ st.prev.sort → st.prev.sort ≠ 4 → ∀ q ∈ st.ns, kk q.1 (st.day, st.prev.sort, st.prev.name) ≤ 0
theorem putA_new {κ β : Type} [DecidableEq κ] {L : List (κ × β)} {x : κ} {c : β} (h : x ∉ L.map (·.1)) : putA L x c = L ++ [(x, c)] := by
  unfold putA; rw [if_neg h]
theorem inc_snoc {α : Type} {c : α → α → Int} {l : List α} {x : α} (h : Inc c l) (hx : ∀ a ∈ l, c a x < 0) : Inc c (l ++ [x]) := by
  unfold Inc at *
  rw [List.pairwise_append]
  exact ⟨h, List.pairwise_singleton _ _, fun a ha b hb => by rw [List.mem_singleton.1 hb]; exact hx a ha⟩
theorem inc_not {α : Type} {c : α → α → Int} (hl : Lin c) {l : List α} {x : α} (hx : ∀ a ∈ l, c a x < 0) : x ∉ l := fun h => by
  have := hx x h
  rw [hl.self] at this
  omega
theorem InvX.start : InvX st0 [] where
  text := by show [] ++ sizesT (List.replicate 18 0) = []; rw [sizesT_zero]; rfl
  incd := by simp [st0, Inc]
  incn := by simp [st0, Inc]
  len := by simp [st0]
  sort := by simp [st0]
  none _ := ⟨rfl, rfl⟩
  zero _ := rfl
  tail h := by simp [st0] at h
  last h := by simp [st0] at h
  days q hq := by simp [st0] at hq
  keys h := by simp [st0] at h
theorem InvX.low {st : Sx} {T : List UInt8} (h : InvX st T) (h1 : st.prev.sort ≠ 4) {d : Int} (h2 : st.prev.sort < 0 ∨ st.day < d) : ∀ a ∈ st.ds.map (·.1), icmp a d < 0 := fun a ha => by
  rw [icmp_lt]
  have hs := h.sort
  rcases Int.lt_or_le st.prev.sort 0 with h3 | h3
  · rw [(h.none (by omega)).1] at ha
    simp at ha
  · obtain ⟨L, c, e⟩ := h.last h3 h1
    have hi := h.incd
    rw [e, List.map_append] at hi ha
    have hd : st.day < d := h2.resolve_left (by omega)
    rcases List.mem_append.1 ha with ha | ha
    · have := (List.pairwise_append.1 hi).2.2 a ha st.day (by simp)
      rw [icmp_lt] at this
      omega
    · have : a = st.day := by simpa using ha
      omega
theorem InvX.step_day {st : Sx} {T : List UInt8} (h : InvX st T) {x : Rw} (hx : x.sort = 0) (hf : follows x st.prev st.day = true) : InvX (putX st x) (T ++ rowT x) := by
  have hs := h.sort
  have hf' : st.prev.sort < 0 ∨ (st.prev.sort ≠ 4 ∧ st.day < x.first) := by
    unfold follows at hf
    rw [if_pos hx] at hf
    simpa using hf
  have h4 : st.prev.sort ≠ 4 := by omega
  have hlow := h.low h4 (d := x.first) (by omega)
  have hnew := inc_not icmp_lin hlow
  have hn : ∀ q ∈ st.ns, q.1.1 ≠ x.first := fun q hq e => hnew (by rw [← e]; exact h.days q hq)
  have e : putX st x = ⟨x.first, x, st.ds ++ [(x.first, x.c)], st.ns, st.zs⟩ := by
    unfold putX
    rw [if_pos hx, if_pos hx, if_pos (.inl hx), if_neg (by omega), putA_new hnew]
  rw [e]
  refine ⟨?_, ?_, h.incn, h.len, ?_, ?_, fun _ => h.zero h4, ?_, fun _ _ => ⟨st.ds, x.c, rfl⟩, ?_, ?_⟩
  · show (st.ds ++ [(x.first, x.c)]).flatMap (dayS st.ns) ++ sizesT st.zs = _
    have ht := h.text
    rw [h.zero h4, sizesT_zero, List.append_nil] at ht
    rw [h.zero h4, sizesT_zero, List.append_nil, List.flatMap_append, ht]
    congr 1
    rw [List.flatMap_singleton, dayS_free hn]
    unfold rowT
    rw [if_neg (by omega), if_pos hx, hx]
  · show Inc icmp ((st.ds ++ [(x.first, x.c)]).map (·.1))
    rw [List.map_append]
    exact inc_snoc h.incd hlow
  · show -1 ≤ x.sort ∧ x.sort ≤ 4
    omega
  · intro h1
    have h1 : x.sort = -1 := h1
    omega
  · intro h1
    have h1 : x.sort = 4 := h1
    omega
  · intro q hq
    show q.1.1 ∈ (st.ds ++ [(x.first, x.c)]).map (·.1)
    rw [List.map_append]
    exact List.mem_append_left _ (h.days q hq)
  · intro _ _ q hq
    show kk q.1 (x.first, x.sort, x.name) ≤ 0
    have := hlow _ (h.days q hq)
    unfold kk lex2 or2
    show (if icmp q.1.1 x.first ≠ 0 then icmp q.1.1 x.first else _) ≤ 0
    rw [if_pos (by omega)]
    omega
theorem InvX.step_size {st : Sx} {T : List UInt8} (h : InvX st T) {x : Rw} (hx : x.sort = 4) (h0 : 0 ≤ x.first) (h17 : x.first ≤ 17) (ha : 1 ≤ x.c.1) (hf : follows x st.prev st.day = true) : InvX (putX st x) (T ++ rowT x) := by
  have hs := h.sort
  have hf' : st.prev.sort ≠ 4 ∨ st.prev.first < x.first := by
    unfold follows at hf
    rw [if_neg (by omega), if_pos hx] at hf
    simpa using hf
  have hz : ∀ j : Nat, x.first.toNat ≤ j → st.zs.getD j 0 = 0 := fun j hj => by
    by_cases h4 : st.prev.sort = 4
    · exact (h.tail h4).2 j (by omega)
    · rw [h.zero h4, List.getD_eq_getElem?_getD, List.getElem?_replicate]
      split <;> rfl
  have hk : x.first.toNat < st.zs.length := by rw [h.len]; omega
  have e : putX st x = ⟨st.day, x, st.ds, st.ns, st.zs.set x.first.toNat x.c.1⟩ := by
    unfold putX
    rw [if_neg (by omega), if_neg (by omega), if_pos (.inr hx), if_pos hx]
  rw [e]
  refine ⟨?_, h.incd, h.incn, ?_, ?_, ?_, ?_, ?_, ?_, h.days, ?_⟩
  · show st.ds.flatMap (dayS st.ns) ++ sizesT (st.zs.set x.first.toNat x.c.1) = _
    rw [sizesT_set hk hz, ← List.append_assoc, h.text]
    congr 1
    unfold sizeLn rowT
    rw [if_neg (by omega), if_pos hx, Int.toNat_of_nonneg h0]
  · show (st.zs.set x.first.toNat x.c.1).length = 18
    rw [List.length_set, h.len]
  · show -1 ≤ x.sort ∧ x.sort ≤ 4
    omega
  · intro h1
    have h1 : x.sort = -1 := h1
    omega
  · intro h1
    exact absurd hx h1
  · intro _
    refine ⟨h0, fun j hj => ?_⟩
    have hj : x.first < j := hj
    show (st.zs.set x.first.toNat x.c.1).getD j 0 = 0
    have h1 := hz j (by omega)
    have : ¬ x.first.toNat = j := by omega
    rw [List.getD_eq_getElem?_getD] at h1 ⊢
    rw [List.getElem?_set, if_neg this]
    exact h1
  · intro _ h1
    exact absurd hx h1
  · intro _ h1
    exact absurd hx h1
theorem InvX.step_name {st : Sx} {T : List UInt8} (h : InvX st T) {x : Rw} (hx : 1 ≤ x.sort ∧ x.sort ≤ 3) (hf : follows x st.prev st.day = true) : InvX (putX st x) (T ++ rowT x) := by
  have hs := h.sort
  have hf' : (0 ≤ st.prev.sort ∧ st.prev.sort ≠ 4) ∧ 0 < or2 (icmp x.sort st.prev.sort) (scmp x.name st.prev.name) := by
    unfold follows at hf
    rw [if_neg (by omega), if_neg (by omega)] at hf
    simpa using hf
  obtain ⟨⟨h1, h4⟩, hf'⟩ := hf'
  obtain ⟨L, c, eL⟩ := h.last h1 h4
  have hlow : ∀ a ∈ st.ns.map (·.1), kk a (st.day, x.sort, x.name) < 0 := fun a ha => by
    obtain ⟨q, hq, rfl⟩ := List.mem_map.1 ha
    refine kk_lin.le_lt (h.keys h1 h4 q hq) ?_
    have e : kcmp (x.sort, x.name) (st.prev.sort, st.prev.name) = or2 (icmp x.sort st.prev.sort) (scmp x.name st.prev.name) := rfl
    have := kcmp_lin.anti (x.sort, x.name) (st.prev.sort, st.prev.name)
    show or2 (icmp st.day st.day) (kcmp (st.prev.sort, st.prev.name) (x.sort, x.name)) < 0
    unfold or2
    rw [if_neg (by rw [icmp_lin.self]; simp)]
    omega
  have hnew := inc_not kk_lin hlow
  have e : putX st x = ⟨st.day, x, st.ds, st.ns ++ [((st.day, x.sort, x.name), x.c)], st.zs⟩ := by
    unfold putX
    rw [if_neg (by omega), if_neg (by omega), if_neg (by omega), if_neg (by omega), putA_new hnew]
  rw [e]
  refine ⟨?_, h.incd, ?_, h.len, ?_, ?_, fun _ => h.zero h4, ?_, fun _ _ => ⟨L, c, eL⟩, ?_, ?_⟩
  · show st.ds.flatMap (dayS (st.ns ++ [((st.day, x.sort, x.name), x.c)])) ++ sizesT st.zs = _
    have ht := h.text
    rw [h.zero h4, sizesT_zero, List.append_nil] at ht ⊢
    rw [← ht, eL, List.flatMap_append, List.flatMap_append, List.flatMap_singleton, List.flatMap_singleton, dayS_put (by rfl), List.append_assoc]
    congr 1
    · refine flatMap_same fun q hq => dayS_other fun e => ?_
      have hi := h.incd
      rw [eL, List.map_append] at hi
      have := (List.pairwise_append.1 hi).2.2 q.1 (List.mem_map.2 ⟨q, hq, rfl⟩) st.day (by simp)
      have e : st.day = q.1 := e
      rw [← e, icmp_lin.self] at this
      omega
    · congr 1
      unfold nameLn rowT
      rw [if_neg (by omega), if_neg (by omega)]
  · show Inc kk ((st.ns ++ [((st.day, x.sort, x.name), x.c)]).map (·.1))
    rw [List.map_append]
    exact inc_snoc h.incn hlow
  · show -1 ≤ x.sort ∧ x.sort ≤ 4
    omega
  · intro h1
    have h1 : x.sort = -1 := h1
    omega
  · intro h1
    have h1 : x.sort = 4 := h1
    omega
  · intro q hq
    show q.1.1 ∈ st.ds.map (·.1)
    rcases List.mem_append.1 hq with hq | hq
    · exact h.days q hq
    · rw [List.mem_singleton.1 hq, eL]
      simp
  · intro _ _ q hq
    show kk q.1 (st.day, x.sort, x.name) ≤ 0
    rcases List.mem_append.1 hq with hq | hq
    · exact Int.le_of_lt (hlow _ (List.mem_map.2 ⟨q, hq, rfl⟩))
    · rw [List.mem_singleton.1 hq, kk_lin.self]
      omega
theorem rowP_ok {v : Int → List UInt8 → Bool} {s : List UInt8} {x : Rw} (h : rowP v s = .inl x) : rowT x = s ++ [10] ∧ (0 ≤ x.sort ∧ x.sort ≤ 4) ∧ 0 ≤ x.first ∧ (x.sort = 4 → x.first ≤ 17) ∧ 1 ≤ x.c.1 := by
  unfold rowP at h
  cases hw : wordsP (parts 32 s) with
  | none => rw [hw] at h; cases h
  | some y =>
    rw [hw] at h
    obtain ⟨h1, h2, h3, h4, h5, h6⟩ := wordsP_text hw
    have h : chkR v y = .inl x := h
    unfold chkR at h
    split at h
    · cases h
    split at h
    · cases h
    · rename_i hr
      cases h
      exact ⟨h1, ⟨h2, h3⟩, h4, fun e => by omega, by omega⟩
theorem InvX.step {st : Sx} {T s : List UInt8} {v : Int → List UInt8 → Bool} (h : InvX st T) {x : Rw} (hr : rowP v s = .inl x) (hf : follows x st.prev st.day = true) : InvX (putX st x) (T ++ (s ++ [10])) := by
  obtain ⟨h1, h2, h3, h4, h5⟩ := rowP_ok hr
  rw [← h1]
  by_cases h0 : x.sort = 0
  · exact h.step_day h0 hf
  by_cases h4' : x.sort = 4
  · exact h.step_size h4' h3 (h4 h4') h5 hf
  · exact h.step_name (by omega) hf
theorem nl_cut {s : List UInt8} {c : UInt8} {rest : List UInt8} (h : s.dropWhile nl = c :: rest) : s = s.takeWhile nl ++ 10 :: rest := by
  have h1 := List.takeWhile_append_dropWhile (p := nl) (l := s)
  rw [h] at h1
  have : nl c = false := by
    have := List.head?_dropWhile_not nl s
    rw [h] at this
    simpa using this
  have : c = 10 := by unfold nl at this; simpa using this
  rw [← this]
  exact h1.symm
theorem parseL_inv (v : Int → List UInt8 → Bool) (s : List UInt8) : ∀ (st : Sx) (T : List UInt8) (line : Nat) (st' : Sx) (line' : Nat), InvX st T → parseL v st line s = .inl (st', line') → InvX st' (T ++ s) := by
  induction hn : s.length using Nat.strongRecOn generalizing s with
  | ind n ih =>
    intro st T line st' line' h hp
    rw [parseL] at hp
    by_cases h0 : s = []
    · rw [if_pos h0] at hp
      cases hp
      rw [h0, List.append_nil]
      exact h
    · rw [if_neg h0] at hp
      split at hp
      · cases hp
      · rename_i c rest hd
        have hc := nl_cut hd
        cases hr : rowP v (s.takeWhile nl) with
        | inr e => rw [hr] at hp; cases hp
        | inl x =>
          rw [hr] at hp
          have hp : (if follows x st.prev st.day = true then parseL v (putX st x) (line + 1) rest else .inr (line + 1, 30)) = .inl (st', line') := hp
          by_cases hf : follows x st.prev st.day = true
          · rw [if_pos hf] at hp
            have := ih rest.length (by rw [← hn]; exact drop_nl hd) rest rfl _ _ _ _ _ (h.step hr hf) hp
            rw [List.append_assoc, List.append_assoc] at this
            rw [hc]
            exact this
          · rw [if_neg hf] at hp
            cases hp
/-- What is read, written again, is the text. -/
theorem parseP_text {v : Int → List UInt8 → Bool} {t : List UInt8} {st : Sx} (h : parseP v t = .inl st) : textP st.ds st.ns st.zs = t ∧ InvX st t := by
  unfold parseP at h
  cases hl : parseL v st0 0 t with
  | inr r => rw [hl] at h; cases h
  | inl q =>
    obtain ⟨st', line⟩ := q
    rw [hl] at h
    have hi := parseL_inv v t _ _ _ _ _ InvX.start hl
    rw [List.nil_append] at hi
    have h : (if sumZ st'.zs ≠ totalD st'.ds then .inr (line, 3) else if 1000000 < totalD st'.ds then .inr (line, 9) else .inl st') = (.inl st : Sx ⊕ (Nat × Nat)) := h
    split at h
    · cases h
    split at h
    · cases h
    · cases h
      exact ⟨by rw [textS _ hi.incd hi.incn]; exact hi.text, hi⟩
end Go.Sr
