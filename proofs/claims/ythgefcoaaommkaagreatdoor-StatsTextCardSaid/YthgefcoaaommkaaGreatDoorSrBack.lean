/- The text of statistics is read back. Of no program. -/
import Derived.Test.YthgefcoaaommkaaGreatDoorSrParse
namespace Go.Sr
open Go.Lib Go.Gn Go.Maps Go.Nr Go.Proofs.YthgefcoaaommkaaGreatDoor

theorem parseL_line (v : Int → List UInt8 → Bool) (st : Sx) (line : Nat) (s rest : List UInt8) (x : Rw) (hs : (10 : UInt8) ∉ s) (hr : rowP v s = .inl x) (hf : follows x st.prev st.day = true) : parseL v st line (s ++ 10 :: rest) = parseL v (putX st x) (line + 1) rest := by
  have ha : ∀ c ∈ s, nl c = true := fun c hc => by
    unfold nl
    simp only [bne_iff_ne, ne_eq]
    intro e
    exact hs (e ▸ hc)
  have cut : (s ++ 10 :: rest).takeWhile nl = s ∧ (s ++ 10 :: rest).dropWhile nl = 10 :: rest := by
    clear hs hr
    induction s with
    | nil => simp [nl]
    | cons a s ih =>
      have h1 := ha a (by simp)
      have h2 := ih fun y hy => ha y (by simp [hy])
      simp [h1, h2.1, h2.2]
  rw [parseL, if_neg (by simp)]
  split
  · rename_i h1
    rw [cut.2] at h1
    cases h1
  · rename_i h1
    rw [cut.2] at h1
    cases h1
    rw [cut.1, hr]
    show (if follows x st.prev st.day = true then _ else _) = _
    rw [if_pos hf]
theorem dec_of {n : Int} (h0 : 0 ≤ n) (h : n < 10 ^ 15) : dec (dg n) = some n := by
  unfold dec dg okW
  have h1 := digits_len n.toNat 15 (by omega) (by omega)
  have h2 : 1 ≤ (decDigits n.toNat).length := List.length_pos_iff.2 (digits_ne _)
  have h3 : (decDigits n.toNat).length = 1 ∨ (decDigits n.toNat).getD 0 0 ≠ 48 := by
    by_cases hn : n.toNat = 0
    · left; rw [hn, digits_zero]; rfl
    · right
      obtain ⟨c, t, e, hc⟩ := digits_head (n := n.toNat) (by omega)
      rw [e]; exact hc
  rw [if_pos, digits_val, Int.toNat_of_nonneg h0]
  simp only [Bool.and_eq_true, Bool.or_eq_true, decide_eq_true_eq]
  exact ⟨⟨⟨h2, h1⟩, h3⟩, digits_all _⟩
theorem dg_free (n : Int) {d : UInt8} (h : isDig d = false) : d ∉ dg n := fun hm => by
  have := List.all_eq_true.1 (digits_all n.toNat) d hm
  rw [h] at this; cases this
theorem word_free (k : Int) {d : UInt8} (h : d = 10 ∨ d = 32) : d ∉ wordT k := by
  unfold wordT
  rcases h with rfl | rfl <;> (repeat' split) <;> decide
theorem kindW_of {k : Int} (h : 0 ≤ k ∧ k ≤ 4) : kindW (wordT k) = k := by
  have : k = 0 ∨ k = 1 ∨ k = 2 ∨ k = 3 ∨ k = 4 := by omega
  rcases this with rfl | rfl | rfl | rfl | rfl <;> decide
/-- A row that a text may hold. -/
structure OkR (v : Int → List UInt8 → Bool) (x : Rw) : Prop where
  sort : 0 ≤ x.sort ∧ x.sort ≤ 4
  name : 1 ≤ x.sort → x.sort ≤ 3 → v x.sort x.name = true ∧ (10 : UInt8) ∉ x.name ∧ (32 : UInt8) ∉ x.name ∧ x.first = 0
  noname : x.sort = 0 ∨ x.sort = 4 → x.name = []
  first : 0 ≤ x.first ∧ (x.sort = 0 → x.first ≤ 73048) ∧ (x.sort = 4 → x.first ≤ 17 ∧ x.c.2 = 0)
  cnt : 1 ≤ x.c.1 ∧ x.c.1 ≤ 1000000
  bytes : 0 ≤ x.c.2 ∧ x.c.2 ≤ x.c.1 * 65536
theorem OkR.chk {v : Int → List UInt8 → Bool} {x : Rw} (h : OkR v x) : chkR v x = .inl x := by
  unfold chkR
  obtain ⟨h1, h2, h3, h4, h5, h6⟩ := h
  rw [if_neg, if_neg]
  · rintro (⟨a, b⟩ | ⟨a, b⟩ | a | a | a)
    · have := h4.2.1 a; omega
    · have := (h4.2.2 a).1; omega
    · omega
    · omega
    · omega
  · rintro ⟨⟨a, b⟩, c⟩
    rw [(h2 a b).1] at c; cases c
theorem parts3 {a b c : List UInt8} (ha : (32 : UInt8) ∉ a) (hb : (32 : UInt8) ∉ b) (hc : (32 : UInt8) ∉ c) : parts 32 (a ++ 32 :: (b ++ 32 :: c)) = [a, b, c] := by
  rw [parts_app 32 _ a ha, parts_app 32 _ b hb, parts_plain 32 c hc]
theorem parts4 {a b c d : List UInt8} (ha : (32 : UInt8) ∉ a) (hb : (32 : UInt8) ∉ b) (hc : (32 : UInt8) ∉ c) (hd : (32 : UInt8) ∉ d) : parts 32 (a ++ 32 :: (b ++ 32 :: (c ++ 32 :: d))) = [a, b, c, d] := by
  rw [parts_app 32 _ a ha, parts3 hb hc hd]
/-- The line of a row without its end, and what it is read as. -/
theorem OkR.row {v : Int → List UInt8 → Bool} {x : Rw} (h : OkR v x) : ∃ s, rowT x = s ++ [10] ∧ (10 : UInt8) ∉ s ∧ rowP v s = .inl x := by
  obtain ⟨h1, h2, h3, h4, h5, h6⟩ := id h
  have big : x.c.1 * 65536 < 10 ^ 15 := by omega
  have d1 := dec_of (n := x.c.1) (by omega) (by omega)
  have d2 := dec_of (n := x.c.2) (by omega) (by omega)
  have w10 := word_free x.sort (d := 10) (.inl rfl)
  have w32 := word_free x.sort (d := 32) (.inr rfl)
  have f10 : isDig 10 = false := by decide
  have f32 : isDig 32 = false := by decide
  have hk := kindW_of h1
  obtain ⟨s', n, f, a, b⟩ := x
  simp only at *
  by_cases k4 : s' = 4
  · subst k4
    obtain ⟨hf0, -, h43⟩ := h4
    obtain ⟨h17, hb⟩ := h43 rfl
    subst hb
    obtain rfl := h3 (.inr rfl)
    have d0 := dec_of (n := f) (by omega) (by omega)
    refine ⟨wordT 4 ++ 32 :: (dg f ++ 32 :: dg a), by unfold rowT; simp, ?_, ?_⟩
    · simp [w10, dg_free f f10, dg_free a f10]
    · unfold rowP
      rw [parts3 w32 (dg_free f f32) (dg_free a f32)]
      have : wordsP [wordT 4, dg f, dg a] = some ⟨4, [], f, (a, 0)⟩ := by
        unfold wordsP
        simp [hk, d0, d1]
      rw [this]
      exact h.chk
  · by_cases k0 : s' = 0
    · subst k0
      obtain rfl := h3 (.inl rfl)
      have h73 := h4.2.1 rfl
      have d0 := dec_of (n := f) h4.1 (by omega)
      refine ⟨wordT 0 ++ 32 :: (dg f ++ 32 :: (dg a ++ 32 :: dg b)), by unfold rowT lineN lineC; simp, ?_, ?_⟩
      · simp [w10, dg_free f f10, dg_free a f10, dg_free b f10]
      · unfold rowP
        rw [parts4 w32 (dg_free f f32) (dg_free a f32) (dg_free b f32)]
        have : wordsP [wordT 0, dg f, dg a, dg b] = some ⟨0, [], f, (a, b)⟩ := by
          unfold wordsP
          simp [hk, d0, d1, d2]
        rw [this]
        exact h.chk
    · obtain ⟨hv, n10, n32, rfl⟩ := h2 (by omega) (by omega)
      refine ⟨wordT s' ++ 32 :: (n ++ 32 :: (dg a ++ 32 :: dg b)), by unfold rowT lineN lineC; simp [k4, k0], ?_, ?_⟩
      · simp [w10, n10, dg_free a f10, dg_free b f10]
      · unfold rowP
        rw [parts4 w32 n32 (dg_free a f32) (dg_free b f32)]
        have : wordsP [wordT s', n, dg a, dg b] = some ⟨s', n, 0, (a, b)⟩ := by
          unfold wordsP
          have hneg : ¬ s' < 0 := by omega
          simp [hk, d1, d2, k4, k0, hneg]
        rw [this]
        exact h.chk
theorem parse_row {v : Int → List UInt8 → Bool} {x : Rw} (h : OkR v x) (st : Sx) (line : Nat) (rest : List UInt8) (hf : follows x st.prev st.day = true) : parseL v st line (rowT x ++ rest) = parseL v (putX st x) (line + 1) rest := by
  obtain ⟨s, e, h10, hr⟩ := h.row
  rw [e, List.append_assoc]
  exact parseL_line v st line s rest x h10 hr hf
def nameRw (q : Ky × C) : Rw := ⟨q.1.2.1, q.1.2.2, 0, q.2⟩
def dayRw (q : Int × C) : Rw := ⟨0, [], q.1, q.2⟩
def sizeRw (k : Nat) (a : Int) : Rw := ⟨4, [], k, (a, 0)⟩
def OkN (v : Int → List UInt8 → Bool) (q : Ky × C) : Prop := OkR v (nameRw q) ∧ 1 ≤ q.1.2.1 ∧ q.1.2.1 ≤ 3
theorem nameLn_row {v : Int → List UInt8 → Bool} {q : Ky × C} (h : OkN v q) : nameLn q = rowT (nameRw q) := by
  unfold nameLn rowT nameRw
  have := h.2
  simp only
  rw [if_neg (by omega), if_neg (by omega)]
theorem names_run (v : Int → List UInt8 → Bool) (d : Int) (rest : List UInt8) : ∀ (N : List (Ky × C)) (st : Sx) (line : Nat), st.day = d → 0 ≤ st.prev.sort → st.prev.sort ≠ 4 → (∀ q ∈ N, q.1.1 = d ∧ OkN v q) → Inc kk ((d, st.prev.sort, st.prev.name) :: N.map (·.1)) → (∀ q ∈ N, q.1 ∉ st.ns.map (·.1)) →
    ∃ p line', 0 ≤ p.sort ∧ p.sort ≠ 4 ∧ parseL v st line (N.flatMap nameLn ++ rest) = parseL v ⟨d, p, st.ds, st.ns ++ N, st.zs⟩ line' rest
  | [], st, line, hd, h0, h4, _, _, _ => ⟨st.prev, line, h0, h4, by subst hd; simp⟩
  | q :: N, st, line, hd, h0, h4, hN, hi, hns => by
    obtain ⟨hq, hok⟩ := hN q (by simp)
    obtain ⟨h1, h2⟩ := List.pairwise_cons.1 hi
    have h2' : Inc kk (q.1 :: N.map (·.1)) := h2
    obtain ⟨h3, _⟩ := List.pairwise_cons.1 h2
    have hlt := h1 q.1 (by simp)
    have hpos : 0 < or2 (icmp q.1.2.1 st.prev.sort) (scmp q.1.2.2 st.prev.name) := by
      have hlt : or2 (icmp d q.1.1) (kcmp (st.prev.sort, st.prev.name) q.1.2) < 0 := hlt
      unfold or2 at hlt
      rw [if_neg (by rw [hq, icmp_lin.self]; simp)] at hlt
      have := kcmp_lin.anti (st.prev.sort, st.prev.name) q.1.2
      have e : kcmp q.1.2 (st.prev.sort, st.prev.name) = or2 (icmp q.1.2.1 st.prev.sort) (scmp q.1.2.2 st.prev.name) := rfl
      omega
    have hf : follows (nameRw q) st.prev st.day = true := by
      unfold follows nameRw
      have := hok.2
      simp only
      rw [if_neg (by omega), if_neg (by omega)]
      have h5 : ¬ st.prev.sort < 0 := by omega
      simp [h5, h4, hpos]
    have ek : (st.day, q.1.2.1, q.1.2.2) = q.1 := by rw [hd, ← hq]
    have hput : putX st (nameRw q) = ⟨d, nameRw q, st.ds, st.ns ++ [q], st.zs⟩ := by
      have := hok.2
      unfold putX nameRw
      simp only
      rw [if_neg (by omega), if_neg (by omega), if_neg (by omega), if_neg (by omega), ek, putA_new (hns q (by simp)), hd]
    obtain ⟨p, line', e1, e2, e3⟩ := names_run v d rest N ⟨d, nameRw q, st.ds, st.ns ++ [q], st.zs⟩ (line + 1) rfl (by show 0 ≤ q.1.2.1; have := hok.2; omega) (by show q.1.2.1 ≠ 4; have := hok.2; omega) (fun x hx => hN x (by simp [hx]))
      (by
        have e : (d, (nameRw q).sort, (nameRw q).name) = q.1 := by rw [← hq]; rfl
        show Inc kk ((d, (nameRw q).sort, (nameRw q).name) :: N.map (·.1))
        rw [e]; exact h2')
      (fun x hx => by
        show x.1 ∉ (st.ns ++ [q]).map (·.1)
        rw [List.map_append, List.mem_append]
        rintro (hm | hm)
        · exact hns x (by simp [hx]) hm
        · have e : x.1 = q.1 := by simpa using hm
          have := h3 x.1 (List.mem_map.2 ⟨x, hx, rfl⟩)
          rw [e, kk_lin.self] at this
          omega)
    refine ⟨p, line', e1, e2, ?_⟩
    rw [List.flatMap_cons, List.append_assoc, nameLn_row hok, parse_row hok.1 st line _ hf, hput, e3]
    simp
theorem kk_day {a b : Int} (h : a < b) (x y : Int × List UInt8) : kk (a, x) (b, y) < 0 := by
  have := (icmp_lt a b).2 h
  show or2 (icmp a b) _ < 0
  unfold or2
  rw [if_pos (by omega)]
  exact this
theorem days_run (v : Int → List UInt8 → Bool) (ns : List (Ky × C)) (hns : Inc kk (ns.map (·.1))) (hok : ∀ q ∈ ns, OkN v q) (rest : List UInt8) : ∀ (D : List (Int × C)) (st : Sx) (line : Nat), st.prev.sort ≠ 4 → (∀ q ∈ D, st.prev.sort < 0 ∨ st.day < q.1) → (∀ q ∈ D, OkR v (dayRw q)) → Inc icmp (D.map (·.1)) → (∀ q ∈ D, q.1 ∉ st.ds.map (·.1)) → (∀ q ∈ D, ∀ x ∈ st.ns, x.1.1 ≠ q.1) →
    ∃ day p line', p.sort ≠ 4 ∧ parseL v st line (D.flatMap (dayS ns) ++ rest) = parseL v ⟨day, p, st.ds ++ D, st.ns ++ D.flatMap (fun q => ns.filter fun x => decide (x.1.1 = q.1)), st.zs⟩ line' rest
  | [], st, line, h4, _, _, _, _, _ => ⟨st.day, st.prev, line, h4, by simp⟩
  | q :: D, st, line, h4, hl, hD, hi, hds, hn => by
    have hq := hD q (by simp)
    obtain ⟨h1, h2⟩ := List.pairwise_cons.1 hi
    have hf : follows (dayRw q) st.prev st.day = true := by
      unfold follows dayRw
      simp only
      rw [if_pos trivial]
      rcases hl q (by simp) with h5 | h5
      · simp [h5]
      · simp [h4, h5]
    have hput : putX st (dayRw q) = ⟨q.1, dayRw q, st.ds ++ [q], st.ns, st.zs⟩ := by
      unfold putX dayRw
      simp only
      rw [if_pos trivial, if_pos trivial, if_pos (.inl trivial), if_neg (by omega), putA_new (hds q (by simp))]
    have hfil : ∀ x ∈ ns.filter (fun x => decide (x.1.1 = q.1)), x.1.1 = q.1 ∧ OkN v x := fun x hx => ⟨by simpa using (List.mem_filter.1 hx).2, hok x (List.mem_filter.1 hx).1⟩
    obtain ⟨p, line', e1, e2, e3⟩ := names_run v q.1 (D.flatMap (dayS ns) ++ rest) (ns.filter fun x => decide (x.1.1 = q.1)) ⟨q.1, dayRw q, st.ds ++ [q], st.ns, st.zs⟩ (line + 1) rfl (by show (0 : Int) ≤ 0; omega) (by show (0 : Int) ≠ 4; omega) hfil
      (by
        refine List.pairwise_cons.2 ⟨fun x hx => ?_, List.Pairwise.sublist ((List.filter_sublist (l := ns)).map _) hns⟩
        obtain ⟨y, hy, rfl⟩ := List.mem_map.1 hx
        obtain ⟨e, ho⟩ := hfil y hy
        show or2 (icmp q.1 y.1.1) (kcmp (0, []) y.1.2) < 0
        unfold or2
        rw [if_neg (by rw [e, icmp_lin.self]; simp)]
        show or2 (icmp 0 y.1.2.1) _ < 0
        have := (icmp_lt 0 y.1.2.1).2 (by have := ho.2; omega)
        unfold or2
        rw [if_pos (by omega)]
        exact this)
      (fun x hx hm => by
        obtain ⟨y, hy, e⟩ := List.mem_map.1 hm
        have h5 := hn q (by simp) y hy
        have e : y.1 = x.1 := e
        rw [e] at h5
        exact h5 (hfil x hx).1)
    obtain ⟨day, p', line2, f1, f2⟩ := days_run v ns hns hok rest D ⟨q.1, p, st.ds ++ [q], st.ns ++ ns.filter (fun x => decide (x.1.1 = q.1)), st.zs⟩ line' e2
      (fun x hx => .inr (by
        have := h1 x.1 (List.mem_map.2 ⟨x, hx, rfl⟩)
        rwa [icmp_lt] at this))
      (fun x hx => hD x (by simp [hx])) h2
      (fun x hx hm => by
        have hm : x.1 ∈ (st.ds ++ [q]).map (·.1) := hm
        rw [List.map_append, List.mem_append] at hm
        rcases hm with hm | hm
        · exact hds x (by simp [hx]) hm
        · have e : x.1 = q.1 := by simpa using hm
          have := h1 x.1 (List.mem_map.2 ⟨x, hx, rfl⟩)
          rw [e, icmp_lin.self] at this
          omega)
      (fun x hx y hy e => by
        have hy : y ∈ st.ns ++ ns.filter (fun x => decide (x.1.1 = q.1)) := hy
        rcases List.mem_append.1 hy with hy | hy
        · exact hn x (by simp [hx]) y hy e
        · have := h1 x.1 (List.mem_map.2 ⟨x, hx, rfl⟩)
          rw [← e, (hfil y hy).1, icmp_lin.self] at this
          omega)
    refine ⟨day, p', line2, f1, ?_⟩
    have er : dayS ns q = rowT (dayRw q) ++ (ns.filter fun x => decide (x.1.1 = q.1)).flatMap nameLn := by
      unfold dayS rowT dayRw
      simp only
      rw [if_neg (by omega)]
      simp
    rw [List.flatMap_cons, er, List.append_assoc, List.append_assoc, parse_row hq st line _ hf, hput, e3, f2]
    simp
theorem sizes_run (v : Int → List UInt8 → Bool) (zs : List Int) (hz : ∀ k : Nat, k < 18 → 0 ≤ zs.getD k 0 ∧ zs.getD k 0 ≤ 1000000) (hl : zs.length = 18) : ∀ (n k : Nat) (st : Sx) (line : Nat), k + n = 18 → st.zs = zs.take k ++ List.replicate n 0 → (st.prev.sort ≠ 4 ∨ st.prev.first < k) →
    ∃ p line', parseL v st line (((List.range n).map (· + k)).flatMap fun j => sizeLn j (zs.getD j 0)) = .inl (⟨st.day, p, st.ds, st.ns, zs⟩, line')
  | 0, k, st, line, hk, e, _ => by
    refine ⟨st.prev, line, ?_⟩
    rw [List.range_zero, List.map_nil, List.flatMap_nil, parseL, if_pos rfl]
    rw [List.replicate_zero, List.append_nil, List.take_of_length_le (by omega)] at e
    rw [← e]
  | n + 1, k, st, line, hk, e, hp => by
    have hsplit : ((List.range (n + 1)).map (· + k)).flatMap (fun j => sizeLn j (zs.getD j 0)) = sizeLn k (zs.getD k 0) ++ ((List.range n).map (· + (k + 1))).flatMap fun j => sizeLn j (zs.getD j 0) := by
      rw [List.range_succ_eq_map, List.map_cons, List.flatMap_cons, List.map_map, Nat.zero_add]
      congr 2
      refine List.map_congr_left fun x _ => ?_
      show x + 1 + k = x + (k + 1)
      omega
    rw [hsplit]
    have hkl : k < zs.length := by omega
    have hget : zs.getD k 0 = zs[k] := by rw [List.getD_eq_getElem?_getD, List.getElem?_eq_getElem hkl]; rfl
    have htake : zs.take (k + 1) = zs.take k ++ [zs[k]] := by rw [List.take_append_getElem]
    by_cases h0 : zs.getD k 0 = 0
    · have e1 : sizeLn k (zs.getD k 0) = [] := by unfold sizeLn; rw [if_pos h0]
      rw [e1, List.nil_append]
      refine sizes_run v zs hz hl n (k + 1) st line (by omega) ?_ (by omega)
      rw [e, htake, ← hget, h0, List.append_assoc]
      rfl
    · obtain ⟨z0, z1⟩ := hz k (by omega)
      have hok : OkR v (sizeRw k (zs.getD k 0)) := ⟨by show (0 : Int) ≤ 4 ∧ (4 : Int) ≤ 4; omega, fun _ h => by have h : (4 : Int) ≤ 3 := h; omega, fun _ => rfl, ⟨by show (0 : Int) ≤ k; omega, fun h => by have h : (4 : Int) = 0 := h; omega, fun _ => ⟨by show (k : Int) ≤ 17; omega, rfl⟩⟩, ⟨by show 1 ≤ zs.getD k 0; omega, z1⟩, ⟨by show (0 : Int) ≤ 0; omega, by show (0 : Int) ≤ zs.getD k 0 * 65536; omega⟩⟩
      have e1 : sizeLn k (zs.getD k 0) = rowT (sizeRw k (zs.getD k 0)) := by unfold sizeLn rowT sizeRw; rw [if_neg h0, if_pos rfl]
      have hf : follows (sizeRw k (zs.getD k 0)) st.prev st.day = true := by
        unfold follows sizeRw
        simp only
        rw [if_neg (by omega), if_pos trivial]
        rcases hp with hp | hp
        · simp [hp]
        · simp [hp]
      have hput : putX st (sizeRw k (zs.getD k 0)) = ⟨st.day, sizeRw k (zs.getD k 0), st.ds, st.ns, zs.take (k + 1) ++ List.replicate n 0⟩ := by
        unfold putX sizeRw
        simp only
        rw [if_neg (by omega), if_neg (by omega), if_pos (.inr trivial), if_pos trivial, Int.toNat_natCast, e, htake, hget]
        congr 1
        rw [List.set_append_right _ _ (by simp; omega)]
        simp [Nat.min_eq_left (Nat.le_of_lt hkl), List.replicate_succ]
        rw [htake, List.append_assoc]
        rfl
      obtain ⟨p, line', ih⟩ := sizes_run v zs hz hl n (k + 1) ⟨st.day, sizeRw k (zs.getD k 0), st.ds, st.ns, zs.take (k + 1) ++ List.replicate n 0⟩ (line + 1) (by omega) rfl (.inr (by show (k : Int) < ((k + 1 : Nat) : Int); omega))
      refine ⟨p, line', ?_⟩
      rw [e1, parse_row hok st line _ hf, hput, ih]
/-- The text of statistics in order is read back. -/
theorem parseP_back (v : Int → List UInt8 → Bool) {ds : List (Int × C)} {ns : List (Ky × C)} {zs : List Int} (hd : Inc icmp (ds.map (·.1))) (hn : Inc kk (ns.map (·.1))) (hdo : ∀ q ∈ ds, OkR v (dayRw q)) (hno : ∀ q ∈ ns, OkN v q) (hz : ∀ k : Nat, k < 18 → 0 ≤ zs.getD k 0 ∧ zs.getD k 0 ≤ 1000000) (hl : zs.length = 18) (hs : sumZ zs = totalD ds) (ht : totalD ds ≤ 1000000) (hdays : ∀ q ∈ ns, q.1.1 ∈ ds.map (·.1)) :
    ∃ st, parseP v (textP ds ns zs) = .inl st ∧ st.ds = ds ∧ st.zs = zs ∧ (∀ x, getA st.ns x = getA ns x) ∧ NoTwo st.ns := by
  have htext := textS zs hd hn
  obtain ⟨day, p, line', h1, h2⟩ := days_run v ns hn hno (sizesT zs) ds st0 0 (by show (-1 : Int) ≠ 4; omega) (fun _ _ => .inl (by show (-1 : Int) < 0; omega)) hdo hd (fun _ _ h => by simp [st0] at h) (fun _ _ _ h => by simp [st0] at h)
  obtain ⟨p2, line2, h3⟩ := sizes_run v zs hz hl 18 0 ⟨day, p, st0.ds ++ ds, st0.ns ++ ds.flatMap (fun q => ns.filter fun x => decide (x.1.1 = q.1)), st0.zs⟩ line' (by omega) (by simp [st0]) (.inl h1)
  have hsz : sizesT zs = ((List.range 18).map (· + 0)).flatMap fun j => sizeLn j (zs.getD j 0) := by unfold sizesT; rw [hl]; rfl
  rw [← hsz] at h3
  have hL : parseL v st0 0 (textP ds ns zs) = .inl (⟨day, p2, ds, ds.flatMap (fun q => ns.filter fun x => decide (x.1.1 = q.1)), zs⟩, line2) := by
    rw [htext, h2, h3]
    rfl
  have hinv := parseL_inv v _ _ _ _ _ _ InvX.start hL
  have htwo : NoTwo (ds.flatMap (fun q => ns.filter fun x => decide (x.1.1 = q.1))) := inc_two kk_lin hinv.incn
  refine ⟨⟨day, p2, ds, ds.flatMap (fun q => ns.filter fun x => decide (x.1.1 = q.1)), zs⟩, ?_, rfl, rfl, fun x => ?_, htwo⟩
  · unfold parseP
    rw [hL]
    show (if sumZ zs ≠ totalD ds then _ else if 1000000 < totalD ds then _ else _) = _
    rw [if_neg (by simp [hs]), if_neg (by omega)]
  · refine getA_ext htwo (inc_two kk_lin hn) (fun q => ?_) x
    simp only [List.mem_flatMap, List.mem_filter, decide_eq_true_eq]
    constructor
    · rintro ⟨_, _, h, _⟩; exact h
    · intro h
      obtain ⟨y, hy, e⟩ := List.mem_map.1 (hdays q h)
      exact ⟨y, hy, h, e.symm⟩
end Go.Sr
