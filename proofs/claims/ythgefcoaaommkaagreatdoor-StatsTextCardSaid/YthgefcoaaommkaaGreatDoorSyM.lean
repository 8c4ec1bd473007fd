/- Texts of statistics of accepted events are read back. -/
import Derived.Test.YthgefcoaaommkaaGreatDoorSrBack
import Derived.Test.YthgefcoaaommkaaGreatDoorSyH
import Derived.Test.YthgefcoaaommkaaGreatDoorSyF
import Derived.Test.YthgefcoaaommkaaGreatDoorZj
namespace Go.Proofs.YthgefcoaaommkaaGreatDoor
open Go.RowKit Go.Gn Go.Sr Go.Maps Go.Nr

theorem parts_mem {c d : UInt8} (hcd : c ≠ d) : ∀ {s : List UInt8}, c ∈ s → ∃ p ∈ parts d s, c ∈ p
  | b :: s, h => by
    by_cases e : b = d
    · subst e
      rw [parts_cons_eq]
      have h2 : c ∈ s := (List.mem_cons.1 h).resolve_left hcd
      obtain ⟨p, hp, hc⟩ := parts_mem hcd h2
      exact ⟨p, by simp [hp], hc⟩
    · rw [parts_cons_ne e]
      rcases List.mem_cons.1 h with h2 | h2
      · exact ⟨b :: (parts d s).headD [], List.mem_cons_self .., by rw [h2]; exact List.mem_cons_self ..⟩
      · obtain ⟨p, hp, hc⟩ := parts_mem hcd h2
        obtain ⟨x, r, hx⟩ := List.exists_cons_of_ne_nil (parts_ne_nil d s)
        rw [hx] at hp ⊢
        rcases List.mem_cons.1 hp with h3 | h3
        · exact ⟨b :: x, List.mem_cons_self .., by rw [h3] at hc; exact List.mem_cons_of_mem _ hc⟩
        · exact ⟨p, by simp [h3], hc⟩
theorem check_free {n : List UInt8} (h : check n = 0) {c : UInt8} (hc : okB c = false) (h46 : c ≠ 46) : c ∉ n := fun hm => by
  obtain ⟨p, hp, hcp⟩ := parts_mem h46 hm
  exact comp_free hc (((check_zero n).1 h).2.1 p hp) hcp
theorem site_free {s : List UInt8} (h : siteE s = 0) {c : UInt8} (hc : permB c = false) : c ∉ s := fun hm => by
  unfold siteE at h
  split at h
  · cases h
  split at h
  · cases h
  split at h
  · cases h
  · rename_i ha
    have ha : s.all permB = true := by simpa using ha
    have := List.all_eq_true.1 ha c hm
    rw [hc] at this; cases this
theorem hexd_hex (k : Nat) (h : k < 16) : isHex (hexd k) = true := by
  rcases (by omega : k = 0 ∨ k = 1 ∨ k = 2 ∨ k = 3 ∨ k = 4 ∨ k = 5 ∨ k = 6 ∨ k = 7 ∨ k = 8 ∨ k = 9 ∨ k = 10 ∨ k = 11 ∨ k = 12 ∨ k = 13 ∨ k = 14 ∨ k = 15) with rfl | rfl | rfl | rfl | rfl | rfl | rfl | rfl | rfl | rfl | rfl | rfl | rfl | rfl | rfl | rfl <;> decide
theorem hexT_hex (a : List UInt8) : ∀ c ∈ hexT a, isHex c = true := fun c hc => by
  unfold hexT at hc
  obtain ⟨b, _, hb⟩ := List.mem_flatMap.1 hc
  have := b.toNat_lt
  simp only [List.mem_cons, List.not_mem_nil, or_false] at hb
  rcases hb with rfl | rfl
  · exact hexd_hex _ (by omega)
  · exact hexd_hex _ (by omega)
theorem hexT_auth {a : List UInt8} (h : a.length = 16) : authE (hexT a) = 0 := by
  have hl := hexT_length a
  unfold authE
  rw [if_pos, if_neg (by omega), if_neg (by omega)]
  rw [List.take_of_length_le (by omega)]
  exact List.all_eq_true.2 (hexT_hex a)
theorem sumE_vals (l : List Ev) : (∀ e ∈ l, GoodE e) → (sumE l).1 = l.length ∧ 0 ≤ (sumE l).2 ∧ (sumE l).2 ≤ l.length * 65536 := snoc_ind (p := fun l => (∀ e ∈ l, GoodE e) → (sumE l).1 = l.length ∧ 0 ≤ (sumE l).2 ∧ (sumE l).2 ≤ l.length * 65536) (by intro _; exact ⟨rfl, Int.le_refl _, Int.le_refl _⟩) (fun l e ih h => by
  have h1 := ih fun x hx => h x (by simp [hx])
  have h2 := (h e (by simp)).bytes
  rw [sumE_append, List.length_append, List.length_singleton]
  have e1 : sumE [e] = (1, e.bytes) := by unfold sumE sumC oneE plus; simp
  rw [e1]
  unfold plus
  simp only
  omega) l
/-- What a count of accepted events is. -/
def CntE (c : C) : Prop := 1 ≤ c.1 ∧ c.1 ≤ 1000000 ∧ 0 ≤ c.2 ∧ c.2 ≤ c.1 * 65536
theorem cnt_of {l : List Ev} (hg : ∀ e ∈ l, GoodE e) (hl : l.length ≤ 40) {p : Ev → Bool} {o : C} (h : (if l.any p then some (sumE (l.filter p)) else none) = some o) : CntE o := by
  split at h
  · rename_i ha
    cases h
    have hv := sumE_vals (l.filter p) fun e he => hg e (List.mem_filter.1 he).1
    obtain ⟨e, he, hp⟩ := List.any_eq_true.1 ha
    have h1 : 0 < (l.filter p).length := List.length_pos_iff.2 fun e0 => by
      have := List.mem_filter.2 ⟨he, hp⟩
      rw [e0] at this; cases this
    have h2 := List.length_filter_le p l
    unfold CntE
    omega
  · cases h
theorem days_cnt {l : List Ev} (hg : ∀ e ∈ l, GoodE e) (hl : l.length ≤ 40) : ∀ q ∈ daysL l, CntE q.2 := fun q hq => by
  have h := (getA_iff (daysL_two l) q.1 q.2).2 hq
  rw [getA_days] at h
  exact cnt_of hg hl h
theorem names_cnt {l : List Ev} (hg : ∀ e ∈ l, GoodE e) (hl : l.length ≤ 40) : ∀ q ∈ namesL l, CntE q.2 := fun q hq => by
  have h := (getA_iff (namesL_two l) q.1 q.2).2 hq
  rw [getA_names fun e he => (hg e he).apart] at h
  exact cnt_of hg hl h
theorem sumZ_put (zs : List Int) : ∀ (k : Nat) (a : Int), k < zs.length → sumZ (zs.set k a) = sumZ zs - zs.getD k 0 + a := by
  have hf : ∀ (l : List Int) (z : Int), l.foldl (· + ·) z = z + l.foldl (· + ·) 0 := by
    intro l
    induction l with
    | nil => intro z; show z = z + 0; omega
    | cons x l ih => intro z; rw [List.foldl_cons, List.foldl_cons, ih (z + x), ih (0 + x)]; omega
  have hc : ∀ (x : Int) (l : List Int), sumZ (x :: l) = x + sumZ l := fun x l => by
    unfold sumZ
    rw [List.foldl_cons, hf l (0 + x)]; omega
  induction zs with
  | nil => intro k a hk; simp at hk
  | cons x zs ih =>
    intro k a hk
    cases k with
    | zero => rw [List.set_cons_zero, hc, hc, List.getD_cons_zero]; omega
    | succ k => rw [List.set_cons_succ, hc, hc, ih k a (by simpa using hk), List.getD_cons_succ]; omega
theorem sizes_len (l : List Ev) : (∀ e ∈ l, GoodE e) → sumZ (sizesL l) = l.length := snoc_ind (p := fun l => (∀ e ∈ l, GoodE e) → sumZ (sizesL l) = l.length) (by intro _; decide) (fun l e ih h => by
  have h1 := ih fun x hx => h x (by simp [hx])
  have h2 := (h e (by simp)).bytes
  have h3 := blen_le h2.1 h2.2
  have h4 := sizesL_length l
  rw [sizesL_snoc, List.length_append, List.length_singleton]
  unfold upAt
  rw [sumZ_put _ _ _ (by omega), h1]
  omega) l
theorem days_total (l : List Ev) (hg : ∀ e ∈ l, GoodE e) : totalD (daysL l) = l.length := by
  unfold totalD
  rw [total_days, (sumE_vals l hg).1]
/-- The same entries in order. -/
theorem in_order {κ : Type} [DecidableEq κ] {c : κ → κ → Int} (hc : Lin c) {L : List (κ × C)} (h : NoTwo L) : ∃ M : List (κ × C), Inc c (M.map (·.1)) ∧ M.Perm L := by
  refine ⟨(insAll c (L.map (·.1))).map fun k => (k, (getA L k).getD (0, 0)), ?_, ?_⟩
  · rw [List.map_map]
    have e : ((fun q : κ × C => q.1) ∘ fun k => (k, (getA L k).getD (0, 0))) = id := rfl
    rw [e, List.map_id]
    exact insAll_inc hc _
  · have n1 : (insAll c (L.map (·.1))).Nodup := inc_two hc (insAll_inc hc _)
    have n2 : L.Nodup := by
      unfold NoTwo at h
      exact List.Pairwise.imp (fun hab e => hab (by rw [e])) (List.pairwise_map.1 h)
    refine (List.perm_ext_iff_of_nodup ?_ n2).2 fun q => ?_
    · unfold List.Nodup
      rw [List.pairwise_map]
      exact n1.imp fun hab e => hab (congrArg Prod.fst e)
    · rw [List.mem_map]
      constructor
      · rintro ⟨k, hk, rfl⟩
        rw [mem_insAll hc] at hk
        obtain ⟨q, hq, rfl⟩ := List.mem_map.1 hk
        rw [(getA_iff h q.1 q.2).2 hq]
        exact hq
      · intro hq
        refine ⟨q.1, ?_, ?_⟩
        · rw [mem_insAll hc]; exact List.mem_map.2 ⟨q, hq, rfl⟩
        · rw [(getA_iff h q.1 q.2).2 hq]; rfl
theorem same_perm {κ : Type} [DecidableEq κ] {L M : List (κ × C)} (hL : NoTwo L) (hM : NoTwo M) (h : ∀ x, getA L x = getA M x) : L.Perm M := by
  have nd : ∀ {L : List (κ × C)}, NoTwo L → L.Nodup := fun {L} h => by
    unfold NoTwo at h
    exact List.Pairwise.imp (fun hab e => hab (by rw [e])) (List.pairwise_map.1 h)
  refine (List.perm_ext_iff_of_nodup (nd hL) (nd hM)).2 fun q => ?_
  rw [← getA_iff hL q.1 q.2, ← getA_iff hM q.1 q.2, h]
theorem fromDay_two {b : Int} {ns : List (Ky × C)} (h : NoTwo ns) : NoTwo (fromDay b ns) := by
  unfold fromDay; exact h.filter _
theorem TextOk.perm {ds ds' : List (Int × C)} {ns ns' : List (Ky × C)} {zs : List Int} (h : TextOk ds ns zs) (hd : ds'.Perm ds) (hn : ns'.Perm ns) : TextOk ds' ns' zs :=
  ⟨by rw [hd.length_eq]; exact h.dn, by rw [hn.length_eq]; exact h.nn, fun q hq => h.d q (hd.mem_iff.1 hq), fun q hq => h.n q (hn.mem_iff.1 hq), h.z, h.zl⟩
theorem TextOk.sub {ds : List (Int × C)} {ns : List (Ky × C)} {zs : List Int} (h : TextOk ds ns zs) (b : Int) : TextOk ds (fromDay b ns) zs :=
  ⟨h.dn, Nat.le_trans (by unfold fromDay; exact List.length_filter_le _ _) h.nn, h.d, fun q hq => h.n q (by unfold fromDay at hq; exact (List.mem_filter.1 hq).1), h.z, h.zl⟩
theorem names_small {l : List Ev} (hg : ∀ e ∈ l, GoodE e) (hau : ∀ e ∈ l, e.author.length = 16) : ∀ q ∈ namesL l, q.1.2.2.length ≤ 80 := fun q hq => by
  obtain ⟨e, he, hk⟩ := (mem_keysL (fun e he => (hg e he).apart) q.1).1 (List.mem_map.2 ⟨q, hq, rfl⟩)
  have h2 := ((mem_keysE e q.1.1 q.1.2.1 q.1.2.2).1 hk).2
  unfold hasE at h2
  rw [Bool.and_eq_true] at h2
  have h4 := of_decide_eq_true h2.2
  unfold ofKind at h4
  split at h4
  · have h5 : q.1.2.2 = hexT e.author := by simpa using h4
    rw [h5, hexT_length, hau e he]; omega
  split at h4
  · have := siteE_zero ((hg e he).sites _ h4); omega
  · exact ((check_zero _).1 ((hg e he).groups _ h4)).1
theorem text_small {l : List Ev} (hg : ∀ e ∈ l, GoodE e) (hau : ∀ e ∈ l, e.author.length = 16) (hl : l.length ≤ 20) (b : Int) : (textP (daysL l) (fromDay b (namesL l)) (sizesL l)).length ≤ 16777216 := by
  have hk := (textOk_of hg hau (by omega)).sub b
  have hnn : (fromDay b (namesL l)).length ≤ 1420 := by
    have h1 := namesL_len l hg
    have h2 : (fromDay b (namesL l)).length ≤ (namesL l).length := by unfold fromDay; exact List.length_filter_le _ _
    omega
  have hns : ∀ q ∈ fromDay b (namesL l), q.1.2.2.length ≤ 80 := fun q hq => names_small hg hau q (by unfold fromDay at hq; exact (List.mem_filter.1 hq).1)
  have hdd := daysL_len l
  generalize daysL l = ds at *
  generalize fromDay b (namesL l) = ns at *
  generalize sizesL l = zs at *
  unfold textP
  rw [List.length_append]
  have h1 : ((insAll icmp (ds.map (·.1))).flatMap (dayText ds ns)).length ≤ 180000 * (insAll icmp (ds.map (·.1))).length := by
    refine flat_len _ _ _ fun d hd => ?_
    obtain ⟨q, hq, rfl⟩ := List.mem_map.1 ((mem_insAll icmp_lin _ _).1 hd)
    have hqd := hk.d q hq
    unfold dayText
    rw [List.length_append]
    have a1 := lineN_len 0 (dg q.1) (get_num (fun q hq => (hk.d q hq).2) q.1)
    have a2 := dg_len hqd.1.1 hqd.1.2
    have a3 : ((dayNames ns q.1).flatMap fun x => lineN x.1 x.2 ((getA ns (q.1, x)).getD (0, 0))).length ≤ 122 * (dayNames ns q.1).length := by
      refine flat_len _ _ _ fun x hx => ?_
      unfold dayNames at hx
      obtain ⟨y, hy, rfl⟩ := List.mem_map.1 ((mem_insAll kcmp_lin _ _).1 hx)
      have hyn := hns y (List.mem_filter.1 hy).1
      have := lineN_len y.1.2.1 y.1.2.2 (get_num (fun q hq => (hk.n q hq).2.2) (q.1, y.1.2))
      omega
    have a4 : (dayNames ns q.1).length ≤ 1420 := by
      have b1 := insAll_length kcmp ((ns.filter fun x => decide (x.1.1 = q.1)).map (·.1.2))
      have b2 := List.length_filter_le (fun x : Ky × C => decide (x.1.1 = q.1)) ns
      rw [List.length_map] at b1
      unfold dayNames
      omega
    omega
  have h2 : (insAll icmp (ds.map (·.1))).length ≤ 20 := by
    have := insAll_length icmp (ds.map (·.1))
    rw [List.length_map] at this
    omega
  have h3 : (sizesT zs).length ≤ 50 * (List.range zs.length).length := by
    unfold sizesT
    refine flat_len _ _ _ fun k hk2 => sizeLn_len k (hk.z k).1 (hk.z k).2 ?_
    have := List.mem_range.1 hk2
    have := hk.zl
    omega
  rw [List.length_range, hk.zl] at h3
  omega
/-- What Parse reads of the text of accepted events, after Forget. -/
theorem trip {l : List Ev} (hg : ∀ e ∈ l, GoodE e) (hau : ∀ e ∈ l, e.author.length = 16) (hl : l.length ≤ 40) (b : Int) :
    ∃ st, parseP vN (textP (daysL l) (fromDay b (namesL l)) (sizesL l)) = .inl st ∧ st.ds.Perm (daysL l) ∧ st.ns.Perm (fromDay b (namesL l)) ∧ st.zs = sizesL l := by
  have hap : ∀ e ∈ l, Apart e := fun e he => (hg e he).apart
  obtain ⟨D, d1, d2⟩ := in_order icmp_lin (daysL_two l)
  obtain ⟨N, n1, n2⟩ := in_order kk_lin (fromDay_two (b := b) (namesL_two l))
  have hsub : ∀ q ∈ N, q ∈ namesL l := fun q hq => by
    have := n2.mem_iff.1 hq
    unfold fromDay at this
    exact (List.mem_filter.1 this).1
  have hkey : ∀ q ∈ namesL l, ∃ e ∈ l, q.1.1 = dayE e ∧ (1 ≤ q.1.2.1 ∧ q.1.2.1 ≤ 3) ∧ vN q.1.2.1 q.1.2.2 = true ∧ (10 : UInt8) ∉ q.1.2.2 ∧ (32 : UInt8) ∉ q.1.2.2 := fun q hq => by
    obtain ⟨e, he, hk⟩ := (mem_keysL hap q.1).1 (List.mem_map.2 ⟨q, hq, rfl⟩)
    obtain ⟨h1, h2⟩ := (mem_keysE e q.1.1 q.1.2.1 q.1.2.2).1 hk
    unfold hasE at h2
    rw [Bool.and_eq_true] at h2
    have h3 := of_decide_eq_true h2.1
    have h4 := of_decide_eq_true h2.2
    refine ⟨e, he, h1, h3, ?_⟩
    unfold ofKind at h4
    split at h4
    · rename_i e3
      have h5 : q.1.2.2 = hexT e.author := by simpa using h4
      rw [h5, e3]
      refine ⟨?_, fun hm => ?_, fun hm => ?_⟩
      · unfold vN; rw [if_neg (by decide), if_neg (by decide), hexT_auth (hau e he)]; rfl
      · have := hexT_hex _ _ hm; revert this; decide
      · have := hexT_hex _ _ hm; revert this; decide
    split at h4
    · rename_i e3 e2
      have h5 := (hg e he).sites _ h4
      rw [e2]
      refine ⟨?_, site_free h5 (by decide), site_free h5 (by decide)⟩
      unfold vN; rw [if_neg (by decide), if_pos rfl, h5]; rfl
    · rename_i e3 e2
      have e1 : q.1.2.1 = 1 := by omega
      have h5 := (hg e he).groups _ h4
      rw [e1]
      refine ⟨?_, check_free h5 (by decide) (by decide), check_free h5 (by decide) (by decide)⟩
      unfold vN; rw [if_pos rfl, h5]; rfl
  have hday : ∀ q ∈ daysL l, 0 ≤ q.1 ∧ q.1 ≤ 73048 := fun q hq => by
    obtain ⟨e, he, h1⟩ := (mem_daysM l q.1).1 ((keys_daysL l q.1).1 (List.mem_map.2 ⟨q, hq, rfl⟩))
    have := (hg e he).minute
    rw [← h1]; unfold dayE; omega
  obtain ⟨st, p1, p2, p3, p4, p5⟩ := parseP_back vN (ds := D) (ns := N) (zs := sizesL l) d1 n1
    (fun q hq => by
      have hq' := d2.mem_iff.1 hq
      have hc := days_cnt hg hl q hq'
      have hd := hday q hq'
      unfold CntE at hc
      exact ⟨by show (0 : Int) ≤ 0 ∧ (0 : Int) ≤ 4; omega, fun h => by have h : (1 : Int) ≤ 0 := h; omega, fun _ => rfl, ⟨hd.1, fun _ => hd.2, fun h => by have h : (0 : Int) = 4 := h; omega⟩, ⟨hc.1, hc.2.1⟩, ⟨hc.2.2.1, hc.2.2.2⟩⟩)
    (fun q hq => by
      have hq' := hsub q hq
      have hc := names_cnt hg hl q hq'
      obtain ⟨e, he, h1, h2, h3, h4, h5⟩ := hkey q hq'
      unfold CntE at hc
      exact ⟨⟨by show 0 ≤ q.1.2.1 ∧ q.1.2.1 ≤ 4; omega, fun _ _ => ⟨h3, h4, h5, rfl⟩, fun h => by have h : q.1.2.1 = 0 ∨ q.1.2.1 = 4 := h; omega, ⟨Int.le_refl 0, fun h => by have h : q.1.2.1 = 0 := h; omega, fun h => by have h : q.1.2.1 = 4 := h; omega⟩, ⟨hc.1, hc.2.1⟩, ⟨hc.2.2.1, hc.2.2.2⟩⟩, h2⟩)
    (fun k _ => by have := sizesL_bnd l hg k; omega) (sizesL_length l)
    (by
      have e1 : totalD D = totalD (daysL l) := by unfold totalD; rw [sumC_perm (d2.map _)]
      rw [e1, sizes_len l hg, days_total l hg])
    (by
      have e1 : totalD D = totalD (daysL l) := by unfold totalD; rw [sumC_perm (d2.map _)]
      rw [e1, days_total l hg]; omega)
    (fun q hq => by
      obtain ⟨e, he, h1, _⟩ := hkey q (hsub q hq)
      rw [(d2.map (·.1)).mem_iff, keys_daysL, mem_daysM]
      exact ⟨e, he, h1.symm⟩)
  have e1 : textP D N (sizesL l) = textP (daysL l) (fromDay b (namesL l)) (sizesL l) := textP_same (sizesL l) (fun x => (getA_perm (daysL_two l) d2.symm x).symm) (fun x => (getA_perm (fromDay_two (namesL_two l)) n2.symm x).symm)
  rw [e1] at p1
  refine ⟨st, p1, by rw [p2]; exact d2, ?_, p3⟩
  exact same_perm p5 (fromDay_two (namesL_two l)) fun x => (p4 x).trans (getA_perm (fromDay_two (namesL_two l)) n2.symm x).symm
end Go.Proofs.YthgefcoaaommkaaGreatDoor
