/- Contract: the count of a name from a day to a day. -/
import Derived.Test.YthgefcoaaommkaaDoorStD
namespace Go.Proofs.YthgefcoaaommkaaDoor
open Go.RowKit Go.Gn Go.Sr Go.Maps

/-- The keys with a kind, a name and a day between two others. -/
def pickKy (kind : Int) (name : List UInt8) (a b : Int) (x : Ky) : Bool := decide (x.2.1 = kind) && decide (x.2.2 = name) && decide (a ≤ x.1) && decide (x.1 ≤ b)
theorem sumP_ok {κ : Type} {p : κ → Bool} {l : List (κ × C)} (h : ∀ c ∈ l.map (·.2), smallC c) (hl : l.length ≤ 100000) : okC (sumP p l) :=
  sumC_ok (fun c hc => by
    obtain ⟨q, hq, rfl⟩ := List.mem_map.1 hc
    exact h _ (List.mem_map.2 ⟨q, (List.mem_filter.1 hq).1, rfl⟩)) (by rw [List.length_map]; exact Nat.le_trans (List.length_filter_le _ _) hl)
theorem str_dec {a b : List UInt8} : decide ((⟨a.toArray⟩ : ByteArray) = ⟨b.toArray⟩) = decide (a = b) := by
  rw [Bool.eq_iff_iff, decide_eq_true_eq, decide_eq_true_eq]
  constructor
  · intro e; injection e with e; simpa using e
  · rintro rfl; rfl
set_option maxRecDepth 100000 in
set_option maxHeartbeats 8000000 in
theorem of_any (p bd bn : Nat) (ds : List (Int × C)) (ns : List (Ky × C)) (zs : List Int) (kind : Int) (name : List UInt8) (a b : Int) (w : World) (h : StM w p bd bn ds ns zs) (hs : ∀ q ∈ ns, smallC q.2) (hn : ns.length ≤ 100000) :
    Calls Tryd.prog 9 #[.pointer (some ⟨p, 0, none⟩), i64 kind, enS name, i64 a, i64 b] w fun e w' => e = .returned (cV (sumP (pickKy kind name a b) ns)) ∧ Below w.heap.size w w' := by
  have hcell := h.c1
  have hpl := h.lp
  have H0 := Lib.hid h
  have HS := Lib.hid hs
  clear h hs
  go_enter Tryd.func9, Tryd.ntmps9
  have H1 := Lib.hid ((H0.out.mn.below (below_new w (.cells #[i64 0, i64 0] 29))).below (below_new _ (.cells #[i64 0, i64 0] 29)))
  have S1 : Hid (SumW w ((w.alloc (.cells #[i64 0, i64 0] 29)).alloc (.cells #[i64 0, i64 0] 29)) (0, 0)) := Lib.hid ⟨blk_below (below_new _ _) (blk_new _ _), by have := blk_new (w.alloc (.cells #[i64 0, i64 0] 29)) (.cells #[i64 0, i64 0] 29); simpa using this, (below_new _ _).tr (below_new _ _)⟩
  go_wp2_with (first | (at_range; refine wpList_range_a _ rfl _ 55 rfl nameK 29 Tryd.underlying55 bn ns rfl H1.out ?_; intro w0 hrg0 hg0 hs0) | go_in)
  go_frame
  have hbt : Below ((w.alloc (.cells #[i64 0, i64 0] 29)).alloc (.cells #[i64 0, i64 0] 29)).heap.size ((w.alloc (.cells #[i64 0, i64 0] 29)).alloc (.cells #[i64 0, i64 0] 29)) w0 := (Below.refl _ _).grown hg0 (Nat.le_refl _) (fun k hk => by cases hk)
  have S2 := Lib.hid (S1.out.tr hbt)
  have e1 : ((w.alloc (.cells #[i64 0, i64 0] 29)).alloc (.cells #[i64 0, i64 0] 29)).heap.size = w.heap.size + 1 + 1 := by simp
  rw [e1] at hrg0 hs0 ⊢
  have R2 := Lib.hid hrg0
  clear hbt hg0 hs0 hrg0 S1 H1 hcell hpl e1
  go_loopg [12, 13] ns.length (fun gg cv dv wr => ∃ done : List (Ky × C), ns.length - done.length ≤ gg ∧ Hid (RngA nameK wr bn (w.heap.size + 1 + 1) ns done) ∧ Hid (SumW w wr (sumP (pickKy kind name a b) done)))
  case atStart => exact ⟨[], by simp, R2, S2⟩
  case round =>
    obtain ⟨done, hgg, R3, S3⟩ := hrel
    obtain ⟨s, hsum⟩ : ∃ q, sumP (pickKy kind name a b) done = q := ⟨_, rfl⟩
    have hsok : okC s := by rw [← hsum]; exact sumP_ok (sub_small HS.out R3.out.sub) (by have := R3.out.len; omega)
    obtain ⟨s1, s2⟩ := s
    rw [hsum] at S3
    have HSUM := Lib.hid hsum
    clear hsum
    go_wp2_with (first | (at_next; refine wpList_next_name rfl _ rfl bn (w.heap.size + 1 + 1) ns done rfl R3.out ?_ ?_) | go_in)
    · intro hp
      have hc0 := blk_cell S3.out.sum 0
      have hc1 := blk_cell S3.out.sum 1
      have hr0 := blk_cell S3.out.res 0
      have hr1 := blk_cell S3.out.res 1
      have hf0 := blk_free S3.out.res 0
      have hf1 := blk_free S3.out.res 1
      go_wp2_with fail
      have hb := blk_set (blk_set S3.out.res 0 (i64 s1)) 1 (i64 s2)
      have d0 := blk_cell hb 0
      have d1 := blk_cell hb 1
      have B3 := (S3.out.bel.setCell (p := ⟨w.heap.size, 0, none⟩) (Nat.le_refl _) (i64 s1)).setCell (p := ⟨w.heap.size, 1, none⟩) (Nat.le_refl _) (i64 s2)
      refine bodyPost_ret (v := .agg #[i64 s1, i64 s2]) (by simp [results, Tryd.results9, go_sem, d0, d1]) rfl ⟨?_, B3⟩
      rw [← sumP_perm _ hp, HSUM.out]; rfl
    · intro x1 x2 x3 c1 c2 w1 hmem hnd hwf R4 hg4 hs4 hen
      have S4 := Lib.hid (S3.out.grown hg4 (by omega))
      have HR4 := Lib.hid R4
      have hcs := HS.out _ hmem
      have hsn := sumP_snoc (pickKy kind name a b) done (x1, x2, x3) (c1, c2)
      rw [HSUM.out] at hsn
      have HSN := Lib.hid hsn
      clear hmem hnd hwf R4 hg4 hs4 hsn
      have hc0 := blk_cell S4.out.sum 0
      have hc1 := blk_cell S4.out.sum 1
      have hlt := blk_lt S4.out.sum
      have hlt2 := blk_lt S4.out.res
      have b1 := Lib.hid ((below_new w1 (.cells #[i64 x1, i64 x2, enS x3] 59)).tr (below_new _ (.cells #[i64 c1, i64 c2] 29)))
      by_cases hk : x2 = kind
      case neg =>
        have hkd : decide (x2 = kind) = false := decide_eq_false hk
        have hkb : (x2 == kind) = false := by simp [hk]
        have S5 := Lib.hid (S4.out.tr b1.out)
        have HR5 := Lib.hid (HR4.out.below b1.out)
        have hpf : pickKy kind name a b (x1, x2, x3) = false := by unfold pickKy; simp only; rw [hkd, Bool.false_and, Bool.false_and, Bool.false_and]
        have HSU : Hid (sumP (pickKy kind name a b) (done ++ [((x1, x2, x3), (c1, c2))]) = (s1, s2)) := Lib.hid (by rw [HSN.out, hpf, if_neg Bool.false_ne_true, plus_zero])
        clear hpf
        go_wp2_with fail
        go_roundg (ns.length - (done.length + 1))
        case measure =>
          have := HR5.out.len
          simp at this
          omega
        case rel => exact ⟨done ++ [((x1, x2, x3), (c1, c2))], by simp, HR5, by rw [HSU.out]; exact S5⟩
      have hkd : decide (x2 = kind) = true := decide_eq_true hk
      have hkb : (x2 == kind) = true := by simp [hk]
      clear hk
      by_cases hm : x3 = name
      case neg =>
        have hmd : decide (x3 = name) = false := decide_eq_false hm
        have S5 := Lib.hid (S4.out.tr b1.out)
        have HR5 := Lib.hid (HR4.out.below b1.out)
        have hpf : pickKy kind name a b (x1, x2, x3) = false := by unfold pickKy; simp only; rw [hkd, hmd, Bool.true_and, Bool.false_and, Bool.false_and]
        have HSU : Hid (sumP (pickKy kind name a b) (done ++ [((x1, x2, x3), (c1, c2))]) = (s1, s2)) := Lib.hid (by rw [HSN.out, hpf, if_neg Bool.false_ne_true, plus_zero])
        clear hpf
        go_wp2_with fail
        go_roundg (ns.length - (done.length + 1))
        case measure =>
          have := HR5.out.len
          simp at this
          omega
        case rel => exact ⟨done ++ [((x1, x2, x3), (c1, c2))], by simp, HR5, by rw [HSU.out]; exact S5⟩
      subst hm
      by_cases ha : a ≤ x1
      case neg =>
        have had : decide (a ≤ x1) = false := decide_eq_false ha
        have S5 := Lib.hid (S4.out.tr b1.out)
        have HR5 := Lib.hid (HR4.out.below b1.out)
        have hpf : pickKy kind x3 a b (x1, x2, x3) = false := by unfold pickKy; simp only; rw [hkd, had, Bool.and_false, Bool.false_and]
        have HSU : Hid (sumP (pickKy kind x3 a b) (done ++ [((x1, x2, x3), (c1, c2))]) = (s1, s2)) := Lib.hid (by rw [HSN.out, hpf, if_neg Bool.false_ne_true, plus_zero])
        clear hpf
        go_wp2_with fail
        go_roundg (ns.length - (done.length + 1))
        case measure =>
          have := HR5.out.len
          simp at this
          omega
        case rel => exact ⟨done ++ [((x1, x2, x3), (c1, c2))], by simp, HR5, by rw [HSU.out]; exact S5⟩
      have had : decide (a ≤ x1) = true := decide_eq_true ha
      by_cases hb : x1 ≤ b
      case neg =>
        have hbd : decide (x1 ≤ b) = false := decide_eq_false hb
        have S5 := Lib.hid (S4.out.tr b1.out)
        have HR5 := Lib.hid (HR4.out.below b1.out)
        have hpf : pickKy kind x3 a b (x1, x2, x3) = false := by unfold pickKy; simp only; rw [hbd, Bool.and_false]
        have HSU : Hid (sumP (pickKy kind x3 a b) (done ++ [((x1, x2, x3), (c1, c2))]) = (s1, s2)) := Lib.hid (by rw [HSN.out, hpf, if_neg Bool.false_ne_true, plus_zero])
        clear hpf
        go_wp2_with fail
        go_roundg (ns.length - (done.length + 1))
        case measure =>
          have := HR5.out.len
          simp at this
          omega
        case rel => exact ⟨done ++ [((x1, x2, x3), (c1, c2))], by simp, HR5, by rw [HSU.out]; exact S5⟩
      have hbd : decide (x1 ≤ b) = true := decide_eq_true hb
      have hpf : pickKy kind x3 a b (x1, x2, x3) = true := by unfold pickKy; simp only; rw [hkd, had, hbd]; simp
      have HSU := Lib.hid HSN.out
      rw [hpf, if_pos rfl] at HSU
      clear hpf
      go_wp2_with fail
      refine (plus_any (s1, s2) (c1, c2) _ hsok hcs.ok).mono ?_; rintro e w2 ⟨rfl, bb⟩
      have b2 := b1.out.tr bb
      have S5 := Lib.hid (S4.out.tr b2)
      have HR5 := Lib.hid (HR4.out.below b2)
      have hc0 := blk_cell S5.out.sum 0
      have hc1 := blk_cell S5.out.sum 1
      have hf0 := blk_free S5.out.sum 0
      have hf1 := blk_free S5.out.sum 1
      clear bb b2 S4 HR4
      simp only [cV, plus]
      go_wp2_with fail
      go_roundg (ns.length - (done.length + 1))
      case measure =>
        have := HR5.out.len
        simp at this
        omega
      case rel => exact ⟨done ++ [((x1, x2, x3), (c1, c2))], by simp, Lib.hid (HR5.out.set (by have := H0.out.ln; omega) (by omega) _ _), by rw [HSU.out]; exact Lib.hid (S5.out.set _ _)⟩
end Go.Proofs.YthgefcoaaommkaaDoor
