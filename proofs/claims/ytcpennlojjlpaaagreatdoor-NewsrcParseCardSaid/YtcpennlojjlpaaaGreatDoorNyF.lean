/- Contract: parseMark. -/
import Derived.Test.YtcpennlojjlpaaaGreatDoorNxY
import Derived.Test.YtcpennlojjlpaaaGreatDoorZj
import Derived.Test.YtcpennlojjlpaaaGreatDoorMapB
import Derived.Test.YtcpennlojjlpaaaGreatDoorZb
import Derived.StringKeys
namespace Go.Nr
open Go.Gn
theorem index_any2 : ∀ s : List UInt8, Lib.indexAny s [58, 33] = if s.dropWhile nb = [] then -1 else ((s.takeWhile nb).length : Int)
  | [] => by simp [Lib.indexAny]
  | b :: l => by
    have ih := index_any2 l
    unfold Lib.indexAny
    by_cases h : nb b = true
    · have h1 : [58, 33].contains b = false := by
        unfold nb at h
        simp at h ⊢
        exact h
      rw [h1, List.dropWhile_cons, if_pos h, List.takeWhile_cons, if_pos h, ih, if_neg Bool.false_ne_true]
      by_cases e : l.dropWhile nb = []
      · rw [if_pos e, if_pos e, if_pos (by rfl)]
      · rw [if_neg e, if_neg e]
        have : ((((l.takeWhile nb).length : Int)) == -1) = false := beq_eq_false_iff_ne.2 (by omega)
        rw [this, if_neg Bool.false_ne_true]
        simp
    · have h1 : [58, 33].contains b = true := by
        unfold nb at h
        simp at h ⊢
        rcases Decidable.em (b = 58) with e | e
        · exact .inl e
        · exact .inr (h e)
      rw [h1, List.dropWhile_cons, if_neg h, List.takeWhile_cons, if_neg h]
      simp
theorem pitem_err2 {s : List UInt8} {e : Nat} (h : pitem s = .inr e) : e ≠ 0 := by
  rcases item_parts s with ⟨_, h2⟩ | ⟨h1, h2⟩
  · rw [h] at h2; cases h2
  · rw [h] at h2; injection h2 with h2; rw [h2]; exact h1
theorem pitems_err2 : ∀ (t : List (List UInt8)) (a : Nat) (last : Int) (b e : Nat), pitems t a last = .inr (b, e) → e ≠ 0
  | [], a, last, b, e, h => by cases h
  | s :: t, a, last, b, e, h => by
    rw [pitems_cons] at h
    cases hp : pitem s with
    | inr e' =>
      rw [hp] at h
      simp only at h
      injection h with h; injection h with h1 h2
      rw [← h2]; exact pitem_err2 hp
    | inl r =>
      rw [hp] at h
      simp only at h
      split at h
      · injection h with h; injection h with h1 h2; omega
      · cases hq : pitems t (a + s.length + 1) r.2 with
        | inl l => rw [hq] at h; cases h
        | inr e' =>
          rw [hq] at h
          obtain ⟨b', e''⟩ := e'
          simp only at h
          injection h with h; injection h with h1 h2
          rw [← h2]; exact pitems_err2 t _ _ _ _ hq
theorem pset_err {s : List UInt8} {a e : Nat} (h : pset s = .inr (a, e)) : e ≠ 0 := by
  unfold pset at h
  split at h
  · cases h
  · exact pitems_err2 _ _ _ _ _ h
end Go.Nr
namespace Go.Proofs.YtcpennlojjlpaaaGreatDoor
open Go.RowKit Go.Nr Go.Gn Go.Maps

/-- strings.IndexAny finds a colon or an exclamation mark of s. -/
def IdxOk (s : List UInt8) : Prop := ∀ W, Calls Tryz.prog 127 #[enS s, .string ⟨#[58, 33]⟩] W fun e w' => e = .returned (i64 (Lib.indexAny s [58, 33])) ∧ Below W.heap.size W w'
theorem zeroB (w : World) : (zeroValue 4).run Tryz.prog w = .ok (.bool false) w := by kernel_rfl
theorem keyS {x : List UInt8} (h : x.length ≤ maxLen) : keyOf Tryz.prog 9 (enS x) = some (.string x) := by
  have := WideMaps.keyOf_string_mk (P := Tryz.prog) Tryz.underlying9 (s := ⟨x.toArray⟩) (by show x.toArray.size ≤ _; simpa using h)
  simpa using this
/-- The map of the names that came. -/
def MapN (w : World) (b : Nat) (ks : List (List UInt8)) : Prop := MapB Tryz.prog 9 4 w b (ks.map Lit.string)
theorem onN {w : World} {b : Nat} {ks : List (List UInt8)} (h : MapN w b ks) (x : List UInt8) : onL (ks.map Lit.string) (.string x) = decide (x ∈ ks) := by
  have e := onL_iff h.1 (.string x)
  by_cases hx : x ∈ ks
  · rw [decide_eq_true hx, e.2 (List.mem_map.2 ⟨x, hx, rfl⟩)]
  · rw [decide_eq_false hx]
    cases hq : onL (ks.map Lit.string) (.string x) with
    | false => rfl
    | true =>
      obtain ⟨y, hy, ey⟩ := List.mem_map.1 (e.1 hq)
      injection ey with ey
      rw [ey] at hy
      exact absurd hy hx
theorem Ty.set {w : World} {k g t : Nat} {T : TypeId} {v : Value} (h : Ty w k T) : Ty (w.setCell ⟨g, t, none⟩ v) k T := by
  obtain ⟨cs, fr, h⟩ := h
  by_cases e : k = g
  · subst e; exact ⟨_, _, blk_set h t v⟩
  · exact ⟨cs, fr, (blk_set_ne t v e).trans h⟩
theorem SetOk.set {w : World} {A : Option Addr} {c : Nat} {l : List Rg} {g t : Nat} {T : TypeId} {v : Value} (h : SetOk w A c l) (hg : Ty w g T) (hT : T ≠ 42) : SetOk (w.setCell ⟨g, t, none⟩ v) A c l :=
  h.keep (by simp [World.setCell]) fun k _ hk => blk_set_ne t v fun e => hT (hg.uniq (e ▸ hk))
theorem SetOk.set3 {w : World} {A : Option Addr} {c : Nat} {l : List Rg} {g : Nat} {T : TypeId} {v0 v1 v2 : Value} (h : SetOk w A c l) (hg : Ty w g T) (hT : T ≠ 42) : SetOk (((w.setCell ⟨g, 0, none⟩ v0).setCell ⟨g, 1, none⟩ v1).setCell ⟨g, 2, none⟩ v2) A c l :=
  ((h.set hg hT).set hg.set hT).set hg.set.set hT
theorem ButG.set3 (g : Nat) (v0 v1 v2 : Value) (w : World) : ButG g w (((w.setCell ⟨g, 0, none⟩ v0).setCell ⟨g, 1, none⟩ v1).setCell ⟨g, 2, none⟩ v2) :=
  ButG.trans _ _ _ (ButG.trans _ _ _ (ButG.set g 0 v0 w) (ButG.set g 1 v1 _)) (ButG.set g 2 v2 _)
/-- The marks of a group and an error. -/
def GivesMark (w : World) (r : G ⊕ Nat) (e : Ending) (w' : World) : Prop :=
  Below w.heap.size w w' ∧ match r with
  | .inl g => ∃ A c, e = .returned (.tuple #[.agg #[enS g.1, .bool g.2.1, .slice A g.2.2.length c], i64 0]) ∧ SetOk w' A c g.2.2
  | .inr er => e = .returned (.tuple #[.agg #[enS [], .bool false, .slice none 0 0], i64 er])

set_option maxRecDepth 100000 in
set_option maxHeartbeats 8000000 in
theorem parseMark_any (s : List UInt8) (b : Nat) (ks : List (List UInt8)) (w : World) (hM : MapN w b ks) (hE : Env w) (hI : IdxOk s) (hl : s.length ≤ 100000) (hp : ∀ t, (parts 44 t).length ≤ t.length + 1 → t.length ≤ s.length → (parts 44 t).length ≤ 4096) :
    Calls Tryz.prog 107 #[enS s, .map (some b)] w (GivesMark w (pmark ks s)) := by
  have hix := index_any2 s
  have HM := Lib.hid hM
  have HEv := Lib.hid (fun W (h : Below w.heap.size w W) => hE.below h)
  have hcat := List.takeWhile_append_dropWhile (p := nb) (l := s)
  have hpm : pmark ks s = (match s.dropWhile nb with
  | [] => .inr 3
  | c :: rest =>
    if check (s.takeWhile nb) ≠ 0 then .inr 12 else if s.takeWhile nb ∈ ks then .inr 7 else
    if rest = [] then .inl (s.takeWhile nb, c == 58, []) else if rest.head? ≠ some 32 ∨ rest.length = 1 then .inr 3 else
    match pset (rest.drop 1) with
    | .inl l' => .inl (s.takeWhile nb, c == 58, l')
    | .inr e => .inr e.2) := rfl
  rw [hpm]
  have HI := Lib.hid (fun W => hI W)
  rw [hix] at HI
  clear hM hE hI hpm hix
  cases htl : s.dropWhile nb with
  | nil =>
    rw [htl, if_pos rfl] at HI
    clear hcat htl
    simp only
    go_enter Tryz.func107, Tryz.ntmps107
    go_wp2_with fail
    have m1 := Lib.hid (HM.out.below (below_new w (.cells #[.string ByteArray.empty, .bool false, .slice none 0 0] 139))); clear HM
    have B1 := Lib.hid (below_new w (.cells #[.string ByteArray.empty, .bool false, .slice none 0 0] 139))
    have z1 := Lib.hid (blk_new w (.cells #[.string ByteArray.empty, .bool false, .slice none 0 0] 139))
    refine (HI.out _).mono ?_; rintro e w2 ⟨rfl, b⟩
    have b' : Below (w.alloc (.cells #[.string ByteArray.empty, .bool false, .slice none 0 0] 139)).heap.size (w.alloc (.cells #[.string ByteArray.empty, .bool false, .slice none 0 0] 139)) w2 := Below.tr (by first | exact Below.refl _ _ | exact below_new _ _) b
    clear b
    have m2 := Lib.hid (m1.out.below b'); clear m1
    have z2 := Lib.hid (blk_below b' z1.out); clear z1
    have B2 := Lib.hid (B1.out.tr b'); clear B1
    clear b'
    have hrc0 := blk_cell z2.out 0
    have hrf0 := blk_free z2.out 0
    have hrc1 := blk_cell z2.out 1
    have hrf1 := blk_free z2.out 1
    have hrc2 := blk_cell z2.out 2
    have hrf2 := blk_free z2.out 2
    go_wp2_with fail
    refine bodyPost_ret (v := .tuple #[.agg #[.string ⟨#[]⟩, .bool false, .slice none 0 0], i64 3]) (by simp [results, Tryz.results107, go_sem, hrc0, hrc1, hrc2]) rfl ?_
    exact ⟨(((B2.out.setCell (Nat.le_refl _) _).setCell (Nat.le_refl _) _).setCell (Nat.le_refl _) _), rfl⟩
  | cons c rest =>
    rw [htl, if_neg (by simp)] at HI
    rw [htl] at hcat
    simp only
    clear htl
    generalize s.takeWhile nb = nm at *
    subst hcat
    have hlen : (nm ++ c :: rest).length = nm.length + (rest.length + 1) := by simp
    have hx1 : (⟨(nm ++ c :: rest).toArray⟩ : ByteArray).extract 0 nm.length = ⟨nm.toArray⟩ := by rw [ext_take]; simp
    have hx2 : (⟨(nm ++ c :: rest).toArray⟩ : ByteArray).extract (nm.length + 1) (nm.length + (rest.length + 1)) = ⟨rest.toArray⟩ := by rw [← hlen, ext_drop]; simp
    have hkl : nm.length ≤ maxLen := by unfold maxLen; rw [hlen] at hl; omega
    have HKey := Lib.hid (keyS hkl)
    have HKl : Hid (WideAt.IsKeyLit (.string nm)) := trivial
    have HCk := Lib.hid (fun W (h : Env W) => check_any nm W h (by rw [hlen] at hl; omega))
    have hb0 : (0 : Int) ≤ (nm.length : Int) := by omega
    obtain ⟨er, her⟩ : ∃ er, check nm = er := ⟨_, rfl⟩
    rw [her] at HCk
    rw [her]
    clear her hkl
    by_cases h0 : er = 0
    case neg =>
      rw [if_pos h0]
      have q1 : ((er : Int) != 0) = true := by simp; omega
      go_enter Tryz.func107, Tryz.ntmps107
      go_wp2_with fail
      have m1 := Lib.hid (HM.out.below (below_new w (.cells #[.string ByteArray.empty, .bool false, .slice none 0 0] 139))); clear HM
      have B1 := Lib.hid (below_new w (.cells #[.string ByteArray.empty, .bool false, .slice none 0 0] 139))
      have z1 := Lib.hid (blk_new w (.cells #[.string ByteArray.empty, .bool false, .slice none 0 0] 139))
      refine (HI.out _).mono ?_; rintro e w2 ⟨rfl, b⟩
      have b' : Below (w.alloc (.cells #[.string ByteArray.empty, .bool false, .slice none 0 0] 139)).heap.size (w.alloc (.cells #[.string ByteArray.empty, .bool false, .slice none 0 0] 139)) w2 := Below.tr (by first | exact Below.refl _ _ | exact below_new _ _) b
      clear b
      have m2 := Lib.hid (m1.out.below b'); clear m1
      have z2 := Lib.hid (blk_below b' z1.out); clear z1
      have B2 := Lib.hid (B1.out.tr b'); clear B1
      clear b'
      go_wp2_with fail
      refine Flow.wp_region_segs Flow.Later Flow.Later.refl Flow.Later.trans [] [0, 1, 2, 3, 4, 5, 6, 7, 8] (by kernel_rfl) (by kernel_rfl) ?_
      have b' : Below w2.heap.size w2 (World.drew w2) := (Below.refl _ _).drew
      have m3 := Lib.hid (m2.out.below b'); clear m2
      have z3 := Lib.hid (blk_below b' z2.out); clear z2
      have B3 := Lib.hid (B2.out.tr b'); clear B2
      clear b'
      generalize World.drew _ = w3 at *
      haveI nonE := Flow.cls_nonempty w3
      rw [Flow.wpSegs_nil]
      simp only [Flow.pick, List.getElem?_toArray, List.getElem?_cons_succ, List.getElem?_cons_zero]
      repeat go_big_quiet_step (fail)
      refine wpQuiet_nil ?_
      clear nonE 
      go_wp2_with fail
      refine (HCk.out _ (HEv.out _ (B3.out.tr (by first | exact Below.refl _ _ | exact below_new _ _)))).mono ?_; rintro e w4 ⟨rfl, b⟩
      have b' : Below w3.heap.size w3 w4 := Below.tr (by first | exact Below.refl _ _ | exact below_new _ _) b
      clear b
      have m4 := Lib.hid (m3.out.below b'); clear m3
      have z4 := Lib.hid (blk_below b' z3.out); clear z3
      have B4 := Lib.hid (B3.out.tr b'); clear B3
      clear b'
      have hrc0 := blk_cell z4.out 0
      have hrf0 := blk_free z4.out 0
      have hrc1 := blk_cell z4.out 1
      have hrf1 := blk_free z4.out 1
      have hrc2 := blk_cell z4.out 2
      have hrf2 := blk_free z4.out 2
      go_wp2_with fail
      refine bodyPost_ret (v := .tuple #[.agg #[.string ⟨#[]⟩, .bool false, .slice none 0 0], i64 12]) (by simp [results, Tryz.results107, go_sem, hrc0, hrc1, hrc2]) rfl ?_
      exact ⟨(((B4.out.setCell (Nat.le_refl _) _).setCell (Nat.le_refl _) _).setCell (Nat.le_refl _) _), rfl⟩
    case pos =>
      subst h0
      have q1 : (((0 : Nat) : Int) != 0) = false := by simp
      rw [if_neg (by simp)]
      have hon := onN HM.out nm
      by_cases hin : nm ∈ ks
      case pos =>
        rw [if_pos hin]
        rw [decide_eq_true hin] at hon
        go_enter Tryz.func107, Tryz.ntmps107
        go_wp2_with fail
        have m1 := Lib.hid (HM.out.below (below_new w (.cells #[.string ByteArray.empty, .bool false, .slice none 0 0] 139))); clear HM
        have B1 := Lib.hid (below_new w (.cells #[.string ByteArray.empty, .bool false, .slice none 0 0] 139))
        have z1 := Lib.hid (blk_new w (.cells #[.string ByteArray.empty, .bool false, .slice none 0 0] 139))
        refine (HI.out _).mono ?_; rintro e w2 ⟨rfl, b⟩
        have b' : Below (w.alloc (.cells #[.string ByteArray.empty, .bool false, .slice none 0 0] 139)).heap.size (w.alloc (.cells #[.string ByteArray.empty, .bool false, .slice none 0 0] 139)) w2 := Below.tr (by first | exact Below.refl _ _ | exact below_new _ _) b
        clear b
        have m2 := Lib.hid (m1.out.below b'); clear m1
        have z2 := Lib.hid (blk_below b' z1.out); clear z1
        have B2 := Lib.hid (B1.out.tr b'); clear B1
        clear b'
        go_wp2_with fail
        refine Flow.wp_region_segs Flow.Later Flow.Later.refl Flow.Later.trans [] [0, 1, 2, 3, 4, 5, 6, 7, 8] (by kernel_rfl) (by kernel_rfl) ?_
        have b' : Below w2.heap.size w2 (World.drew w2) := (Below.refl _ _).drew
        have m3 := Lib.hid (m2.out.below b'); clear m2
        have z3 := Lib.hid (blk_below b' z2.out); clear z2
        have B3 := Lib.hid (B2.out.tr b'); clear B2
        clear b'
        generalize World.drew _ = w3 at *
        haveI nonE := Flow.cls_nonempty w3
        rw [Flow.wpSegs_nil]
        simp only [Flow.pick, List.getElem?_toArray, List.getElem?_cons_succ, List.getElem?_cons_zero]
        repeat go_big_quiet_step (fail)
        refine wpQuiet_nil ?_
        clear nonE 
        go_wp2_with fail
        refine (HCk.out _ (HEv.out _ (B3.out.tr (by first | exact Below.refl _ _ | exact below_new _ _)))).mono ?_; rintro e w4 ⟨rfl, b⟩
        have b' : Below w3.heap.size w3 w4 := Below.tr (by first | exact Below.refl _ _ | exact below_new _ _) b
        clear b
        have m4 := Lib.hid (m3.out.below b'); clear m3
        have z4 := Lib.hid (blk_below b' z3.out); clear z3
        have B4 := Lib.hid (B3.out.tr b'); clear B3
        clear b'
        have hrc0 := blk_cell z4.out 0
        have hrf0 := blk_free z4.out 0
        have hrc1 := blk_cell z4.out 1
        have hrf1 := blk_free z4.out 1
        have hrc2 := blk_cell z4.out 2
        have hrf2 := blk_free z4.out 2
        go_wp2_with (at_lookup; refine wpList_lookup_b _ rfl _ _ 151 rfl 9 4 (string_keyed Tryz.underlying9) Tryz.underlying151 Tryz.underlying4 (zeroB _) b _ rfl (m4.out : MapN _ b ks) _ _ rfl HKey.out ?_)
        refine bodyPost_ret (v := .tuple #[.agg #[.string ⟨#[]⟩, .bool false, .slice none 0 0], i64 7]) (by simp [results, Tryz.results107, go_sem, hrc0, hrc1, hrc2]) rfl ?_
        exact ⟨(((B4.out.setCell (Nat.le_refl _) _).setCell (Nat.le_refl _) _).setCell (Nat.le_refl _) _), rfl⟩
      case neg =>
        rw [if_neg hin]
        rw [decide_eq_false hin] at hon
        have hrl : rest.length ≤ 100000 := by rw [hlen] at hl; omega
        have hci : (⟨(nm ++ c :: rest).toArray⟩ : ByteArray).size = nm.length + (rest.length + 1) := by show (nm ++ c :: rest).toArray.size = _; simp
        have bg : ∀ h : nm.length < (⟨(nm ++ c :: rest).toArray⟩ : ByteArray).size, (⟨(nm ++ c :: rest).toArray⟩ : ByteArray)[nm.length]'h = c := fun h => by rw [bget h (by simp)]; simp [List.getD]
        obtain ⟨bv, hv0, hv1, hv2⟩ : ∃ bv, (c == 58) = bv ∧ ((c.toNat : Int) == 58) = bv ∧ (c.toNat == 58) = bv := by
          refine ⟨_, rfl, ?_, ?_⟩
          · by_cases e : c = 58
            · subst e; rfl
            · rw [beq_eq_false_iff_ne.2 e]
              exact beq_eq_false_iff_ne.2 (fun h => e (UInt8.toNat_inj.1 (by simpa using (by omega : c.toNat = 58))))
          · by_cases e : c = 58
            · subst e; rfl
            · rw [beq_eq_false_iff_ne.2 e]
              exact beq_eq_false_iff_ne.2 (fun h => e (UInt8.toNat_inj.1 (by simpa using h)))
        rw [hv0]
        have hb1 : (nm.length : Int) < (nm.length : Int) + ((rest.length : Int) + 1) := by omega
        clear hv0
        cases rest with
        | nil =>
          rw [if_pos rfl]
          go_enter Tryz.func107, Tryz.ntmps107
          go_wp2_with fail
          have m1 := Lib.hid (HM.out.below (below_new w (.cells #[.string ByteArray.empty, .bool false, .slice none 0 0] 139))); clear HM
          have B1 := Lib.hid (below_new w (.cells #[.string ByteArray.empty, .bool false, .slice none 0 0] 139))
          have z1 := Lib.hid (blk_new w (.cells #[.string ByteArray.empty, .bool false, .slice none 0 0] 139))
          refine (HI.out _).mono ?_; rintro e w2 ⟨rfl, b⟩
          have b' : Below (w.alloc (.cells #[.string ByteArray.empty, .bool false, .slice none 0 0] 139)).heap.size (w.alloc (.cells #[.string ByteArray.empty, .bool false, .slice none 0 0] 139)) w2 := Below.tr (by first | exact Below.refl _ _ | exact below_new _ _) b
          clear b
          have m2 := Lib.hid (m1.out.below b'); clear m1
          have z2 := Lib.hid (blk_below b' z1.out); clear z1
          have B2 := Lib.hid (B1.out.tr b'); clear B1
          clear b'
          go_wp2_with fail
          refine Flow.wp_region_segs Flow.Later Flow.Later.refl Flow.Later.trans [] [0, 1, 2, 3, 4, 5, 6, 7, 8] (by kernel_rfl) (by kernel_rfl) ?_
          have b' : Below w2.heap.size w2 (World.drew w2) := (Below.refl _ _).drew
          have m3 := Lib.hid (m2.out.below b'); clear m2
          have z3 := Lib.hid (blk_below b' z2.out); clear z2
          have B3 := Lib.hid (B2.out.tr b'); clear B2
          clear b'
          generalize World.drew _ = w3 at *
          haveI nonE := Flow.cls_nonempty w3
          rw [Flow.wpSegs_nil]
          simp only [Flow.pick, List.getElem?_toArray, List.getElem?_cons_succ, List.getElem?_cons_zero]
          repeat go_big_quiet_step (fail)
          refine wpQuiet_nil ?_
          clear nonE 
          go_wp2_with fail
          refine (HCk.out _ (HEv.out _ (B3.out.tr (by first | exact Below.refl _ _ | exact below_new _ _)))).mono ?_; rintro e w4 ⟨rfl, b⟩
          have b' : Below w3.heap.size w3 w4 := Below.tr (by first | exact Below.refl _ _ | exact below_new _ _) b
          clear b
          have m4 := Lib.hid (m3.out.below b'); clear m3
          have z4 := Lib.hid (blk_below b' z3.out); clear z3
          have B4 := Lib.hid (B3.out.tr b'); clear B3
          clear b'
          have hzl := blk_lt z4.out
          go_wp2_with (at_lookup; refine wpList_lookup_b _ rfl _ _ 151 rfl 9 4 (string_keyed Tryz.underlying9) Tryz.underlying151 Tryz.underlying4 (zeroB _) b _ rfl (m4.out : MapN _ b ks) _ _ rfl HKey.out ?_)
          refine Flow.wp_region_segs (ButG w.heap.size) (ButG.refl _) ButG.trans [([0, 1, 2, 3, 4, 5, 6], 7)] [8] (by kernel_rfl) (by kernel_rfl) ?_
          have Z9 : Hid ((World.drew (w4.alloc (.cells #[.slice none 0 0] 26))).heap[w.heap.size]? = some (.cells #[.string ByteArray.empty, .bool false, .slice none 0 0] 139 (0, 0))) := blk_below (below_new _ _).drew z4.out
          have C9 := Lib.hid (show (World.drew (w4.alloc (.cells #[.slice none 0 0] 26))).cell? ⟨w4.heap.size, 0, none⟩ = some (.slice none 0 0) from blk_cell (blk_new w4 _) 0)
          have B9 : Hid (Below w.heap.size w (World.drew (w4.alloc (.cells #[.slice none 0 0] 26)))) := (B4.out.tr (below_new _ _)).drew
          have S9 : Hid (SetOk (World.drew (w4.alloc (.cells #[.slice none 0 0] 26))) none 0 []) := SetOk.below (SetOk.nil _) (Below.refl _ _).drew
          generalize World.drew _ = wd at *
          have q9 : ∀ t : Flow.Cls (ButG w.heap.size wd), t.val.cell? _ = some (.slice none 0 0) := fun t => t.ok.cell (by omega) C9.out
          haveI nonE : Nonempty (Flow.Cls (ButG w.heap.size wd)) := ⟨⟨wd, ButG.refl _ _⟩⟩
          rw [Flow.wpSegs_cons]
          simp only [Flow.pick, List.getElem?_toArray, List.getElem?_cons_succ, List.getElem?_cons_zero]
          repeat go_big_quiet_step (fail)
          refine wpQuiet_nil ?_
          clear nonE q9
          rw [Flow.callAt_eq]
          simp only [List.getElem?_toArray, List.getElem?_cons_succ, List.getElem?_cons_zero]
          rw [if_pos (by rfl)]
          refine Flow.wp_behind (fun K hK => ?_)
          have hrc0 := blk_cell Z9.out 0
          have hrf0 := blk_free Z9.out 0
          have hrc1 := blk_cell Z9.out 1
          have hrf1 := blk_free Z9.out 1
          have hrc2 := blk_cell Z9.out 2
          have hrf2 := blk_free Z9.out 2
          go_wp2_with fail
          refine hK.out _ _ ⟨ButG.set3 _ _ _ _ _, ?_⟩
          clear hK K
          rw [Flow.wpSegs_nil]
          simp only [Flow.pick, List.getElem?_toArray, List.getElem?_cons_succ, List.getElem?_cons_zero]
          haveI nonE := (⟨⟨_, ButG.refl _ _⟩⟩ : Nonempty (Flow.Cls (ButG w.heap.size (((wd.setCell ⟨w.heap.size, 0, none⟩ (enS nm)).setCell ⟨w.heap.size, 1, none⟩ (.bool bv)).setCell ⟨w.heap.size, 2, none⟩ (.slice none 0 0)))))
          repeat go_big_quiet_step (fail)
          refine wpQuiet_nil ?_
          clear nonE
          go_wp2_with fail
          refine bodyPost_ret (v := .tuple #[.agg #[enS nm, .bool bv, .slice none 0 0], i64 0]) (by simp [results, Tryz.results107, go_sem, hrc0, hrc1, hrc2]) rfl ?_
          exact ⟨((B9.out.setCell (Nat.le_refl _) _).setCell (Nat.le_refl _) _).setCell (Nat.le_refl _) _, none, 0, rfl, S9.out.set3 ⟨_, _, Z9.out⟩ (by decide)⟩
        | cons d t =>
          rw [if_neg (by simp)]
          have bg0 : ∀ h : 0 < (⟨(d :: t).toArray⟩ : ByteArray).size, (⟨(d :: t).toArray⟩ : ByteArray)[0]'h = d := fun h => by rw [bget h (by simp)]; simp [List.getD]
          have hd0 : (⟨(d :: t).toArray⟩ : ByteArray).size = t.length + 1 := by show (d :: t).toArray.size = _; simp
          simp only [List.length_cons] at hx2 hlen hci hrl
          have hb2 : (nm.length : Int) < (nm.length : Int) + ((t.length : Int) + 1 + 1) := by omega
          clear hb1
          by_cases hd : d = 32
          case neg =>
            rw [if_pos (by left; simpa using hd)]
            have e1 : ((d.toNat : Int) != 32) = true := by
              simp; intro e; exact hd (UInt8.toNat_inj.1 (by simpa using (by omega : d.toNat = 32)))
            have e2 : (d.toNat != 32) = true := by
              simp; intro e; exact hd (UInt8.toNat_inj.1 (by simpa using e))
            go_enter Tryz.func107, Tryz.ntmps107
            go_wp2_with fail
            have m1 := Lib.hid (HM.out.below (below_new w (.cells #[.string ByteArray.empty, .bool false, .slice none 0 0] 139))); clear HM
            have B1 := Lib.hid (below_new w (.cells #[.string ByteArray.empty, .bool false, .slice none 0 0] 139))
            have z1 := Lib.hid (blk_new w (.cells #[.string ByteArray.empty, .bool false, .slice none 0 0] 139))
            refine (HI.out _).mono ?_; rintro e w2 ⟨rfl, b⟩
            have b' : Below (w.alloc (.cells #[.string ByteArray.empty, .bool false, .slice none 0 0] 139)).heap.size (w.alloc (.cells #[.string ByteArray.empty, .bool false, .slice none 0 0] 139)) w2 := Below.tr (by first | exact Below.refl _ _ | exact below_new _ _) b
            clear b
            have m2 := Lib.hid (m1.out.below b'); clear m1
            have z2 := Lib.hid (blk_below b' z1.out); clear z1
            have B2 := Lib.hid (B1.out.tr b'); clear B1
            clear b'
            go_wp2_with fail
            refine Flow.wp_region_segs Flow.Later Flow.Later.refl Flow.Later.trans [] [0, 1, 2, 3, 4, 5, 6, 7, 8] (by kernel_rfl) (by kernel_rfl) ?_
            have b' : Below w2.heap.size w2 (World.drew w2) := (Below.refl _ _).drew
            have m3 := Lib.hid (m2.out.below b'); clear m2
            have z3 := Lib.hid (blk_below b' z2.out); clear z2
            have B3 := Lib.hid (B2.out.tr b'); clear B2
            clear b'
            generalize World.drew _ = w3 at *
            haveI nonE := Flow.cls_nonempty w3
            rw [Flow.wpSegs_nil]
            simp only [Flow.pick, List.getElem?_toArray, List.getElem?_cons_succ, List.getElem?_cons_zero]
            repeat go_big_quiet_step (fail)
            refine wpQuiet_nil ?_
            clear nonE 
            go_wp2_with fail
            refine (HCk.out _ (HEv.out _ (B3.out.tr (by first | exact Below.refl _ _ | exact below_new _ _)))).mono ?_; rintro e w4 ⟨rfl, b⟩
            have b' : Below w3.heap.size w3 w4 := Below.tr (by first | exact Below.refl _ _ | exact below_new _ _) b
            clear b
            have m4 := Lib.hid (m3.out.below b'); clear m3
            have z4 := Lib.hid (blk_below b' z3.out); clear z3
            have B4 := Lib.hid (B3.out.tr b'); clear B3
            clear b'
            have hrc0 := blk_cell z4.out 0
            have hrf0 := blk_free z4.out 0
            have hrc1 := blk_cell z4.out 1
            have hrf1 := blk_free z4.out 1
            have hrc2 := blk_cell z4.out 2
            have hrf2 := blk_free z4.out 2
            go_wp2_with (at_lookup; refine wpList_lookup_b _ rfl _ _ 151 rfl 9 4 (string_keyed Tryz.underlying9) Tryz.underlying151 Tryz.underlying4 (zeroB _) b _ rfl (m4.out : MapN _ b ks) _ _ rfl HKey.out ?_)
            refine bodyPost_ret (v := .tuple #[.agg #[.string ⟨#[]⟩, .bool false, .slice none 0 0], i64 3]) (by simp [results, Tryz.results107, go_sem, hrc0, hrc1, hrc2]) rfl ?_
            exact ⟨(((B4.out.setCell (Nat.le_refl _) _).setCell (Nat.le_refl _) _).setCell (Nat.le_refl _) _), rfl⟩
          case pos =>
            subst hd
            have e1 : (((32 : UInt8).toNat : Int) != 32) = false := by decide
            have e2 : ((32 : UInt8).toNat != 32) = false := by decide
            cases t with
            | nil =>
              rw [if_pos (by right; rfl)]
              simp only [List.length_nil, Nat.zero_add] at hx2 hlen hci hrl hd0
              go_enter Tryz.func107, Tryz.ntmps107
              go_wp2_with fail
              have m1 := Lib.hid (HM.out.below (below_new w (.cells #[.string ByteArray.empty, .bool false, .slice none 0 0] 139))); clear HM
              have B1 := Lib.hid (below_new w (.cells #[.string ByteArray.empty, .bool false, .slice none 0 0] 139))
              have z1 := Lib.hid (blk_new w (.cells #[.string ByteArray.empty, .bool false, .slice none 0 0] 139))
              refine (HI.out _).mono ?_; rintro e w2 ⟨rfl, b⟩
              have b' : Below (w.alloc (.cells #[.string ByteArray.empty, .bool false, .slice none 0 0] 139)).heap.size (w.alloc (.cells #[.string ByteArray.empty, .bool false, .slice none 0 0] 139)) w2 := Below.tr (by first | exact Below.refl _ _ | exact below_new _ _) b
              clear b
              have m2 := Lib.hid (m1.out.below b'); clear m1
              have z2 := Lib.hid (blk_below b' z1.out); clear z1
              have B2 := Lib.hid (B1.out.tr b'); clear B1
              clear b'
              go_wp2_with fail
              refine Flow.wp_region_segs Flow.Later Flow.Later.refl Flow.Later.trans [] [0, 1, 2, 3, 4, 5, 6, 7, 8] (by kernel_rfl) (by kernel_rfl) ?_
              have b' : Below w2.heap.size w2 (World.drew w2) := (Below.refl _ _).drew
              have m3 := Lib.hid (m2.out.below b'); clear m2
              have z3 := Lib.hid (blk_below b' z2.out); clear z2
              have B3 := Lib.hid (B2.out.tr b'); clear B2
              clear b'
              generalize World.drew _ = w3 at *
              haveI nonE := Flow.cls_nonempty w3
              rw [Flow.wpSegs_nil]
              simp only [Flow.pick, List.getElem?_toArray, List.getElem?_cons_succ, List.getElem?_cons_zero]
              repeat go_big_quiet_step (fail)
              refine wpQuiet_nil ?_
              clear nonE 
              go_wp2_with fail
              refine (HCk.out _ (HEv.out _ (B3.out.tr (by first | exact Below.refl _ _ | exact below_new _ _)))).mono ?_; rintro e w4 ⟨rfl, b⟩
              have b' : Below w3.heap.size w3 w4 := Below.tr (by first | exact Below.refl _ _ | exact below_new _ _) b
              clear b
              have m4 := Lib.hid (m3.out.below b'); clear m3
              have z4 := Lib.hid (blk_below b' z3.out); clear z3
              have B4 := Lib.hid (B3.out.tr b'); clear B3
              clear b'
              have hrc0 := blk_cell z4.out 0
              have hrf0 := blk_free z4.out 0
              have hrc1 := blk_cell z4.out 1
              have hrf1 := blk_free z4.out 1
              have hrc2 := blk_cell z4.out 2
              have hrf2 := blk_free z4.out 2
              go_wp2_with (at_lookup; refine wpList_lookup_b _ rfl _ _ 151 rfl 9 4 (string_keyed Tryz.underlying9) Tryz.underlying151 Tryz.underlying4 (zeroB _) b _ rfl (m4.out : MapN _ b ks) _ _ rfl HKey.out ?_)
              refine bodyPost_ret (v := .tuple #[.agg #[.string ⟨#[]⟩, .bool false, .slice none 0 0], i64 3]) (by simp [results, Tryz.results107, go_sem, hrc0, hrc1, hrc2]) rfl ?_
              exact ⟨(((B4.out.setCell (Nat.le_refl _) _).setCell (Nat.le_refl _) _).setCell (Nat.le_refl _) _), rfl⟩
            | cons d2 t2 =>
              rw [if_neg (by simp)]
              simp only [List.drop_succ_cons, List.drop_zero]
              simp only [List.length_cons] at hx2 hlen hci hrl hd0
              have hb4 : (nm.length : Int) < (nm.length : Int) + ((t2.length : Int) + 1 + 1 + 1) := by omega
              have hx3 : (⟨((32 : UInt8) :: d2 :: t2).toArray⟩ : ByteArray).extract 1 (t2.length + 1 + 1) = ⟨(d2 :: t2).toArray⟩ := by
                have := ext_drop (32 :: d2 :: t2) 1
                simpa using this
              have hpl := parts_length_le 44 (d2 :: t2)
              have HPs := Lib.hid (fun W (h : Env W) => parseSet_any (d2 :: t2) W h (by simp only [List.length_cons] at hrl ⊢; omega) (hp _ hpl (by rw [hlen]; simp only [List.length_cons]; omega)))
              have hb3 : ¬ ((t2.length : Int) + 1 + 1 < 2) := by omega
              cases hps : pset (d2 :: t2) with
              | inr er =>
                obtain ⟨at_, er⟩ := er
                obtain ⟨p1, p2, p3⟩ := ps_inr hps
                have her := pset_err hps
                rw [p1, p2, p3] at HPs
                simp only
                have q2 : ((er : Int) != 0) = true := by simp; omega
                go_enter Tryz.func107, Tryz.ntmps107
                go_wp2_with fail
                have m1 := Lib.hid (HM.out.below (below_new w (.cells #[.string ByteArray.empty, .bool false, .slice none 0 0] 139))); clear HM
                have B1 := Lib.hid (below_new w (.cells #[.string ByteArray.empty, .bool false, .slice none 0 0] 139))
                have z1 := Lib.hid (blk_new w (.cells #[.string ByteArray.empty, .bool false, .slice none 0 0] 139))
                refine (HI.out _).mono ?_; rintro e w2 ⟨rfl, b⟩
                have b' : Below (w.alloc (.cells #[.string ByteArray.empty, .bool false, .slice none 0 0] 139)).heap.size (w.alloc (.cells #[.string ByteArray.empty, .bool false, .slice none 0 0] 139)) w2 := Below.tr (by first | exact Below.refl _ _ | exact below_new _ _) b
                clear b
                have m2 := Lib.hid (m1.out.below b'); clear m1
                have z2 := Lib.hid (blk_below b' z1.out); clear z1
                have B2 := Lib.hid (B1.out.tr b'); clear B1
                clear b'
                go_wp2_with fail
                refine Flow.wp_region_segs Flow.Later Flow.Later.refl Flow.Later.trans [] [0, 1, 2, 3, 4, 5, 6, 7, 8] (by kernel_rfl) (by kernel_rfl) ?_
                have b' : Below w2.heap.size w2 (World.drew w2) := (Below.refl _ _).drew
                have m3 := Lib.hid (m2.out.below b'); clear m2
                have z3 := Lib.hid (blk_below b' z2.out); clear z2
                have B3 := Lib.hid (B2.out.tr b'); clear B2
                clear b'
                generalize World.drew _ = w3 at *
                haveI nonE := Flow.cls_nonempty w3
                rw [Flow.wpSegs_nil]
                simp only [Flow.pick, List.getElem?_toArray, List.getElem?_cons_succ, List.getElem?_cons_zero]
                repeat go_big_quiet_step (fail)
                refine wpQuiet_nil ?_
                clear nonE 
                go_wp2_with fail
                refine (HCk.out _ (HEv.out _ (B3.out.tr (by first | exact Below.refl _ _ | exact below_new _ _)))).mono ?_; rintro e w4 ⟨rfl, b⟩
                have b' : Below w3.heap.size w3 w4 := Below.tr (by first | exact Below.refl _ _ | exact below_new _ _) b
                clear b
                have m4 := Lib.hid (m3.out.below b'); clear m3
                have z4 := Lib.hid (blk_below b' z3.out); clear z3
                have B4 := Lib.hid (B3.out.tr b'); clear B3
                clear b'
                have hzl := blk_lt z4.out
                go_wp2_with (at_lookup; refine wpList_lookup_b _ rfl _ _ 151 rfl 9 4 (string_keyed Tryz.underlying9) Tryz.underlying151 Tryz.underlying4 (zeroB _) b _ rfl (m4.out : MapN _ b ks) _ _ rfl HKey.out ?_)
                refine (HPs.out _ (HEv.out _ (B4.out.tr (below_new _ _)))).mono ?_; rintro e wp ⟨X, x, rfl, hR, hsl, hty, b5⟩
                have hne : w4.heap.size ≠ w.heap.size := by omega
                have Z5 := Lib.hid (blk_below ((below_new _ _).tr b5) z4.out)
                have S5 := Lib.hid (blk_below b5 (blk_new w4 (.cells #[.slice none 0 0] 26)))
                have B5 := Lib.hid ((B4.out.tr (below_new _ _)).tr b5)
                have Z6 : Hid ((wp.setCell ⟨w4.heap.size, 0, none⟩ (.slice X 0 x)).heap[w.heap.size]? = some (.cells #[.string ByteArray.empty, .bool false, .slice none 0 0] 139 (0, 0))) := (blk_set_ne 0 _ (Ne.symm hne)).trans Z5.out
                have B6 : Hid (Below w.heap.size w (wp.setCell ⟨w4.heap.size, 0, none⟩ (.slice X 0 x))) := B5.out.setCell (by show _ ≤ w4.heap.size; omega) _
                have SO : Hid (SetOk wp X x []) := ⟨hR, hsl, fun a ha => (hty a ha).2⟩
                have SO6 : Hid (SetOk (wp.setCell ⟨w4.heap.size, 0, none⟩ (.slice X 0 x)) X x []) := SO.out.set ⟨_, _, S5.out⟩ (by decide)
                have cs := blk_cell S5.out 0
                have fs := blk_free S5.out 0
                clear hR hsl hty b5
                have hrc0 := blk_cell Z6.out 0
                have hrf0 := blk_free Z6.out 0
                have hrc1 := blk_cell Z6.out 1
                have hrf1 := blk_free Z6.out 1
                have hrc2 := blk_cell Z6.out 2
                have hrf2 := blk_free Z6.out 2
                go_wp2_with fail
                refine bodyPost_ret (v := .tuple #[.agg #[.string ⟨#[]⟩, .bool false, .slice none 0 0], i64 er]) (by simp [results, Tryz.results107, go_sem, hrc0, hrc1, hrc2]) rfl ?_
                exact ⟨(((B6.out.setCell (Nat.le_refl _) _).setCell (Nat.le_refl _) _).setCell (Nat.le_refl _) _), rfl⟩
              | inl l =>
                obtain ⟨p1, p2, p3⟩ := ps_inl hps
                rw [p1, p2, p3] at HPs
                simp only
                go_enter Tryz.func107, Tryz.ntmps107
                go_wp2_with fail
                have m1 := Lib.hid (HM.out.below (below_new w (.cells #[.string ByteArray.empty, .bool false, .slice none 0 0] 139))); clear HM
                have B1 := Lib.hid (below_new w (.cells #[.string ByteArray.empty, .bool false, .slice none 0 0] 139))
                have z1 := Lib.hid (blk_new w (.cells #[.string ByteArray.empty, .bool false, .slice none 0 0] 139))
                refine (HI.out _).mono ?_; rintro e w2 ⟨rfl, b⟩
                have b' : Below (w.alloc (.cells #[.string ByteArray.empty, .bool false, .slice none 0 0] 139)).heap.size (w.alloc (.cells #[.string ByteArray.empty, .bool false, .slice none 0 0] 139)) w2 := Below.tr (by first | exact Below.refl _ _ | exact below_new _ _) b
                clear b
                have m2 := Lib.hid (m1.out.below b'); clear m1
                have z2 := Lib.hid (blk_below b' z1.out); clear z1
                have B2 := Lib.hid (B1.out.tr b'); clear B1
                clear b'
                go_wp2_with fail
                refine Flow.wp_region_segs Flow.Later Flow.Later.refl Flow.Later.trans [] [0, 1, 2, 3, 4, 5, 6, 7, 8] (by kernel_rfl) (by kernel_rfl) ?_
                have b' : Below w2.heap.size w2 (World.drew w2) := (Below.refl _ _).drew
                have m3 := Lib.hid (m2.out.below b'); clear m2
                have z3 := Lib.hid (blk_below b' z2.out); clear z2
                have B3 := Lib.hid (B2.out.tr b'); clear B2
                clear b'
                generalize World.drew _ = w3 at *
                haveI nonE := Flow.cls_nonempty w3
                rw [Flow.wpSegs_nil]
                simp only [Flow.pick, List.getElem?_toArray, List.getElem?_cons_succ, List.getElem?_cons_zero]
                repeat go_big_quiet_step (fail)
                refine wpQuiet_nil ?_
                clear nonE 
                go_wp2_with fail
                refine (HCk.out _ (HEv.out _ (B3.out.tr (by first | exact Below.refl _ _ | exact below_new _ _)))).mono ?_; rintro e w4 ⟨rfl, b⟩
                have b' : Below w3.heap.size w3 w4 := Below.tr (by first | exact Below.refl _ _ | exact below_new _ _) b
                clear b
                have m4 := Lib.hid (m3.out.below b'); clear m3
                have z4 := Lib.hid (blk_below b' z3.out); clear z3
                have B4 := Lib.hid (B3.out.tr b'); clear B3
                clear b'
                have hzl := blk_lt z4.out
                go_wp2_with (at_lookup; refine wpList_lookup_b _ rfl _ _ 151 rfl 9 4 (string_keyed Tryz.underlying9) Tryz.underlying151 Tryz.underlying4 (zeroB _) b _ rfl (m4.out : MapN _ b ks) _ _ rfl HKey.out ?_)
                refine (HPs.out _ (HEv.out _ (B4.out.tr (below_new _ _)))).mono ?_; rintro e wp ⟨X, x, rfl, hR, hsl, hty, b5⟩
                have hne : w4.heap.size ≠ w.heap.size := by omega
                have Z5 := Lib.hid (blk_below ((below_new _ _).tr b5) z4.out)
                have S5 := Lib.hid (blk_below b5 (blk_new w4 (.cells #[.slice none 0 0] 26)))
                have B5 := Lib.hid ((B4.out.tr (below_new _ _)).tr b5)
                have Z6 : Hid ((wp.setCell ⟨w4.heap.size, 0, none⟩ (.slice X l.length x)).heap[w.heap.size]? = some (.cells #[.string ByteArray.empty, .bool false, .slice none 0 0] 139 (0, 0))) := (blk_set_ne 0 _ (Ne.symm hne)).trans Z5.out
                have B6 : Hid (Below w.heap.size w (wp.setCell ⟨w4.heap.size, 0, none⟩ (.slice X l.length x))) := B5.out.setCell (by show _ ≤ w4.heap.size; omega) _
                have SO : Hid (SetOk wp X x l) := ⟨hR, hsl, fun a ha => (hty a ha).2⟩
                have SO6 : Hid (SetOk (wp.setCell ⟨w4.heap.size, 0, none⟩ (.slice X l.length x)) X x l) := SO.out.set ⟨_, _, S5.out⟩ (by decide)
                have cs := blk_cell S5.out 0
                have fs := blk_free S5.out 0
                clear hR hsl hty b5
                go_wp2_with fail
                refine Flow.wp_region_segs (ButG w.heap.size) (ButG.refl _) ButG.trans [([0, 1, 2, 3, 4, 5, 6], 7)] [8] (by kernel_rfl) (by kernel_rfl) ?_
                have Z9 : Hid ((World.drew (wp.setCell ⟨w4.heap.size, 0, none⟩ (.slice X l.length x))).heap[w.heap.size]? = some (.cells #[.string ByteArray.empty, .bool false, .slice none 0 0] 139 (0, 0))) := Z6.out
                have C9 := Lib.hid (show (World.drew (wp.setCell ⟨w4.heap.size, 0, none⟩ (.slice X l.length x))).cell? ⟨w4.heap.size, 0, none⟩ = some (.slice X l.length x) from World.cell?_setCell_same' wp ⟨w4.heap.size, 0, none⟩ _ (by rw [cs]; rfl))
                have B9 : Hid (Below w.heap.size w (World.drew (wp.setCell ⟨w4.heap.size, 0, none⟩ (.slice X l.length x)))) := B6.out.drew
                have S9 : Hid (SetOk (World.drew (wp.setCell ⟨w4.heap.size, 0, none⟩ (.slice X l.length x))) X x l) := SetOk.below SO6.out (Below.refl _ _).drew
                generalize World.drew _ = wd at *
                have q9 : ∀ t : Flow.Cls (ButG w.heap.size wd), t.val.cell? _ = some (.slice X l.length x) := fun t => t.ok.cell hne C9.out
                haveI nonE : Nonempty (Flow.Cls (ButG w.heap.size wd)) := ⟨⟨wd, ButG.refl _ _⟩⟩
                rw [Flow.wpSegs_cons]
                simp only [Flow.pick, List.getElem?_toArray, List.getElem?_cons_succ, List.getElem?_cons_zero]
                repeat go_big_quiet_step (fail)
                refine wpQuiet_nil ?_
                clear nonE q9
                rw [Flow.callAt_eq]
                simp only [List.getElem?_toArray, List.getElem?_cons_succ, List.getElem?_cons_zero]
                rw [if_pos (by rfl)]
                refine Flow.wp_behind (fun K hK => ?_)
                have hrc0 := blk_cell Z9.out 0
                have hrf0 := blk_free Z9.out 0
                have hrc1 := blk_cell Z9.out 1
                have hrf1 := blk_free Z9.out 1
                have hrc2 := blk_cell Z9.out 2
                have hrf2 := blk_free Z9.out 2
                go_wp2_with fail
                refine hK.out _ _ ⟨ButG.set3 _ _ _ _ _, ?_⟩
                clear hK K
                rw [Flow.wpSegs_nil]
                simp only [Flow.pick, List.getElem?_toArray, List.getElem?_cons_succ, List.getElem?_cons_zero]
                haveI nonE := (⟨⟨_, ButG.refl _ _⟩⟩ : Nonempty (Flow.Cls (ButG w.heap.size (((wd.setCell ⟨w.heap.size, 0, none⟩ (enS nm)).setCell ⟨w.heap.size, 1, none⟩ (.bool bv)).setCell ⟨w.heap.size, 2, none⟩ (.slice X l.length x)))))
                repeat go_big_quiet_step (fail)
                refine wpQuiet_nil ?_
                clear nonE
                go_wp2_with fail
                refine bodyPost_ret (v := .tuple #[.agg #[enS nm, .bool bv, .slice X l.length x], i64 0]) (by simp [results, Tryz.results107, go_sem, hrc0, hrc1, hrc2]) rfl ?_
                exact ⟨((B9.out.setCell (Nat.le_refl _) _).setCell (Nat.le_refl _) _).setCell (Nat.le_refl _) _, X, x, rfl, S9.out.set3 ⟨_, _, Z9.out⟩ (by decide)⟩
end Go.Proofs.YtcpennlojjlpaaaGreatDoor
