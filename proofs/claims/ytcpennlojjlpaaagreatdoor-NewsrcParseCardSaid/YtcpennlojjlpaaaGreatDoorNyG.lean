/- Contract: the package's Parse. -/
import Derived.Test.YtcpennlojjlpaaaGreatDoorNyF
import Derived.Test.YtcpennlojjlpaaaGreatDoorZj
import Derived.Test.YtcpennlojjlpaaaGreatDoorTail
namespace Go.Nr
open Go.Gn
theorem pmark_err {seen : List (List UInt8)} {l : List UInt8} {e : Nat} (h : pmark seen l = .inr e) : e ≠ 0 := by
  unfold pmark at h
  split at h
  · injection h with h; omega
  · split at h
    · injection h with h; omega
    · split at h
      · injection h with h; omega
      · split at h
        · cases h
        · split at h
          · injection h with h; omega
          · split at h
            · cases h
            · rename_i e' hp
              injection h with h
              rw [← h]
              exact pset_err (a := e'.1) hp
theorem cut_nl (s : List UInt8) : Lib.cut s [10] = match s.dropWhile nl with | [] => (s, [], false) | _ :: t => (s.takeWhile nl, t, true) := cut_byte 10 s
theorem parts_nl {t rest : List UInt8} (h : ∀ x ∈ t, nl x = true) : parts 10 (t ++ 10 :: rest) = t :: parts 10 rest :=
  parts_app 10 rest t fun h10 => by have := h 10 h10; simp [nl] at this
end Go.Nr
namespace Go.Proofs.YtcpennlojjlpaaaGreatDoor
open Go.RowKit Go.Nr Go.Gn Go.Maps

theorem cutnl_none (s : List UInt8) (h : s.dropWhile nl = []) (w : World) (hE : Env w) (hl : s.length ≤ 1000000000) :
    Calls Tryz.prog 106 #[enS s, .string ⟨#[10]⟩] w fun e w' => e = .returned (.tuple #[enS s, enS [], .bool false]) ∧ Below w.heap.size w w' := by
  obtain ⟨m, hm⟩ := hE
  have hc := Tryz.strings_Cut ⟨s.toArray⟩ ⟨#[10]⟩ m w (by show s.toArray.size < _; simp; omega) hm
  have e : Lib.cut (⟨s.toArray⟩ : ByteArray).data.toList (⟨#[10]⟩ : ByteArray).data.toList = (s, [], false) := by
    have e1 : (⟨s.toArray⟩ : ByteArray).data.toList = s := by simp
    rw [e1]
    have := cut_nl s
    rw [h] at this; exact this
  rw [e] at hc
  exact hc.mono fun _ _ ⟨h1, n, h2⟩ => ⟨h1, by rw [h2]; exact (Below.refl _ _).drewN n⟩
theorem cutnl_some (t rest : List UInt8) (h : ∀ x ∈ t, nl x = true) (w : World) (hE : Env w) (hl : (t ++ 10 :: rest).length ≤ 1000000000) :
    Calls Tryz.prog 106 #[enS (t ++ 10 :: rest), .string ⟨#[10]⟩] w fun e w' => e = .returned (.tuple #[enS t, enS rest, .bool true]) ∧ Below w.heap.size w w' := by
  obtain ⟨m, hm⟩ := hE
  have hc := Tryz.strings_Cut ⟨(t ++ 10 :: rest).toArray⟩ ⟨#[10]⟩ m w (by show (t ++ 10 :: rest).toArray.size < _; rw [List.size_toArray]; omega) hm
  have e : Lib.cut (⟨(t ++ 10 :: rest).toArray⟩ : ByteArray).data.toList (⟨#[10]⟩ : ByteArray).data.toList = (t, rest, true) := by
    have e1 : (⟨(t ++ 10 :: rest).toArray⟩ : ByteArray).data.toList = t ++ 10 :: rest := by simp
    rw [e1]
    have := cut_nl (t ++ 10 :: rest)
    obtain ⟨a, b⟩ := cut_at (p := nl) (b := rest) h (c := 10) rfl
    rw [a, b] at this; exact this
  rw [e] at hc
  exact hc.mono fun _ _ ⟨h1, n, h2⟩ => ⟨h1, by rw [h2]; exact (Below.refl _ _).drewN n⟩
/-- An append carried out, and where its row lies. -/
theorem wp_append_far {P : Program} (w : World) {o : Oper} {a : Act} {K : Act → World → Prop} {Q : Exit → Act → World → Prop} (s x : Operand) (t : TypeId)
    (ho : o.op = .call { callee := .builtin .append, args := #[s, x], argTypes := #[t, t] })
    (e : TypeId) (i : TypeInfo) (z : Value) (size bytes : Nat) (ht : P.underlying t = some (.slice e)) (hi : P.info? e = some i) (hz : i.zero = some z)
    (hsize : i.size = size) (hby : i.bytes = bytes) (hzs : z.cells.size = size) (hsz : 0 < size)
    (v : Value) (n : Nat) (xs : List Value) (hs : a.eval s = v) (hown : w.ownsRow 0 e size v n xs)
    (ad : Addr) (m c : Nat) (news : List Value) (hx : a.eval x = .slice (some ad) m c) (hl : news.length = m * size) (hnews : ∀ j u, news[j]? = some u → w.cell? (ad.add j) = some u) (h1 : ∀ u ∈ news, u.oneCell' = true)
    (h63 : n + m ≤ maxLen) (hbytes : (n + m) * bytes ≤ 140737488355328)
    (h : ∀ v' w', w'.ownsRow 0 e size v' (n + m) (xs ++ news) → w.grownBy w' v.ownBlock → (v'.ownBlock = v.ownBlock ∨ ∃ g, v'.ownBlock = some g ∧ w.heap.size ≤ g) → K (a.put o.dst v') w') : o.wp P a w K Q := by
  obtain ⟨v', w', hr, h2, h3, h4⟩ := run_append_far (P := P) w t o.type e i z size bytes ht hi hz hsize hby hzs hsz v n xs hown ad m c news hl hnews h1 h63 hbytes
  unfold Oper.wp execOp
  simp only [ho, resolve, invoke, builtin, Sem.run_bind, Sem.run_pure, Result.andThen_ok, List.map_toArray, List.map_cons, List.map_nil, hs, hx, hr]
  exact h v' w' h2 h3 h4
/-- All old blocks but the row R are as they were. -/
def ButO (R : Option Nat) (u v : World) : Prop := u.heap.size ≤ v.heap.size ∧ ∀ k, k < u.heap.size → some k ≠ R → v.heap[k]? = u.heap[k]?
theorem ButO.refl (R : Option Nat) (w : World) : ButO R w w := ⟨Nat.le_refl _, fun _ _ _ => rfl⟩
theorem ButO.trans {R : Option Nat} (u v x : World) (h : ButO R u v) (k : ButO R v x) : ButO R u x := ⟨Nat.le_trans h.1 k.1, fun i hi hg => (k.2 i (Nat.lt_of_lt_of_le hi h.1) hg).trans (h.2 i hi hg)⟩
theorem ButO.below {R : Option Nat} {u v : World} (h : Below u.heap.size u v) : ButO R u v := ⟨h.size, fun k hk _ => h.block k hk⟩
theorem ButO.grown {R : Option Nat} {u v : World} (h : u.grownBy v R) : ButO R u v := ⟨h.size, fun k hk hR => h.block k hk hR⟩
theorem ButO.cell {R : Option Nat} {q : Nat} {u v : World} (h : ButO R u v) {o : Nat} {x : Value} (hq : some q ≠ R) (hc : u.cell? ⟨q, o, none⟩ = some x) : v.cell? ⟨q, o, none⟩ = some x := by
  have hl := World.block_lt_of_cell? u _ hc
  have e := h.2 q hl hq
  simp only [World.cell?] at *
  rw [e]; exact hc
theorem MapN.not_ty {w : World} {b : Nat} {ks : List (List UInt8)} (h : MapN w b ks) {k : Nat} {T : TypeId} (hT : Ty w k T) : k ≠ b := fun e => by
  obtain ⟨es, clock, hh, _⟩ := h.2
  obtain ⟨cs, fr, hc⟩ := hT
  rw [e, hh] at hc
  cases hc
/-- Marks are as they were while the map is written. -/
theorem MkX.butMap {w w' : World} {p : Nat} {R : Option Nat} {A : Option Addr} {c : Nat} {xs : List (G × Option Addr × Nat)} {b : Nat} {ks : List (List UInt8)} (h : MkX w p R A c xs) (hm : MapN w b ks) (hg : w.grownBy w' (some b)) : MkX w' p R A c xs := by
  have hb : ∀ k T, Ty w k T → w'.heap[k]? = w.heap[k]? := fun k T hT => hg.block k hT.lt (fun e => hm.not_ty hT (by injection e))
  exact ⟨(hb _ _ h.p_ty).trans h.at_, own_keep h.own (fun k hk e => hb k _ (h.row_ty (by rw [h.row]; exact e))), h.row, fun x hx => (h.sets x hx).keep hg.size fun k _ hT => hb k _ hT⟩
theorem SetOk.butMap {w w' : World} {A : Option Addr} {c : Nat} {l : List Rg} {b : Nat} {ks : List (List UInt8)} (h : SetOk w A c l) (hm : MapN w b ks) (hg : w.grownBy w' (some b)) : SetOk w' A c l :=
  h.keep hg.size fun k _ hT => hg.block k hT.lt (fun e => hm.not_ty hT (by injection e))
/-- The map is as it was while marks change. -/
theorem MapN.kept {w w' : World} {b p : Nat} {R : Option Nat} {ks : List (List UInt8)} {gs : List G} (h : MapN w b ks) (hk : Kept p R w w') (hm : MkAt w p R gs) : MapN w' b ks := by
  obtain ⟨A, c, xs, _, hX⟩ := hm
  exact h.keep (hk.block b h.lt (fun e => h.not_ty hX.p_ty e.symm) fun e => h.not_ty (hX.row_ty e.symm) rfl)
/-- Marks, or the line and the error. -/
def GivesParse (w : World) (r : List G ⊕ (Nat × Nat)) (e : Ending) (w' : World) : Prop :=
  Below w.heap.size w w' ∧ match r with
  | .inl gs => ∃ p R, e = .returned (.tuple #[.pointer (some ⟨p, 0, none⟩), i64 0, i64 0]) ∧ MkAt w' p R gs ∧ w.heap.size ≤ p ∧ ∀ g, R = some g → w.heap.size ≤ g
  | .inr er => e = .returned (.tuple #[.pointer none, i64 er.1, i64 er.2])

set_option maxRecDepth 100000 in
set_option maxHeartbeats 8000000 in
theorem parse_any (s : List UInt8) (w : World) (hE : Env w) (hI : ∀ t, t.length ≤ s.length → (∀ x ∈ t, x ∈ s) → IdxOk t) (hl : s.length ≤ 10000000) (hp : (parts 10 s).length ≤ 1025) (hln : ∀ t ∈ parts 10 s, t.length ≤ 4000) :
    Calls Tryz.prog 64 #[enS s] w (GivesParse w (pfile [] 1 s)) := by
  obtain ⟨r, hr⟩ : ∃ r, pfile [] 1 s = r := ⟨_, rfl⟩
  have V := Lib.hid hr
  rw [hr]
  have HEv := Lib.hid (fun W (h : Below w.heap.size w W) => hE.below h)
  have HI := Lib.hid hI
  have HLN := Lib.hid hln
  have HNew := Lib.hid (newM_any w)
  have hmm := @run_makeMap Tryz.prog
  obtain ⟨i0, z0, hif, hz0, hz1, hz2, hz3⟩ := mark_parts
  clear hr hE hI hln
  go_enter Tryz.func64, Tryz.ntmps64
  go_wp2_with fail
  refine HNew.out.mono ?_; rintro e w1 ⟨rfl, m1, b1⟩
  have M1 := Lib.hid (m1.below (below_new w1 (.map #[] 0)))
  have B1 := Lib.hid (b1.tr (below_new w1 (.map #[] 0)))
  have P1 : Hid (MapN (w1.alloc (.map #[] 0)) w1.heap.size []) := MapB.made Tryz.prog 9 4 w1
  have hsz1 := b1.size
  obtain ⟨p, hp'⟩ : ∃ q, w.heap.size = q := ⟨_, rfl⟩
  have HP : Hid (w.heap.size = p) := hp'
  rw [hp'] at M1 hsz1 ⊢
  clear hp' m1 b1 HNew
  go_wp2_with fail
  obtain ⟨b, hb⟩ : ∃ q, w1.heap.size = q := ⟨_, rfl⟩
  rw [hb] at P1 hsz1 ⊢
  have hbw : w.heap.size ≤ b := by rw [HP.out]; exact hsz1
  clear hb hmm hsz1
  go_loopg [0, 2, 3] s.length (fun gg sv mv lv wr => ∃ (q : List UInt8) (line : Nat) (R : Option Nat) (out : List G), q.length ≤ gg ∧ sv = enS q ∧ mv = .pointer (some ⟨p, 0, none⟩) ∧ lv = .int .i64 line ∧ Hid (pfile out line q = r) ∧ Hid (q.length ≤ s.length ∧ ∀ x ∈ q, x ∈ s) ∧ line + (parts 10 q).length = (parts 10 s).length + 1 ∧ Hid (∀ t ∈ parts 10 q, t.length ≤ 4000) ∧ out.length + 1 = line ∧ Hid (MkAt wr p R out) ∧ Hid (MapN wr b (out.map (·.1))) ∧ Hid (∀ g, R = some g → w.heap.size ≤ g) ∧ Below w.heap.size w wr)
  case atStart => exact ⟨s, 1, none, [], Nat.le_refl _, rfl, rfl, rfl, V, ⟨Nat.le_refl _, fun _ h => h⟩, by omega, HLN, rfl, M1, P1, (fun g h => by cases h), B1.out⟩
  case round =>
    obtain ⟨q, line, R, out, hgq, rfl, rfl, rfl, Fq, Sq, hNq, Lq, hol, M, Mp, HRn, hB⟩ := hrel
    by_cases hq0 : q = []
    · subst hq0
      have e := Fq.out
      rw [pfile_nil] at e
      go_wp2_with fail
      go_ret3
      rw [← e]
      exact ⟨hB, p, R, rfl, M.out, Nat.le_of_eq HP.out, HRn.out⟩
    · have e1 : (q == []) = false := by simpa using hq0
      have e2 : (q != []) = true := by simpa using hq0
      have hql : q.length ≤ 10000000 := Nat.le_trans Sq.out.1 hl
      cases hdw : q.dropWhile nl with
      | nil =>
        have hfree : ∀ x ∈ q, nl x = true := fun x hx => by
          have := List.takeWhile_append_dropWhile (p := nl) (l := q)
          rw [hdw, List.append_nil] at this
          rw [← this] at hx
          exact List.all_eq_true.1 (List.all_takeWhile (l := q) (p := nl)) x hx
        have e3 := Fq.out
        rw [pfile_short out line q hq0 hfree] at e3
        have HCut := Lib.hid (fun W (h : Env W) => cutnl_none q hdw W h (by omega))
        have E3 := Lib.hid e3
        clear hfree e3 hdw
        go_wp2_with fail
        refine (HCut.out _ (HEv.out _ hB)).mono ?_; rintro e w2 ⟨rfl, b2⟩
        go_wp2_with fail
        go_ret3
        rw [← E3.out]
        exact ⟨hB.tr b2, rfl⟩
      | cons c0 rest =>
        obtain ⟨hqe, hc0, hfree⟩ := cut_is hdw
        have hc1 : c0 = 10 := by simpa [nl] using hc0
        subst hc1
        clear hc0 hdw
        generalize q.takeWhile nl = t at *
        subst hqe
        have hstep := pfile_step out line t rest hfree
        rw [Fq.out] at hstep
        have hpn := parts_nl (rest := rest) hfree
        have hpr := parts_pos 10 rest
        rw [hpn, List.length_cons] at hNq
        have ht4 : t.length ≤ 4000 := Lq.out t (by rw [hpn]; simp)
        have HLr : Hid (∀ x ∈ parts 10 rest, x.length ≤ 4000) := fun x hx => Lq.out x (by rw [hpn]; simp [hx])
        have htl : t.length ≤ s.length ∧ ∀ x ∈ t, x ∈ s := ⟨by have := Sq.out.1; rw [List.length_append] at this; omega, fun x hx => Sq.out.2 x (by simp [hx])⟩
        have Sr : Hid (rest.length ≤ s.length ∧ ∀ x ∈ rest, x ∈ s) := ⟨by have := Sq.out.1; rw [List.length_append, List.length_cons] at this; omega, fun x hx => Sq.out.2 x (by simp [hx])⟩
        rw [List.length_append, List.length_cons] at hgq
        have hline : ¬ ((1024 : Int) < (line : Int)) := by omega
        have hline2 : decide ((line : Int) > 1024) = false := decide_eq_false (by omega)
        have HCut := Lib.hid (fun W (h : Env W) => cutnl_some t rest hfree W h (by omega))
        have HPm := Lib.hid (fun W (h : MapN W b (out.map (·.1))) (h2 : Env W) => parseMark_any t b _ W h h2 (HI.out t htl.1 htl.2) (by omega) (fun x h1 h2 => by omega))
        have HB := Lib.hid hB
        clear hfree hpn hpr Lq Sq htl Fq hq0 hB hql
        cases hpk : pmark (out.map (·.1)) t with
        | inr er =>
          rw [hpk] at hstep HPm
          have her := pmark_err hpk
          have HS := Lib.hid hstep
          have q1 : ((er : Int) != 0) = true := by simp; omega
          clear hpk hstep
          go_wp2_with fail
          refine (HCut.out _ (HEv.out _ HB.out)).mono ?_; rintro e w2 ⟨rfl, b2⟩
          have Mp2 := Lib.hid (MapB.below Mp.out b2)
          have B2 := Lib.hid (HB.out.tr b2)
          clear b2
          go_wp2_with fail
          refine (HPm.out _ Mp2.out (HEv.out _ B2.out)).mono ?_; rintro e w3 ⟨b3, rfl⟩
          go_wp2_with fail
          go_ret3
          rw [HS.out]
          exact ⟨(B2.out.tr b3).tr (below_new _ _), rfl⟩
        | inl g =>
          rw [hpk] at hstep HPm
          have hgk : g.1.length ≤ maxLen := by
            have := ((check_zero g.1).1 (pmark_inv hpk).2.1).1
            unfold maxLen; omega
          have HS := Lib.hid hstep
          obtain ⟨g1, g2, g3⟩ := g
          simp only at hgk
          clear hpk hstep
          go_wp2_with fail
          refine (HCut.out _ (HEv.out _ HB.out)).mono ?_; rintro e w2 ⟨rfl, b2⟩
          have Mp2 := Lib.hid (MapB.below Mp.out b2)
          have M2 := Lib.hid (M.out.below b2)
          have B2 := Lib.hid (HB.out.tr b2)
          clear b2 Mp M HB
          go_wp2_with fail
          refine (HPm.out _ Mp2.out (HEv.out _ B2.out)).mono ?_; rintro e w3 ⟨b3, X, x, rfl, so3⟩
          simp only at so3
          have b4 := b3.tr (below_new w3 (.cells #[enS g1, .bool g2, .slice X g3.length x] 139))
          have Mp4 := Lib.hid (MapB.below Mp2.out b4)
          have M4 := Lib.hid (M2.out.below b4)
          have B4 := Lib.hid (B2.out.tr b4)
          have SO4 := Lib.hid (so3.below (below_new w3 (.cells #[enS g1, .bool g2, .slice X g3.length x] 139)))
          have K4 := Lib.hid (blk_new w3 (.cells #[enS g1, .bool g2, .slice X g3.length x] 139))
          have h34 : w3.heap.size < (w3.alloc (.cells #[enS g1, .bool g2, .slice X g3.length x] 139)).heap.size := by simp
          have hml : (out.map (·.1)).length < maxLen := by rw [List.length_map]; unfold maxLen; omega
          have hrow3 : ∀ g, R = some g → g < w3.heap.size := fun g e => by have := (M2.out.below b3).lt.2 g e; exact this
          have HR3 := Lib.hid hrow3
          clear b3 so3 b4 Mp2 M2 B2 hrow3
          go_wp2_with (at_mapUpdate; refine wpList_mapUpdate_b _ rfl _ _ _ 151 rfl 9 4 (string_keyed Tryz.underlying9) Tryz.underlying151 Tryz.underlying4 b _ rfl Mp4.out (by rw [List.length_map]; exact hml) _ _ rfl rfl (keyS hgk) trivial ?_)
          intro w6 hm6 hg6
          have hMN : MapN (w3.alloc (.cells #[enS g1, .bool g2, .slice X g3.length x] 139)) b (out.map (·.1)) := Mp4.out
          have hnb : w3.heap.size ≠ b := hMN.not_ty ⟨_, _, K4.out⟩
          clear hMN
          have hK6 := (hg6.block _ (blk_lt K4.out) (fun e => hnb (by injection e))).trans K4.out
          obtain ⟨A, c, xs, hxs, hX4⟩ := M4.out
          have X6 := Lib.hid ((hX4.butMap Mp4.out hg6).below (Below.refl _ _).drew)
          have SO6 := Lib.hid ((SO4.out.butMap Mp4.out hg6).below (Below.refl _ _).drew)
          have K6 := Lib.hid (blk_below (Below.refl _ _).drew hK6)
          have Mp6 : Hid (MapN w6.drew b ((out ++ [(g1, g2, g3)]).map (·.1))) := by
            have : MapN w6 b ((out ++ [(g1, g2, g3)]).map (·.1)) := by
              unfold MapN
              rw [List.map_append, List.map_append, List.map_map]; exact hm6
            exact MapB.below this (Below.refl _ _).drew
          have B6 := Lib.hid (B4.out.grown hg6 B4.out.size (fun k e => by cases e; exact hbw)).drew
          have hlen : xs.length = out.length := by rw [← hxs, List.length_map]
          have HXS := Lib.hid hxs
          have HLN := Lib.hid hlen
          have hxl : xs.length ≤ 1000000 := by omega
          have q10 := Lib.hid (blk_cell hX4.at_ 0)
          clear hm6 hg6 hK6 hX4 hxs Mp4 M4 B4 SO4 K4 hlen q10
          go_wp2_with fail
          refine Flow.wp_region_pre (ButO R) (ButO.refl R) ButO.trans [10] (.held [0, 1, 2, 3, 4, 5] (.call 6 (.call 7 (.call 8 (.held [9] (.tail (.step [] 10 (.done [])))))))) (by kernel_rfl) (by kernel_rfl) ?_
          generalize World.drew w6 = wd at *
          have hpR : some p ≠ R := fun e => absurd ((X6.out.row_ty e.symm).uniq X6.out.p_ty) (by decide)
          have h3R : some w3.heap.size ≠ R := fun e => by have := HR3.out _ e.symm; omega
          have HPR := Lib.hid hpR
          have q1 : ∀ t : Flow.Cls (ButO R wd), t.val.cell? ⟨p, 0, none⟩ = some (.slice A xs.length c) := fun t => t.ok.cell hpR (blk_cell X6.out.at_ 0)
          have q2 : ∀ t : Flow.Cls (ButO R wd), t.val.cell? ⟨w3.heap.size, 0, none⟩ = some (enS g1) := fun t => t.ok.cell h3R (blk_cell K6.out 0)
          have q3 : ∀ t : Flow.Cls (ButO R wd), t.val.cell? ⟨w3.heap.size, 1, none⟩ = some (.bool g2) := fun t => t.ok.cell h3R (blk_cell K6.out 1)
          have q4 : ∀ t : Flow.Cls (ButO R wd), t.val.cell? ⟨w3.heap.size, 2, none⟩ = some (.slice X g3.length x) := fun t => t.ok.cell h3R (blk_cell K6.out 2)
          haveI nonE : Nonempty (Flow.Cls (ButO R wd)) := ⟨⟨wd, ButO.refl _ _⟩⟩
          rw [Flow.wpPre_held]
          simp only [Flow.pick, List.getElem?_toArray, List.getElem?_cons_succ, List.getElem?_cons_zero]
          repeat go_big_quiet_step (fail)
          refine wpQuiet_nil ?_
          clear q1 q2 q3 q4 nonE hpR
          rw [Flow.wpPre_call, Flow.callAt_eq]
          simp only [List.getElem?_toArray, List.getElem?_cons_succ, List.getElem?_cons_zero]
          rw [if_pos (by rfl)]
          refine Flow.wp_behind (fun K hK => ?_)
          go_wp2_with fail
          refine hK.out _ _ ⟨ButO.below (below_new _ _), ?_⟩
          clear hK K
          rw [Flow.wpPre_call, Flow.callAt_eq]
          simp only [List.getElem?_toArray, List.getElem?_cons_succ, List.getElem?_cons_zero]
          rw [if_pos (by rfl)]
          refine Flow.wp_behind (fun K hK => ?_)
          refine wp_append_far _ _ _ 140 rfl 139 i0 z0 3 48 Tryz.underlying140 hif hz0 hz1 hz2 hz3 (by decide) (.slice A xs.length c) xs.length (mflat xs) rfl (X6.out.own.alloc _) ⟨wd.heap.size, 0, none⟩ 1 1 [enS g1, .bool g2, .slice X g3.length x] rfl rfl ?c1 ?c2 ?c3 ?c4 ?_
          case c1 =>
            intro j u hj
            rw [addr_addN, new_cell _ _ _ _ _ rfl]
            simpa using hj
          case c2 => intro u hu; simp at hu; rcases hu with rfl | rfl | rfl <;> rfl
          case c3 => unfold maxLen; omega
          case c4 => omega
          intro v' w8 hown8 hg8 hfar
          obtain ⟨A3, c3, rfl⟩ := own2_slice hown8
          refine hK.out _ _ ⟨ButO.grown (by rw [X6.out.row]; exact hg8), ?_⟩
          clear hK K
          have hpt : Ty (wd.alloc (.cells #[enS g1, .bool g2, .slice X g3.length x] 139)) p 143 := X6.out.p_ty.below (below_new _ _)
          have hp8 : w8.heap[p]? = some (.cells #[.slice A xs.length c] 143 (0, 0)) := by
            rw [hg8.block p hpt.lt fun e => HPR.out (by rw [X6.out.row]; exact e)]
            exact blk_old _ X6.out.at_
          have HO8 := Lib.hid hown8
          have HG8 := Lib.hid hg8
          have HF8 := Lib.hid hfar
          have HP8 := Lib.hid hp8
          clear hown8 hg8 hfar hp8 hpt
          rw [Flow.wpPre_call, Flow.callAt_eq]
          simp only [List.getElem?_toArray, List.getElem?_cons_succ, List.getElem?_cons_zero]
          rw [if_pos (by rfl)]
          refine Flow.wp_behind (fun K hK => ?_)
          go_wp2_with fail
          refine hK.out _ _ ⟨ButO.refl _ _, ?_⟩
          clear hK K
          haveI nonE : Nonempty (Flow.Cls (ButO R w8)) := ⟨⟨w8, ButO.refl _ _⟩⟩
          rw [Flow.wpPre_held]
          simp only [Flow.pick, List.getElem?_toArray, List.getElem?_cons_succ, List.getElem?_cons_zero]
          repeat go_big_quiet_step (fail)
          refine wpQuiet_nil ?_
          clear nonE
          rw [Flow.wpPre_tail, Flow.wpSched_step]
          simp only [Flow.pick]
          refine wpQuiet_nil ?_
          rw [Flow.callAt_eq]
          simp only [List.getElem?_toArray, List.getElem?_cons_succ, List.getElem?_cons_zero]
          rw [if_pos (by rfl)]
          refine Flow.wp_behind (fun K hK => ?_)
          have hpc8 := blk_cell HP8.out 0
          have hpf8 := blk_free HP8.out 0
          go_wp2_with fail
          refine hK.out _ _ ⟨trivial, ?_⟩
          clear hK K hpc8 hpf8
          rw [Flow.wpSched_done]
          simp only [Flow.pick]
          refine wpQuiet_nil ?_
          have hx2 := mk_grown X6.out (below_new wd _) HO8.out HG8.out HP8.out SO6.out (s := g1) (sb := g2) (l := g3) rfl
          have HX2 := Lib.hid hx2
          clear hx2
          go_wp2_with fail
          go_roundg rest.length
          case measure => omega
          case rel =>
            refine ⟨rest, line + 1, (Value.slice A3 (xs.length + 1) c3).ownBlock, out ++ [(g1, g2, g3)], Nat.le_refl _, rfl, rfl, by go_num, HS.out.symm, Sr, by omega, HLr, by rw [List.length_append]; simp; omega, ⟨A3, c3, xs ++ [((g1, g2, g3), X, x)], ?_, HX2.out.1⟩, MapN.kept Mp6.out HX2.out.2 ⟨A, c, xs, HXS.out, X6.out⟩, fun g e => ?_, B6.out.trans (HX2.out.2.below B6.out.size (Nat.le_of_eq HP.out) HRn.out)⟩
            · rw [List.map_append, HXS.out]; rfl
            · rcases HF8.out with e2 | ⟨g', e2, hg'⟩
              · rw [e2, ← X6.out.row] at e; exact HRn.out g e
              · rw [e] at e2; cases e2
                have := B6.out.size
                simp at hg'; omega
end Go.Proofs.YtcpennlojjlpaaaGreatDoor
