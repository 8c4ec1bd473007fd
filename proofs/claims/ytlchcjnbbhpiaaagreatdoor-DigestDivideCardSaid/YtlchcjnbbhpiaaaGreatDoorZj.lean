/- Contracts: the reader of a digest: value, exactly, date.
   Contracts: the reader of a digest: exactly, date, ordinal, head.
   Contracts: the reader of a digest: ordinal, head.
   Contracts: the reader of a digest: contents.
   Contracts: the reader of a digest: body. -/
import Derived.Test.YtlchcjnbbhpiaaaGreatDoorZi
namespace Go.Proofs.YtlchcjnbbhpiaaaGreatDoor
open Go.RowKit Go.Shelf Go.Dg
theorem cutPre (s p : List UInt8) (w : World) : Calls Tryz.prog 123 #[enS s, enS p] w fun e w' => e = .returned (.tuple #[enS (if p.isPrefixOf s = true then s.drop p.length else s), .bool (p.isPrefixOf s)]) ∧ w = w' := by
 refine (Tryz.strings_CutPrefix ⟨s.toArray⟩ ⟨p.toArray⟩ w).mono ?_
 rintro e w' ⟨rfl, rfl⟩
 refine ⟨?_, rfl⟩
 show Ending.returned (.tuple #[enS (Lib.trimPrefix s p), .bool (Lib.hasPrefix s p)]) = _
 unfold Lib.trimPrefix Lib.hasPrefix
 cases p.isPrefixOf s <;> rfl
def OkV (r : Go.Dg.Rd) (l wd : List UInt8) (p : List UInt8 → Bool) : Prop := r.e = 0 ∧ wd.isPrefixOf l = true ∧ p (l.drop wd.length) = true
set_option maxRecDepth 100000 in
set_option maxHeartbeats 4000000 in
theorem value_any (b : Nat) (tl : List UInt8) (r : Go.Dg.Rd) (l wd : List UInt8) (p : List UInt8 → Bool) (G : Nat) (caps : Array Value) (w0 w : World) (h : RdM w0 w b tl r)
  (hent : ∀ (args : Array Value) (u : World), (callFunc G args).run Tryz.prog u = .ok (.enter G args) u) (P0 P1 : World → Prop) (h0 : P0 w) (hF : ∀ u u', P0 u → But b u u' → P0 u')
  (HP : r.e = 0 → wd.isPrefixOf l = true → Calls Tryz.prog G (#[enS (l.drop wd.length)] ++ caps) w fun e w' => e = .returned (.bool (p (l.drop wd.length))) ∧ RdM w0 w' b tl r ∧ (p (l.drop wd.length) = true → P1 w') ∧ (p (l.drop wd.length) = false → P0 w')) :
  Calls Tryz.prog 89 #[.pointer (some ⟨b, 0, none⟩), enS l, enS wd, .func (.func G) #[] caps] w fun e w' => e = .returned (enS (valueR r l wd p).1) ∧ RdM w0 w' b tl (valueR r l wd p).2 ∧
   (OkV r l wd p → P1 w') ∧ (¬ OkV r l wd p → P0 w') := by
 have H := Lib.hid h
 have H0 := Lib.hid h0
 have HF := Lib.hid hF
 have HPP := Lib.hid HP
 have HFA := Lib.hid (fun u (hu : RdM w0 u b tl r) => fail_any b tl r 3 w0 u hu (by decide))
 have c2 := blk_cell h.blk 2
 clear h h0 hF HP
 obtain ⟨ls, n, e⟩ := r
 simp only at c2 HPP
 go_enter Tryz.func89, Tryz.ntmps89
 go_wp2_with fail
 refine (cutPre l wd w).mono ?_; rintro e1 w1 ⟨rfl, rfl⟩
 by_cases he : e = 0
 case neg =>
  have hq : (e != 0) = true := by simpa using he
  have V : Hid (valueR ⟨ls, n, e⟩ l wd p = ([], failR ⟨ls, n, e⟩ 3)) := Lib.hid (by (show _ = _); unfold valueR; rw [if_neg fun h => he h.1])
  have NO : Hid (¬ OkV ⟨ls, n, e⟩ l wd p) := Lib.hid fun h => he h.1
  clear he HPP
  generalize (if wd.isPrefixOf l = true then l.drop wd.length else l) = x0
  generalize wd.isPrefixOf l = pf
  go_wp2_with fail
  refine (HFA.out w H.out).mono ?_; rintro e1 w1 ⟨rfl, h1, h2⟩
  have X1 := Lib.hid h1
  have X2 := Lib.hid h2
  clear h1 h2
  go_wp2_with fail
  go_ret
  rw [V.out]
  exact ⟨rfl, X1.out, fun h => absurd h NO.out, fun _ => HF.out _ _ H0.out X2.out⟩
 case pos =>
  subst he
  cases hpre : wd.isPrefixOf l with
  | false =>
   have V : Hid (valueR ⟨ls, n, 0⟩ l wd p = ([], failR ⟨ls, n, 0⟩ 3)) := Lib.hid (by (show _ = _); unfold valueR; rw [if_neg fun h => by rw [hpre] at h; exact absurd h.2.1 (by decide)])
   have NO : Hid (¬ OkV ⟨ls, n, 0⟩ l wd p) := Lib.hid fun h => by rw [OkV, hpre] at h; exact absurd h.2.1 (by decide)
   clear HPP
   go_wp2_with fail
   refine (HFA.out w H.out).mono ?_; rintro e1 w1 ⟨rfl, h1, h2⟩
   have X1 := Lib.hid h1
   have X2 := Lib.hid h2
   clear h1 h2
   go_wp2_with fail
   go_ret
   rw [V.out]
   exact ⟨rfl, X1.out, fun h => absurd h NO.out, fun _ => HF.out _ _ H0.out X2.out⟩
  | true =>
   have HQ := Lib.hid (HPP.out rfl hpre)
   rw [if_pos rfl]
   have HPRE := Lib.hid hpre
   clear HPP hpre
   obtain ⟨v, hv⟩ : ∃ v, l.drop wd.length = v := ⟨_, rfl⟩
   rw [hv] at HQ ⊢
   have HV := Lib.hid hv
   clear hv
   go_wp2_with fail
   refine HQ.out.mono ?_; rintro e1 w1 ⟨rfl, h1, h2, h3⟩
   have X1 := Lib.hid h1
   have X2 := Lib.hid h2
   have X3 := Lib.hid h3
   clear h1 h2 h3 HQ
   cases hp : p v with
   | true =>
    have V : Hid (valueR ⟨ls, n, 0⟩ l wd p = (v, ⟨ls, n, 0⟩)) := Lib.hid (by (show _ = _); unfold valueR; rw [if_pos ⟨rfl, HPRE.out, by rw [HV.out]; exact hp⟩, HV.out])
    have YES : Hid (OkV ⟨ls, n, 0⟩ l wd p) := Lib.hid ⟨rfl, HPRE.out, by rw [HV.out]; exact hp⟩
    have HPv := Lib.hid hp
    clear hp
    go_wp2_with fail
    go_ret
    rw [V.out]
    exact ⟨rfl, X1.out, fun _ => X2.out HPv.out, fun h => absurd YES.out h⟩
   | false =>
    have V : Hid (valueR ⟨ls, n, 0⟩ l wd p = ([], failR ⟨ls, n, 0⟩ 3)) := Lib.hid (by (show _ = _); unfold valueR; rw [if_neg fun h => by rw [HV.out, hp] at h; exact absurd h.2.2 (by decide)])
    have NO : Hid (¬ OkV ⟨ls, n, 0⟩ l wd p) := Lib.hid fun h => by rw [OkV, HV.out, hp] at h; exact absurd h.2.2 (by decide)
    have HPv := Lib.hid hp
    clear hp
    go_wp2_with fail
    refine (HFA.out w1 X1.out).mono ?_; rintro e1 w2 ⟨rfl, h1, h2⟩
    have Y1 := Lib.hid h1
    have Y2 := Lib.hid h2
    clear h1 h2
    go_wp2_with fail
    go_ret
    rw [V.out]
    exact ⟨rfl, Y1.out, fun h => absurd h NO.out, fun _ => HF.out _ _ (X3.out HPv.out) Y2.out⟩
set_option maxRecDepth 100000 in
set_option maxHeartbeats 2000000 in
theorem exactly_any (b : Nat) (tl : List UInt8) (r : Go.Dg.Rd) (l : List UInt8) (w0 w : World) (h : RdM w0 w b tl r) :
  Calls Tryz.prog 46 #[.pointer (some ⟨b, 0, none⟩), enS l] w fun e w' => e = .returned (.tuple #[]) ∧ RdM w0 w' b tl (exactR r l) ∧ But b w w' := by
 have HN := Lib.hid (next_any b tl r w0 w h)
 have V := Lib.hid (show exactR r l = if (nextR r).1 = l then (nextR r).2 else failR (nextR r).2 3 from rfl)
 clear h
 generalize nextR r = q at *
 obtain ⟨x, r2⟩ := q
 simp only at HN V
 go_enter Tryz.func46, Tryz.ntmps46
 go_wp2_with fail
 refine HN.out.mono ?_; rintro e w1 ⟨rfl, h1, h2⟩
 have X1 := Lib.hid h1
 have X2 := Lib.hid h2
 clear h1 h2 HN
 have HFA := Lib.hid (fail_any b tl r2 3 w0 w1 X1.out (by decide))
 by_cases hx : x = l
 ·have hq : (x == l) = true := by simpa using hx
  have VB : Hid (exactR r l = r2) := Lib.hid (by (show _ = _); rw [V.out, if_pos hx])
  clear hx V
  go_wp2_with fail
  go_end0
  rw [VB.out]
  exact ⟨rfl, X1.out, X2.out⟩
 ·have hq : (x == l) = false := by simpa using hx
  have VB : Hid (exactR r l = failR r2 3) := Lib.hid (by (show _ = _); rw [V.out, if_neg hx])
  clear hx V
  go_wp2_with fail
  refine HFA.out.mono ?_; rintro e w2 ⟨rfl, h1, h2⟩
  have Y1 := Lib.hid h1
  have Y2 := Lib.hid h2
  clear h1 h2
  go_wp2_with fail
  go_end0
  rw [VB.out]
  exact ⟨rfl, Y1.out, X2.out.trans Y2.out⟩
theorem entCanon : ∀ (args : Array Value) (u : World), (callFunc 90 args).run Tryz.prog u = .ok (.enter 90 args) u := enters_of Tryz.func90 (by kernel_rfl) rfl
theorem line_len {w0 w : World} {b : Nat} {tl : List UInt8} {r : Go.Dg.Rd} (h : RdM w0 w b tl r) (hs : (unl r.ls ++ tl).length ≤ 1000000000) : (nextR r).1.length ≤ 1000000000 := by
 obtain ⟨ls, n, e⟩ := r
 unfold nextR
 by_cases he : e ≠ 0
 ·rw [if_pos he]; simp
 ·rw [if_neg he]
  cases ls with
  | nil => simp
  | cons l ls => simp only [unl_cons, List.length_append, List.length_cons] at hs ⊢; omega
set_option maxRecDepth 100000 in
set_option maxHeartbeats 2000000 in
theorem date_any (b : Nat) (tl : List UInt8) (r : Go.Dg.Rd) (w0 w : World) (h : RdM w0 w b tl r) (hs : (nextR r).1.length ≤ 1000000000) :
  Calls Tryz.prog 45 #[.pointer (some ⟨b, 0, none⟩)] w fun e w' => e = .returned (i64 (dateR r).1) ∧ RdM w0 w' b tl (dateR r).2 ∧ But b w w' := by
 have HN := Lib.hid (next_any b tl r w0 w h)
 have V := Lib.hid (show dateR r = (if (valueR (nextR r).2 (nextR r).1 wDate Go.Dt.canonB).2.e ≠ 0 then 0 else (Go.Dt.parseF (valueR (nextR r).2 (nextR r).1 wDate Go.Dt.canonB).1).1, (valueR (nextR r).2 (nextR r).1 wDate Go.Dt.canonB).2) from rfl)
 clear h
 generalize nextR r = q at *
 obtain ⟨x, r2⟩ := q
 simp only at HN V hs
 go_enter Tryz.func45, Tryz.ntmps45
 go_wp2_with fail
 refine HN.out.mono ?_; rintro e w1 ⟨rfl, h1, h2⟩
 have X1 := Lib.hid h1
 have X2 := Lib.hid h2
 clear h1 h2 HN
 go_wp2_with fail
 have hlen : (x.drop wDate.length).length ≤ 1000000000 := by rw [List.length_drop]; omega
 refine (value_any b tl r2 x wDate Go.Dt.canonB 90 #[] w0 w1 X1.out entCanon (fun u => But b w1 u) (fun u => But b w1 u) (But.refl _ _) (fun _ _ h k => h.trans k) fun _ _ => by
  refine (Dt.isCanonical_any _ w1 X1.out.gl.tab hlen).mono ?_
  rintro e w' ⟨rfl, hb⟩
  exact ⟨rfl, X1.out.below hb, fun _ => But.of_below hb, fun _ => But.of_below hb⟩).mono ?_
 rintro e w2 ⟨rfl, h1, h2, h3⟩
 have Y1 := Lib.hid h1
 have Y2 : Hid (But b w1 w2) := Lib.hid (by by_cases h : OkV r2 x wDate Go.Dt.canonB; exact h2 h; exact h3 h)
 have HOK : Hid ((valueR r2 x wDate Go.Dt.canonB).2.e = 0 → Go.Dt.canonB (valueR r2 x wDate Go.Dt.canonB).1 = true ∧ (valueR r2 x wDate Go.Dt.canonB).1.length ≤ 1000000000) := Lib.hid (fun he => by
  unfold valueR at he ⊢
  by_cases hc : r2.e = 0 ∧ wDate.isPrefixOf x = true ∧ Go.Dt.canonB (x.drop wDate.length) = true
  ·rw [if_pos hc]; exact ⟨hc.2.2, hlen⟩
  ·rw [if_neg hc] at he
   unfold failR at he
   by_cases h0 : r2.e = 0
   ·rw [if_pos h0] at he; exact absurd (show (3 : Int) = 0 from he) (by decide)
   ·rw [if_neg h0] at he; exact absurd he h0)
 clear h1 h2 h3 hlen hs
 generalize valueR r2 x wDate Go.Dt.canonB = q at *
 obtain ⟨t, ls, n, e⟩ := q
 simp only at HOK V Y1
 have c2 := blk_cell Y1.out.blk 2
 simp only at c2
 by_cases he : e = 0
 ·subst he
  obtain ⟨hc, hl⟩ := HOK.out rfl
  have hpe : (Go.Dt.parseF t).2.2 = 0 := by
   unfold Go.Dt.canonB at hc
   simp only [Bool.and_eq_true, beq_iff_eq] at hc
   exact hc.1
  have VB : Hid (dateR r = ((Go.Dt.parseF t).1, ⟨ls, n, 0⟩)) := Lib.hid (by (show _ = _); rw [V.out, if_neg (by decide)])
  have HP := Lib.hid (fun u => Dt.parse_any t u hl)
  clear HOK V hc
  generalize Go.Dt.parseF t = pf at *
  obtain ⟨m, p, ee⟩ := pf
  simp only at hpe VB HP
  subst hpe
  go_wp2_with fail
  refine (HP.out w2).mono ?_; rintro e w3 ⟨rfl, hb⟩
  have Z1 := Lib.hid (Y1.out.below hb)
  have Z2 := Lib.hid ((X2.out.trans Y2.out).trans (But.of_below hb))
  clear hb
  go_wp2_with fail
  go_ret
  rw [VB.out]
  exact ⟨rfl, Z1.out, Z2.out⟩
 ·have hq : (e != 0) = true := by simpa using he
  have VB : Hid (dateR r = (0, ⟨ls, n, e⟩)) := Lib.hid (by (show _ = _); rw [V.out, if_pos he])
  clear he HOK V
  go_wp2_with fail
  go_ret
  rw [VB.out]
  exact ⟨rfl, Y1.out, X2.out.trans Y2.out⟩
theorem atoi_any (s : List UInt8) (w : World) (hg : GlD w) (hl : s.length ≤ 1000000000) :
  Calls Tryz.prog 122 #[enS s] w fun e w' => (∃ n v, e = .returned (.tuple #[i64 n, v]) ∧ ((Lib.atoiAll s = .ok n ∧ v = .nilIface) ∨ ((∀ m, Lib.atoiAll s ≠ .ok m) ∧ ∃ t p, v = .iface t p))) ∧ Below w.heap.size w w' := by
 have hsz : (⟨s.toArray⟩ : ByteArray).size = s.length := by show s.toArray.size = _; simp
 have he : (⟨s.toArray⟩ : ByteArray).data.toList = s := by simp
 obtain ⟨ev, hv, hev⟩ := hg.es
 obtain ⟨er, hr, her⟩ := hg.er
 cases h : Lib.atoiAll s with
 | ok n =>
  refine (Tryz.strconv_Atoi_ok ⟨s.toArray⟩ (by rw [hsz]; omega) n (by rw [he]; exact h) w).mono ?_
  rintro e w' ⟨rfl, hw⟩
  refine ⟨⟨n, .nilIface, rfl, .inl ⟨rfl, rfl⟩⟩, ?_⟩
  rcases hw with rfl | ⟨t, rfl⟩
  ·exact Below.refl _ _
  ·exact Lib.bytesWorld_below _ _ _
 | range =>
  refine (Tryz.strconv_Atoi_range ⟨s.toArray⟩ (by rw [hsz]; omega) (by rw [he]; exact h) er w hr her).mono ?_
  rintro e w' ⟨N, rfl, h1, h2, h3⟩
  exact ⟨⟨_, _, rfl, .inr ⟨(fun m hm => by cases hm), _, _, rfl⟩⟩, h3⟩
 | _ =>
  refine (Tryz.strconv_Atoi_syntax ⟨s.toArray⟩ (by rw [hsz]; omega) (fun v e => by rw [he, h] at e; cases e) (fun e => by rw [he, h] at e; cases e) ev w hv hev).mono ?_
  rintro e w' ⟨N, rfl, h1, h2, h3⟩
  exact ⟨⟨0, _, rfl, .inr ⟨(fun m hm => by cases hm), _, _, rfl⟩⟩, h3⟩
theorem ordV_eq (s : List UInt8) : ordV s = match Lib.atoiAll s with
 | .ok n => if ordB n = true ∧ Lib.itoa n = s then some n else none
 | _ => none := rfl
theorem ordV_ok {s : List UInt8} {n : Int} (h : Lib.atoiAll s = .ok n) : ordV s = if ordB n = true ∧ Lib.itoa n = s then some n else none := by rw [ordV_eq, h]
theorem ordV_no {s : List UInt8} (h : ∀ m, Lib.atoiAll s ≠ .ok m) : ordV s = none := by
 rw [ordV_eq]
 cases ha : Lib.atoiAll s with
 | ok n => exact absurd ha (h n)
 | range => rfl
 | _ => rfl
set_option maxRecDepth 100000 in
set_option maxHeartbeats 2000000 in
theorem ordinal_any (s : List UInt8) (w : World) (hg : GlD w) (hl : s.length ≤ 1000000000) :
  Calls Tryz.prog 88 #[enS s] w fun e w' => e = .returned (.tuple #[i64 ((ordV s).getD 0), .bool (ordV s).isSome]) ∧ Below w.heap.size w w' := by
 have HA := Lib.hid (atoi_any s w hg hl)
 have HG := Lib.hid hg
 clear hg
 go_enter Tryz.func88, Tryz.ntmps88
 go_wp2_with fail
 refine HA.out.mono ?_; rintro e w1 ⟨⟨n, v, rfl, hv⟩, b1⟩
 have B1 := Lib.hid b1
 rcases hv with ⟨ha, rfl⟩ | ⟨ha, t, p, rfl⟩
 ·have V1 := Lib.hid (ordV_ok ha)
  clear ha b1 HA
  have HO := Lib.hid (fun u => isOrdinal_any n u)
  go_wp2_with fail
  refine (HO.out _).mono ?_; rintro e w2 ⟨rfl, rfl⟩
  cases ho : ordB n with
  | false =>
   have V : Hid (ordV s = none) := Lib.hid (by (show _ = _); rw [V1.out, if_neg fun h => by rw [ho] at h; exact absurd h.1 (by decide)])
   clear ho
   go_wp2_with fail
   go_ret2
   rw [V.out]
   exact ⟨rfl, B1.out⟩
  | true =>
   have hr : 1 ≤ n ∧ n ≤ 1000000 := by
    unfold ordB at ho
    simpa using ho
   have hi : Lib.itoa n = Lib.decDigits n.toNat := by unfold Lib.itoa; rw [if_neg (by omega)]
   rw [hi, ho] at V1
   have HI := Lib.hid (itoa_any n w1 (by omega) (by omega) (HG.out.tab.below B1.out))
   clear ho hi
   generalize Lib.decDigits n.toNat = D at *
   go_wp2_with fail
   refine HI.out.mono ?_; rintro e w2 ⟨rfl, b2⟩
   have B2 := Lib.hid (B1.out.tr b2)
   clear b2
   by_cases hd : D = s
   ·have hq : (D == s) = true := by simpa using hd
    have V : Hid (ordV s = some n) := Lib.hid (by (show _ = _); rw [V1.out, if_pos (by first | exact ⟨rfl, hd⟩ | exact ⟨trivial, hd⟩)])
    clear hd
    go_wp2_with fail
    go_ret2
    rw [V.out]
    exact ⟨rfl, B2.out⟩
   ·have hq : (D == s) = false := by simpa using hd
    have V : Hid (ordV s = none) := Lib.hid (by (show _ = _); rw [V1.out, if_neg fun h => hd h.2])
    clear hd
    go_wp2_with fail
    go_ret2
    rw [V.out]
    exact ⟨rfl, B2.out⟩
 ·have V : Hid (ordV s = none) := Lib.hid (ordV_no ha)
  clear ha b1 HA
  go_wp2_with fail
  go_ret2
  rw [V.out]
  exact ⟨rfl, B1.out⟩
theorem headV_no {l : List UInt8} (h : Lib.lastIndex l wDig < 0) : headV l = none := by
 unfold headV
 rw [if_pos h]
theorem headV_eq {l : List UInt8} {p : Nat} (h : Lib.lastIndex l wDig = p) : headV l = match ordV (Lib.cut (l.drop (p + 16)) wIss).1, ordV (Lib.cut (l.drop (p + 16)) wIss).2.1 with
  | some v, some i => if titleB (l.take p) = true then some (l.take p, v, i) else none
  | _, _ => none := by
 unfold headV
 rw [h, if_neg (by omega)]
 rfl
theorem headV_len {l : List UInt8} {p : Nat} (h : Lib.lastIndex l wDig = p) : p + 16 ≤ l.length := by
 have := lastIndex_some (s := l) (sub := wDig) (by rw [h]; omega)
 rw [h] at this
 obtain ⟨t, ht⟩ := (occ_iff _ _ _).1 this
 have := congrArg List.length ht
 rw [List.length_drop, List.length_append] at this
 have hw : wDig.length = 16 := rfl
 simp only [Int.toNat_natCast] at this
 omega
set_option maxRecDepth 100000 in
set_option maxHeartbeats 4000000 in
theorem head_rd (b : Nat) (tl : List UInt8) (r : Go.Dg.Rd) (l : List UInt8) (w0 w : World) (h : RdM w0 w b tl r) (hl : l.length ≤ 1000000000) :
  Calls Tryz.prog 43 #[.pointer (some ⟨b, 0, none⟩), enS l] w fun e w' => e = .returned (.tuple #[enS (headR r l).1.1, i64 (headR r l).1.2.1, i64 (headR r l).1.2.2]) ∧ RdM w0 w' b tl (headR r l).2 ∧ But b w w' := by
 have H := Lib.hid h
 have c2 := blk_cell h.blk 2
 have hsz : (⟨l.toArray⟩ : ByteArray).size = l.length := by show l.toArray.size = _; simp
 have HLI : Hid (Calls Tryz.prog 85 #[enS l, enS wDig] w fun e w' => e = .returned (i64 (Lib.lastIndex l wDig)) ∧ w = w') := Lib.hid ((Tryz.strings_LastIndex ⟨l.toArray⟩ ⟨wDig.toArray⟩ (by rw [hsz]; omega) w).mono fun e w' ⟨h1, h2⟩ => ⟨by rw [h1], h2.symm⟩)
 have HFA := Lib.hid (fun u (hu : RdM w0 u b tl r) => fail_any b tl r 3 w0 u hu (by decide))
 obtain ⟨ls, n, e⟩ := r
 simp only at c2
 clear h
 go_enter Tryz.func43, Tryz.ntmps43
 go_wp2_with fail
 refine HLI.out.mono ?_; rintro e1 w1 ⟨rfl, rfl⟩
 by_cases he : e = 0
 case neg =>
  have hq : (e != 0) = true := by simpa using he
  have V : Hid (headR ⟨ls, n, e⟩ l = (([], 0, 0), ⟨ls, n, e⟩)) := Lib.hid (by (show _ = _); unfold headR; rw [if_pos he])
  have VF : Hid (failR ⟨ls, n, e⟩ 3 = ⟨ls, n, e⟩) := Lib.hid (by (show _ = _); unfold failR; rw [if_neg he])
  clear he
  go_wp2_with fail
  refine (HFA.out w H.out).mono ?_; rintro e1 w1 ⟨rfl, h1, h2⟩
  rw [VF.out] at h1
  have X1 := Lib.hid h1
  have X2 := Lib.hid h2
  clear h1 h2
  go_wp2_with fail
  go_ret3
  rw [V.out]
  exact ⟨rfl, X1.out, X2.out⟩
 case pos =>
  subst he
  have VE : Hid (headR ⟨ls, n, 0⟩ l = match headV l with | some v => (v, ⟨ls, n, 0⟩) | none => (([], 0, 0), ⟨ls, n, 3⟩)) := Lib.hid (by (show _ = _); unfold headR; rw [if_neg (by simp)]; cases headV l <;> rfl)
  by_cases hp : Lib.lastIndex l wDig < 0
  ·have V : Hid (headR ⟨ls, n, 0⟩ l = (([], 0, 0), ⟨ls, n, 3⟩)) := Lib.hid (by (show _ = _); rw [VE.out, headV_no hp])
   clear VE HLI
   generalize Lib.lastIndex l wDig = P at *
   go_wp2_with fail
   refine (HFA.out w H.out).mono ?_; rintro e1 w1 ⟨rfl, h1, h2⟩
   have X1 := Lib.hid h1
   have X2 := Lib.hid h2
   clear h1 h2
   go_wp2_with fail
   go_ret3
   rw [V.out]
   exact ⟨rfl, X1.out, X2.out⟩
  obtain ⟨p, hpe⟩ : ∃ p : Nat, Lib.lastIndex l wDig = p := ⟨(Lib.lastIndex l wDig).toNat, by omega⟩
  have h16 := headV_len hpe
  rw [headV_eq hpe] at VE
  rw [hpe]
  clear hp hpe HLI
  have hex := ext_drop l (p + 16)
  have htk := ext_take l p
  obtain ⟨m, hm⟩ := H.out.gl.ml
  have hcsz : (⟨(l.drop (p + 16)).toArray⟩ : ByteArray).size < 4294967281 := by
   show (l.drop (p + 16)).toArray.size < _
   rw [List.size_toArray, List.length_drop]; omega
  have HCUT : Hid (Calls Tryz.prog 87 #[enS (l.drop (p + 16)), enS wIss] w fun e w' => e = .returned (.tuple #[enS (Lib.cut (l.drop (p + 16)) wIss).1, enS (Lib.cut (l.drop (p + 16)) wIss).2.1, .bool (Lib.cut (l.drop (p + 16)) wIss).2.2]) ∧ Below w.heap.size w w') := Lib.hid ((Tryz.strings_Cut ⟨(l.drop (p + 16)).toArray⟩ ⟨wIss.toArray⟩ m w hcsz hm).mono fun e w' ⟨h1, d, h2⟩ => ⟨by rw [h1], by rw [h2]; exact (Below.refl _ _).drewN d⟩)
  have hcl : (Lib.cut (l.drop (p + 16)) wIss).1.length ≤ 1000000000 ∧ (Lib.cut (l.drop (p + 16)) wIss).2.1.length ≤ 1000000000 := by
   unfold Lib.cut
   split
   ·simp only [List.length_take, List.length_drop]; omega
   ·simp only [List.length_drop, List.length_nil]; omega
  clear hm hcsz
  generalize Lib.cut (l.drop (p + 16)) wIss = q at *
  obtain ⟨s1, s2, fd⟩ := q
  simp only at HCUT VE hcl
  obtain ⟨hs1, hs2⟩ := hcl
  go_wp2_with fail
  refine HCUT.out.mono ?_; rintro e1 w1 ⟨rfl, b1⟩
  have G1 := Lib.hid (H.out.gl.below b1)
  have R1 := Lib.hid (H.out.below b1)
  have U1 := Lib.hid (But.of_below (b := b) b1)
  clear b1 HCUT
  go_wp2_with fail
  refine (ordinal_any s1 w1 G1.out (by omega)).mono ?_; rintro e1 w2 ⟨rfl, b2⟩
  have G2 := Lib.hid (G1.out.below b2)
  have R2 := Lib.hid (R1.out.below b2)
  have U2 := Lib.hid (U1.out.trans (But.of_below (b := b) b2))
  clear b2
  go_wp2_with fail
  refine (ordinal_any s2 w2 G2.out (by omega)).mono ?_; rintro e1 w3 ⟨rfl, b3⟩
  have R3 := Lib.hid (R2.out.below b3)
  have U3 := Lib.hid (U2.out.trans (But.of_below (b := b) b3))
  clear b3
  generalize ordV s1 = o1 at *
  generalize ordV s2 = o2 at *
  have HTI := Lib.hid (fun u => isTitle_any (l.take p) u (by rw [List.length_take]; omega))
  go_wp2_with fail
  refine (HTI.out _).mono ?_; rintro e1 w4 ⟨rfl, rfl⟩
  have HFB : Hid (∀ Kq : Prop, Kq → Kq) := Lib.hid (fun _ h => h)
  clear HFB HTI
  have HFA3 := Lib.hid (HFA.out w3 R3.out)
  by_cases hgood : titleB (l.take p) = true ∧ o1.isSome = true ∧ o2.isSome = true
  ·obtain ⟨g1, g2, g3⟩ := hgood
   obtain ⟨v, rfl⟩ := Option.isSome_iff_exists.1 g2
   obtain ⟨i, rfl⟩ := Option.isSome_iff_exists.1 g3
   have V : Hid (headR ⟨ls, n, 0⟩ l = ((l.take p, v, i), ⟨ls, n, 0⟩)) := Lib.hid (by (show _ = _); rw [VE.out]; simp only [g1, if_true])
   rw [g1]
   clear g1 g2 g3 VE HFA HFA3
   go_wp2_with fail
   go_ret3
   rw [V.out]
   exact ⟨rfl, R3.out, U3.out⟩
  ·have V : Hid (headR ⟨ls, n, 0⟩ l = (([], 0, 0), ⟨ls, n, 3⟩)) := Lib.hid (by
    (show _ = _)
    rw [VE.out]
    cases o1 with
    | none => rfl
    | some v =>
     cases o2 with
     | none => rfl
     | some i =>
      have : ¬ titleB (l.take p) = true := fun h => hgood ⟨h, rfl, rfl⟩
      simp only [if_neg this])
   clear VE
   cases ht : titleB (l.take p) with
   | false =>
    clear ht hgood HFA
    go_wp2_with fail
    refine HFA3.out.mono ?_; rintro e1 w4 ⟨rfl, h1, h2⟩
    have X1 := Lib.hid h1
    have X2 := Lib.hid (U3.out.trans h2)
    clear h1 h2
    go_wp2_with fail
    go_ret3
    rw [V.out]
    exact ⟨rfl, X1.out, X2.out⟩
   | true =>
    cases ho1 : o1.isSome with
    | false =>
     clear ht hgood HFA ho1
     go_wp2_with fail
     refine HFA3.out.mono ?_; rintro e1 w4 ⟨rfl, h1, h2⟩
     have X1 := Lib.hid h1
     have X2 := Lib.hid (U3.out.trans h2)
     clear h1 h2
     go_wp2_with fail
     go_ret3
     rw [V.out]
     exact ⟨rfl, X1.out, X2.out⟩
    | true =>
     have ho2 : o2.isSome = false := by
      cases h : o2.isSome with
      | false => rfl
      | true => exact absurd ⟨ht, ho1, h⟩ hgood
     rw [ho2]
     clear ht hgood HFA ho1 ho2
     go_wp2_with fail
     refine HFA3.out.mono ?_; rintro e1 w4 ⟨rfl, h1, h2⟩
     have X1 := Lib.hid h1
     have X2 := Lib.hid (U3.out.trans h2)
     clear h1 h2
     go_wp2_with fail
     go_ret3
     rw [V.out]
     exact ⟨rfl, X1.out, X2.out⟩
theorem But.tailN {b : Nat} {w u v : World} (h : But b w u) (hb : Below w.heap.size u v) : But b w v :=
 ⟨hb.os.trans h.os, hb.tape.trans h.tape, hb.output.trans h.output, Nat.le_trans h.size hb.size, fun k hk hne => (hb.block k hk).trans (h.block k hk hne)⟩
theorem RdM.lt {w0 w : World} {b : Nat} {tl : List UInt8} {r : Go.Dg.Rd} (h : RdM w0 w b tl r) : b < w.heap.size := blk_lt h.blk
theorem RdM.belowN {w0 u v : World} {b N : Nat} {tl : List UInt8} {r : Go.Dg.Rd} (h : RdM w0 u b tl r) (hb : Below N u v) (hN : b < N) : RdM w0 v b tl r :=
 ⟨(hb.block b hN).trans h.blk, h.fr, h.ftl, h.sm, h.nb, h.g, h.hb, h.bel.trans (hb.mono (Nat.le_of_lt (Nat.lt_of_le_of_lt h.hb hN)))⟩
theorem own_but {u v : World} {base n size b : Nat} {e : TypeId} {val : Value} {xs : List Value} (h : u.ownsRow base e size val n xs) (hb : b < base) (hk : But b u v) : v.ownsRow base e size val n xs :=
 own_keep h fun k hk2 e2 => hk.block k hk2 (by have := (h.lt k e2).1; omega)
theorem entTrue : ∀ (args : Array Value) (u : World), (callFunc 92 args).run Tryz.prog u = .ok (.enter 92 args) u := enters_of Tryz.func92 (by kernel_rfl) rfl
theorem true_any (s : List UInt8) (w : World) : Calls Tryz.prog 92 #[enS s] w fun e w' => e = .returned (.bool true) ∧ w = w' := by
 go_enter Tryz.func92, Tryz.ntmps92
 go_wp2_with fail
 go_ret
 exact ⟨rfl, rfl⟩
def consS (acc : List (List UInt8)) (r : Go.Dg.Rd) : List (List UInt8) × Go.Dg.Rd := if r.e = 0 then consL r.ls r.n acc else (acc, r)
theorem consR_eq (r : Go.Dg.Rd) : consR r = consS [] r := by
 unfold consR consS
 by_cases h : r.e = 0
 ·rw [if_neg (by simpa using h), if_pos h]
 ·rw [if_pos h, if_neg h]
def mu (r : Go.Dg.Rd) : Nat := r.ls.length + (if r.e = 0 then 1 else 0)
set_option maxRecDepth 100000 in
set_option maxHeartbeats 8000000 in
theorem contents_rd (b : Nat) (tl : List UInt8) (r : Go.Dg.Rd) (w0 w : World) (h : RdM w0 w b tl r) :
  Calls Tryz.prog 47 #[.pointer (some ⟨b, 0, none⟩)] w fun e w' => (∃ v, e = .returned v ∧ w'.ownsRow w.heap.size 9 1 v (consR r).1.length ((consR r).1.map enS)) ∧ RdM w0 w' b tl (consR r).2 ∧ But b w w' := by
 have hbl := h.lt
 obtain ⟨X, hX⟩ : ∃ X, consR r = X := ⟨_, rfl⟩
 rw [hX]
 have I0 : Hid (RdM w0 w b tl r ∧ w.ownsRow w.heap.size 9 1 (.slice none 0 0) ([] : List (List UInt8)).length (([] : List (List UInt8)).map enS) ∧ But b w w ∧ consS [] r = X ∧ ([] : List (List UInt8)).length + r.ls.length ≤ 1000000000) := Lib.hid ⟨h, own2_nil _ _ _ _, But.refl _ _, by rw [← consR_eq]; exact hX, by have := h.nb.2; have := h.nb.1; simp only [List.length_nil]; split at * <;> omega⟩
 clear h hX
 go_enter Tryz.func47, Tryz.ntmps47
 go_wp2_with fail
 go_loopg [3] (mu r) (fun gg v wr => ∃ (acc : List (List UInt8)) (r' : Go.Dg.Rd), mu r' ≤ gg ∧ Hid (RdM w0 wr b tl r' ∧ wr.ownsRow w.heap.size 9 1 v acc.length (acc.map enS) ∧ But b w wr ∧ consS acc r' = X ∧ acc.length + r'.ls.length ≤ 1000000000))
 case atStart => exact ⟨[], r, Nat.le_refl _, I0⟩
 case round =>
  obtain ⟨acc, r', hg, II⟩ := hrel
  clear I0
  have HN := Lib.hid (next_any b tl r' w0 wr II.out.1)
  go_wp2_with fail
  refine HN.out.mono ?_; rintro e1 w1 ⟨rfl, h1, h2⟩
  have R1 := Lib.hid h1
  have O1 := Lib.hid (own_but II.out.2.1 hbl h2)
  have U1 := Lib.hid (II.out.2.2.1.trans h2)
  have HX := Lib.hid II.out.2.2.2.1
  have hal := II.out.2.2.2.2
  clear h1 h2 HN II
  obtain ⟨ls, n, e⟩ := r'
  by_cases he : e = 0
  case neg =>
   have hq : (e != 0) = true := by simpa using he
   have V : Hid (nextR ⟨ls, n, e⟩ = ([], ⟨ls, n, e⟩)) := Lib.hid (if_pos he)
   have HXV : Hid (X = (acc, ⟨ls, n, e⟩)) := Lib.hid (by (show _ = _); rw [← HX.out]; unfold consS; rw [if_neg he])
   rw [V.out] at R1 ⊢
   have c2 := blk_cell R1.out.blk 2
   obtain ⟨A2, d2, rfl⟩ := own2_slice O1.out
   simp only at c2
   clear he
   go_wp2_with fail
   go_ret
   exact ⟨⟨_, rfl, by rw [HXV.out]; exact O1.out⟩, by rw [HXV.out]; exact R1.out, U1.out⟩
  case pos =>
   subst he
   cases ls with
   | nil =>
    have V : Hid (nextR ⟨[], n, 0⟩ = ([], ⟨[], n + 1, 4⟩)) := Lib.hid (by (show _ = _); rfl)
    have HXV : Hid (X = (acc, ⟨[], n + 1, 4⟩)) := Lib.hid (by (show _ = _); rw [← HX.out]; rfl)
    rw [V.out] at R1 ⊢
    have c2 := blk_cell R1.out.blk 2
    obtain ⟨A2, d2, rfl⟩ := own2_slice O1.out
    simp only at c2
    go_wp2_with fail
    go_ret
    exact ⟨⟨_, rfl, by rw [HXV.out]; exact O1.out⟩, by rw [HXV.out]; exact R1.out, U1.out⟩
   | cons l ls =>
    have V : Hid (nextR ⟨l :: ls, n, 0⟩ = (l, ⟨ls, n + 1, 0⟩)) := Lib.hid (by (show _ = _); rfl)
    rw [V.out] at R1 ⊢
    have c2 := blk_cell R1.out.blk 2
    simp only at c2
    by_cases hs : l = sepT
    ·have HXV : Hid (X = (acc, ⟨ls, n + 1, 0⟩)) := Lib.hid (by (show _ = _); rw [← HX.out]; (show consL (l :: ls) n acc = _); unfold consL; rw [if_pos hs])
     obtain ⟨A2, d2, rfl⟩ := own2_slice O1.out
     have hq : (l == ([45, 45, 45, 45, 45, 45, 45, 45, 45, 45, 45, 45, 45, 45, 45, 45, 45, 45, 45, 45, 45, 45, 45, 45, 45, 45, 45, 45, 45, 45] : List UInt8)) = true := by rw [hs]; decide
     clear hs
     go_wp2_with fail
     go_ret
     exact ⟨⟨_, rfl, by rw [HXV.out]; exact O1.out⟩, by rw [HXV.out]; exact R1.out, U1.out⟩
    ·have hq : (l == ([45, 45, 45, 45, 45, 45, 45, 45, 45, 45, 45, 45, 45, 45, 45, 45, 45, 45, 45, 45, 45, 45, 45, 45, 45, 45, 45, 45, 45, 45] : List UInt8)) = false := by
      cases h : (l == ([45, 45, 45, 45, 45, 45, 45, 45, 45, 45, 45, 45, 45, 45, 45, 45, 45, 45, 45, 45, 45, 45, 45, 45, 45, 45, 45, 45, 45, 45] : List UInt8)) with
      | false => rfl
      | true => exact absurd (eq_of_beq h) hs
     have HXV : Hid (X = consS (acc ++ [(valueR ⟨ls, n + 1, 0⟩ l wSp fun _ => true).1]) (valueR ⟨ls, n + 1, 0⟩ l wSp fun _ => true).2) := Lib.hid (by
      (show _ = _)
      rw [← HX.out]
      (show consL (l :: ls) n acc = _)
      unfold consL valueR
      rw [if_neg hs]
      by_cases hp : wSp.isPrefixOf l = true
      ·rw [if_pos hp, if_pos ⟨rfl, hp, rfl⟩]; rfl
      ·rw [if_neg hp, if_neg fun h => hp h.2.1]; rfl)
     have HM : Hid (mu (valueR ⟨ls, n + 1, 0⟩ l wSp fun _ => true).2 < mu ⟨l :: ls, n, 0⟩ ∧ (valueR ⟨ls, n + 1, 0⟩ l wSp fun _ => true).2.ls = ls) := Lib.hid (by
      unfold valueR
      by_cases hp : wSp.isPrefixOf l = true
      ·rw [if_pos ⟨rfl, hp, rfl⟩]; simp [mu]
      ·rw [if_neg fun h => hp h.2.1]; simp [mu, failR]; omega)
     have HVL := Lib.hid (value_any b tl ⟨ls, n + 1, 0⟩ l wSp (fun _ => true) 92 #[] w0 w1 R1.out entTrue (fun u => But b w1 u) (fun u => But b w1 u) (But.refl _ _) (fun _ _ h k => h.trans k) fun _ _ => by
      refine (true_any _ w1).mono ?_
      rintro e w' ⟨rfl, rfl⟩
      exact ⟨rfl, R1.out, fun _ => But.refl _ _, fun _ => But.refl _ _⟩)
     clear hs HX
     go_wp2_with fail
     refine HVL.out.mono ?_; rintro e2 w2 ⟨rfl, h1, h2, h3⟩
     have hu : But b w1 w2 := by by_cases h : OkV ⟨ls, n + 1, 0⟩ l wSp (fun _ => true); exact h2 h; exact h3 h
     have R2 := Lib.hid h1
     have O2 := Lib.hid (own_but O1.out hbl hu)
     have U2 := Lib.hid (U1.out.trans hu)
     have hal2 : acc.length + ls.length + 1 ≤ 1000000000 := by simp only [List.length_cons] at hal; omega
     clear h1 h2 h3 hu HVL R1 O1 U1 hq c2 hal
     generalize valueR ⟨ls, n + 1, 0⟩ l wSp (fun _ => true) = q at *
     obtain ⟨y, r3⟩ := q
     simp only at HXV HM R2
     have hb2 : w.heap.size ≤ w2.heap.size := U2.out.size
     go_wp2_with (first | (at_builtin; refine wpList_app1 _ rfl _ _ rfl w.heap.size _ _ y O2.out rfl rfl (by omega) hb2 ?_; intro v6 w6 o6 b6))
     have IN : Hid (RdM w0 w6 b tl r3 ∧ w6.ownsRow w.heap.size 9 1 v6 (acc ++ [y]).length ((acc ++ [y]).map enS) ∧ But b w w6 ∧ consS (acc ++ [y]) r3 = X ∧ (acc ++ [y]).length + r3.ls.length ≤ 1000000000) := Lib.hid ⟨R2.out.belowN b6 hbl, o6, U2.out.tailN b6, HXV.out.symm, by rw [HM.out.2, List.length_append, List.length_singleton]; omega⟩
     clear o6 b6 O2 U2 R2
     have hmm := HM.out.1
     go_roundg (mu r3)
     case measure => omega
     case rel => exact ⟨acc ++ [y], r3, Nat.le_refl _, IN⟩
end Go.Proofs.YtlchcjnbbhpiaaaGreatDoor
namespace Go.Dg
open Go.Lib
theorem join_lens (ps : List (List UInt8)) : (join ps [10]).length ≤ lens ps + ps.length := by
 cases ps with
 | nil => simp [join_nil]
 | cons p r =>
  rw [join_length]
  simp only [List.length_cons, List.length_nil]
  omega
theorem lens_snoc (ps : List (List UInt8)) (p : List UInt8) : lens (ps ++ [p]) = lens ps + p.length := by simp [lens]
def bodyS (ps : List (List UInt8)) (r : Rd) : List (List UInt8) × Rd := if r.e = 0 then bodyL r.ls r.n ps else (ps, r)
theorem bodyR_eq (r : Rd) : bodyR r = (join (bodyS [] r).1 [10], (bodyS [] r).2) := by
 unfold bodyR bodyS
 by_cases h : r.e = 0
 ·rw [if_neg (by simpa using h), if_pos h]
 ·rw [if_pos h, if_neg h]; rfl
theorem unprot_len {l p : List UInt8} (h : unprot l = some p) : p.length ≤ l.length := by
 unfold unprot at h
 split at h
 ·split at h
  ·cases h; rw [List.length_drop]; omega
  ·cases h
 ·cases h; exact Nat.le_refl _
end Go.Dg
namespace Go.Proofs.YtlchcjnbbhpiaaaGreatDoor
open Go.RowKit Go.Shelf Go.Dg
set_option maxRecDepth 100000 in
set_option maxHeartbeats 8000000 in
theorem body_rd (b : Nat) (tl : List UInt8) (r : Go.Dg.Rd) (w0 w : World) (h : RdM w0 w b tl r) :
  Calls Tryz.prog 98 #[.pointer (some ⟨b, 0, none⟩)] w fun e w' => e = .returned (enS (bodyR r).1) ∧ RdM w0 w' b tl (bodyR r).2 ∧ But b w w' := by
 have hbl := h.lt
 obtain ⟨X, hX⟩ : ∃ X, bodyS [] r = X := ⟨_, rfl⟩
 rw [bodyR_eq, hX]
 have I0 : Hid (RdM w0 w b tl r ∧ w.ownsRow w.heap.size 9 1 (.slice none 0 0) ([] : List (List UInt8)).length (([] : List (List UInt8)).map enS) ∧ But b w w ∧ bodyS [] r = X ∧ (([] : List (List UInt8)).length + r.ls.length ≤ 1000000000 ∧ Lib.lens ([] : List (List UInt8)) + (unl r.ls).length ≤ 1000000000)) := Lib.hid ⟨h, own2_nil _ _ _ _, But.refl _ _, hX, by have := h.nb.2; have := h.nb.1; simp only [List.length_nil]; split at * <;> omega, by have := h.sm; rw [List.length_append] at this; simp only [Lib.lens, List.map_nil, List.sum_nil]; omega⟩
 clear h hX
 go_enter Tryz.func98, Tryz.ntmps98
 go_wp2_with fail
 go_loopg [3] (mu r) (fun gg v wr => ∃ (ps : List (List UInt8)) (r' : Go.Dg.Rd), mu r' ≤ gg ∧ Hid (RdM w0 wr b tl r' ∧ wr.ownsRow w.heap.size 9 1 v ps.length (ps.map enS) ∧ But b w wr ∧ bodyS ps r' = X ∧ (ps.length + r'.ls.length ≤ 1000000000 ∧ Lib.lens ps + (unl r'.ls).length ≤ 1000000000)))
 case atStart => exact ⟨[], r, Nat.le_refl _, I0⟩
 case round =>
  obtain ⟨ps, r', hg, II⟩ := hrel
  clear I0
  have HN := Lib.hid (next_any b tl r' w0 wr II.out.1)
  go_wp2_with fail
  refine HN.out.mono ?_; rintro e1 w1 ⟨rfl, h1, h2⟩
  have R1 := Lib.hid h1
  have O1 := Lib.hid (own_but II.out.2.1 hbl h2)
  have U1 := Lib.hid (II.out.2.2.1.trans h2)
  have HX := Lib.hid II.out.2.2.2.1
  obtain ⟨hal, hal3⟩ := II.out.2.2.2.2
  clear h1 h2 HN II
  obtain ⟨ls, n, e⟩ := r'
  simp only at hal hal3
  obtain ⟨A2, d2, rfl⟩ := own2_slice O1.out
  by_cases he : e = 0
  case neg =>
   have hq : (e != 0) = true := by simpa using he
   have V : Hid (nextR ⟨ls, n, e⟩ = ([], ⟨ls, n, e⟩)) := Lib.hid (if_pos he)
   have HXV : Hid (X = (ps, ⟨ls, n, e⟩)) := Lib.hid (by (show _ = _); rw [← HX.out]; unfold bodyS; rw [if_neg he])
   rw [V.out] at R1 ⊢
   have c2 := blk_cell R1.out.blk 2
   simp only at c2
   clear he
   go_wp2_with fail
   refine (join_any2 A2 d2 ps [10] w1 (Rd.of_own O1.out).1 (by omega) (Rd.of_own O1.out).2.2 (by have := join_lens ps; omega)).mono ?_; rintro e3 w3 ⟨rfl, b3⟩
   have R3 := Lib.hid (R1.out.below b3)
   have U3 := Lib.hid (U1.out.trans (But.of_below (b := b) b3))
   clear b3
   go_wp2_with fail
   go_ret
   exact ⟨by rw [HXV.out]; rfl, by rw [HXV.out]; exact R3.out, U3.out⟩
  case pos =>
   subst he
   cases ls with
   | nil =>
    have V : Hid (nextR ⟨[], n, 0⟩ = ([], ⟨[], n + 1, 4⟩)) := Lib.hid (by (show _ = _); rfl)
    have HXV : Hid (X = (ps, ⟨[], n + 1, 4⟩)) := Lib.hid (by (show _ = _); rw [← HX.out]; rfl)
    rw [V.out] at R1 ⊢
    have c2 := blk_cell R1.out.blk 2
    simp only at c2
    go_wp2_with fail
    refine (join_any2 A2 d2 ps [10] w1 (Rd.of_own O1.out).1 (by omega) (Rd.of_own O1.out).2.2 (by have := join_lens ps; omega)).mono ?_; rintro e3 w3 ⟨rfl, b3⟩
    have R3 := Lib.hid (R1.out.below b3)
    have U3 := Lib.hid (U1.out.trans (But.of_below (b := b) b3))
    clear b3
    go_wp2_with fail
    go_ret
    exact ⟨by rw [HXV.out]; rfl, by rw [HXV.out]; exact R3.out, U3.out⟩
   | cons l ls =>
    have V : Hid (nextR ⟨l :: ls, n, 0⟩ = (l, ⟨ls, n + 1, 0⟩)) := Lib.hid (by (show _ = _); rfl)
    rw [V.out] at R1 ⊢
    have c2 := blk_cell R1.out.blk 2
    simp only at c2
    by_cases hs : l = sepT ∧ ps ≠ []
    ·have HXV : Hid (X = (ps, ⟨ls, n + 1, 0⟩)) := Lib.hid (by (show _ = _); rw [← HX.out]; (show bodyL (l :: ls) n ps = _); unfold bodyL; rw [if_pos hs])
     have hq : (l == ([45, 45, 45, 45, 45, 45, 45, 45, 45, 45, 45, 45, 45, 45, 45, 45, 45, 45, 45, 45, 45, 45, 45, 45, 45, 45, 45, 45, 45, 45] : List UInt8)) = true := by rw [hs.1]; decide
     have hpl : 0 < ps.length := List.length_pos_iff.2 hs.2
     clear hs
     go_wp2_with fail
     refine (join_any2 A2 d2 ps [10] w1 (Rd.of_own O1.out).1 (by omega) (Rd.of_own O1.out).2.2 (by have := join_lens ps; omega)).mono ?_; rintro e3 w3 ⟨rfl, b3⟩
     have R3 := Lib.hid (R1.out.below b3)
     have U3 := Lib.hid (U1.out.trans (But.of_below (b := b) b3))
     clear b3
     go_wp2_with fail
     go_ret
     exact ⟨by rw [HXV.out]; rfl, by rw [HXV.out]; exact R3.out, U3.out⟩
    ·have hs0 := Lib.hid hs
     have hul : (unl (l :: ls)).length = l.length + (unl ls).length + 1 := by rw [unl_cons, List.length_append, List.length_cons]; omega
     rw [hul] at hal3
     rw [List.length_cons] at hal
     clear hul
     by_cases hl : l = sepT
     ·have hq : (l == ([45, 45, 45, 45, 45, 45, 45, 45, 45, 45, 45, 45, 45, 45, 45, 45, 45, 45, 45, 45, 45, 45, 45, 45, 45, 45, 45, 45, 45, 45] : List UInt8)) = true := by rw [hl]; decide
      have hpl : ps.length = 0 := by
       cases ps with
       | nil => rfl
       | cons x y => exact absurd ⟨hl, by simp⟩ hs
      have hq3 : decide (0 < ps.length) = false := by rw [hpl]; rfl
      clear hl hs hpl
      have HU := Lib.hid (unprotect_any l w1 (by omega))
      go_upto_if 22 with fail
      generalize Value.slice A2 ps.length d2 = v3 at *
      go_wp2_with fail
      refine HU.out.mono ?_; rintro e4 w4 ⟨rfl, rfl⟩
      unfold unV
      cases hu : unprot l with
      | none =>
       have HXV : Hid (X = bodyS (ps ++ [[]]) ⟨ls, n + 1, 3⟩) := Lib.hid (by
        (show _ = _)
        rw [← HX.out]
        (show bodyL (l :: ls) n ps = _)
        unfold bodyL
        rw [if_neg hs0.out, hu]; rfl)
       have HFA := Lib.hid (fail_any b tl ⟨ls, n + 1, 0⟩ 3 w0 w1 R1.out (by decide))
       clear hu HX HU
       go_wp2_with fail
       refine HFA.out.mono ?_; rintro e5 w5 ⟨rfl, h1, h2⟩
       have R5 : Hid (RdM w0 w5 b tl ⟨ls, n + 1, 3⟩) := Lib.hid h1
       have O5 := Lib.hid (own_but O1.out hbl h2)
       have U5 := Lib.hid (U1.out.trans h2)
       clear h1 h2 HFA
       have hb2 : w.heap.size ≤ w5.heap.size := U5.out.size
       go_wp2_with (first | (at_builtin; refine wpList_app1 _ rfl _ _ rfl w.heap.size _ _ ([]) O5.out rfl rfl (by omega) hb2 ?_; intro v6 w6 o6 b6))
       have IN : Hid (RdM w0 w6 b tl (Go.Dg.Rd.mk ls (n + 1) 3) ∧ w6.ownsRow w.heap.size 9 1 v6 (ps ++ [[]]).length ((ps ++ [[]]).map enS) ∧ But b w w6 ∧ bodyS (ps ++ [[]]) (Go.Dg.Rd.mk ls (n + 1) 3) = X ∧ ((ps ++ [[]]).length + (Go.Dg.Rd.mk ls (n + 1) 3).ls.length ≤ 1000000000 ∧ Lib.lens (ps ++ [[]]) + (unl (Go.Dg.Rd.mk ls (n + 1) 3).ls).length ≤ 1000000000)) := Lib.hid ⟨R5.out.belowN b6 hbl, o6, U5.out.tailN b6, HXV.out.symm, by rw [List.length_append, List.length_singleton]; (show _ + ls.length ≤ _); omega, by rw [lens_snoc]; (show _ + (unl ls).length ≤ _); simp only [List.length_nil]; omega⟩
       clear o6 b6
       go_roundg (mu (Go.Dg.Rd.mk ls (n + 1) 3))
       case measure => (show mu (Go.Dg.Rd.mk ls (n + 1) 3) < _); simp only [mu, List.length_cons, if_true, if_neg (show ¬ (3 : Int) = 0 by decide)] at hg ⊢; omega
       case rel => exact ⟨ps ++ [[]], ⟨ls, n + 1, 3⟩, Nat.le_refl _, IN⟩
      | some p =>
       have hpl2 := unprot_len hu
       have HH := Lib.hid (has13_any l w1)
       have HXW : Hid (X = if has13 l = true then (ps ++ [p], ⟨ls, n + 1, 3⟩) else bodyL ls (n + 1) (ps ++ [p])) := Lib.hid (by
        (show _ = _)
        rw [← HX.out]
        (show bodyL (l :: ls) n ps = _)
        rw [bodyL]
        rw [if_neg hs0.out, hu])
       clear hu HX HU
       go_wp2_with fail
       refine HH.out.mono ?_; rintro e5 w5 ⟨rfl, rfl⟩
       cases h13 : has13 l with
       | true =>
        have HXV : Hid (X = bodyS (ps ++ [p]) ⟨ls, n + 1, 3⟩) := Lib.hid (by (show _ = _); rw [HXW.out, if_pos h13]; rfl)
        have HFA := Lib.hid (fail_any b tl ⟨ls, n + 1, 0⟩ 3 w0 w1 R1.out (by decide))
        clear h13 HXW HH
        go_wp2_with fail
        refine HFA.out.mono ?_; rintro e5 w5 ⟨rfl, h1, h2⟩
        have R5 : Hid (RdM w0 w5 b tl ⟨ls, n + 1, 3⟩) := Lib.hid h1
        have O5 := Lib.hid (own_but O1.out hbl h2)
        have U5 := Lib.hid (U1.out.trans h2)
        clear h1 h2 HFA
        have hb2 : w.heap.size ≤ w5.heap.size := U5.out.size
        go_wp2_with (first | (at_builtin; refine wpList_app1 _ rfl _ _ rfl w.heap.size _ _ (p) O5.out rfl rfl (by omega) hb2 ?_; intro v6 w6 o6 b6))
        have IN : Hid (RdM w0 w6 b tl (Go.Dg.Rd.mk ls (n + 1) 3) ∧ w6.ownsRow w.heap.size 9 1 v6 (ps ++ [p]).length ((ps ++ [p]).map enS) ∧ But b w w6 ∧ bodyS (ps ++ [p]) (Go.Dg.Rd.mk ls (n + 1) 3) = X ∧ ((ps ++ [p]).length + (Go.Dg.Rd.mk ls (n + 1) 3).ls.length ≤ 1000000000 ∧ Lib.lens (ps ++ [p]) + (unl (Go.Dg.Rd.mk ls (n + 1) 3).ls).length ≤ 1000000000)) := Lib.hid ⟨R5.out.belowN b6 hbl, o6, U5.out.tailN b6, HXV.out.symm, by rw [List.length_append, List.length_singleton]; (show _ + ls.length ≤ _); omega, by rw [lens_snoc]; (show _ + (unl ls).length ≤ _); omega⟩
        clear o6 b6
        go_roundg (mu (Go.Dg.Rd.mk ls (n + 1) 3))
        case measure => (show mu (Go.Dg.Rd.mk ls (n + 1) 3) < _); simp only [mu, List.length_cons, if_true, if_neg (show ¬ (3 : Int) = 0 by decide)] at hg ⊢; omega
        case rel => exact ⟨ps ++ [p], ⟨ls, n + 1, 3⟩, Nat.le_refl _, IN⟩
       | false =>
        have HXV : Hid (X = bodyS (ps ++ [p]) ⟨ls, n + 1, 0⟩) := Lib.hid (by (show _ = _); rw [HXW.out, if_neg (by rw [h13]; decide)]; rfl)
        clear h13 HXW HH
        have hb2 : w.heap.size ≤ w1.heap.size := U1.out.size
        go_wp2_with (first | (at_builtin; refine wpList_app1 _ rfl _ _ rfl w.heap.size _ _ (p) O1.out rfl rfl (by omega) hb2 ?_; intro v6 w6 o6 b6))
        have IN : Hid (RdM w0 w6 b tl (Go.Dg.Rd.mk ls (n + 1) 0) ∧ w6.ownsRow w.heap.size 9 1 v6 (ps ++ [p]).length ((ps ++ [p]).map enS) ∧ But b w w6 ∧ bodyS (ps ++ [p]) (Go.Dg.Rd.mk ls (n + 1) 0) = X ∧ ((ps ++ [p]).length + (Go.Dg.Rd.mk ls (n + 1) 0).ls.length ≤ 1000000000 ∧ Lib.lens (ps ++ [p]) + (unl (Go.Dg.Rd.mk ls (n + 1) 0).ls).length ≤ 1000000000)) := Lib.hid ⟨R1.out.belowN b6 hbl, o6, U1.out.tailN b6, HXV.out.symm, by rw [List.length_append, List.length_singleton]; (show _ + ls.length ≤ _); omega, by rw [lens_snoc]; (show _ + (unl ls).length ≤ _); omega⟩
        clear o6 b6
        go_roundg (mu (Go.Dg.Rd.mk ls (n + 1) 0))
        case measure => (show mu (Go.Dg.Rd.mk ls (n + 1) 0) < _); simp only [mu, List.length_cons, if_true] at hg ⊢; omega
        case rel => exact ⟨ps ++ [p], ⟨ls, n + 1, 0⟩, Nat.le_refl _, IN⟩
     ·have hq : (l == ([45, 45, 45, 45, 45, 45, 45, 45, 45, 45, 45, 45, 45, 45, 45, 45, 45, 45, 45, 45, 45, 45, 45, 45, 45, 45, 45, 45, 45, 45] : List UInt8)) = false := by
       cases h : (l == ([45, 45, 45, 45, 45, 45, 45, 45, 45, 45, 45, 45, 45, 45, 45, 45, 45, 45, 45, 45, 45, 45, 45, 45, 45, 45, 45, 45, 45, 45] : List UInt8)) with
       | false => rfl
       | true => exact absurd (eq_of_beq h) hl
      clear hl hs
      have HU := Lib.hid (unprotect_any l w1 (by omega))
      go_upto_if 22 with fail
      generalize Value.slice A2 ps.length d2 = v3 at *
      go_wp2_with fail
      refine HU.out.mono ?_; rintro e4 w4 ⟨rfl, rfl⟩
      unfold unV
      cases hu : unprot l with
      | none =>
       have HXV : Hid (X = bodyS (ps ++ [[]]) ⟨ls, n + 1, 3⟩) := Lib.hid (by
        (show _ = _)
        rw [← HX.out]
        (show bodyL (l :: ls) n ps = _)
        unfold bodyL
        rw [if_neg hs0.out, hu]; rfl)
       have HFA := Lib.hid (fail_any b tl ⟨ls, n + 1, 0⟩ 3 w0 w1 R1.out (by decide))
       clear hu HX HU
       go_wp2_with fail
       refine HFA.out.mono ?_; rintro e5 w5 ⟨rfl, h1, h2⟩
       have R5 : Hid (RdM w0 w5 b tl ⟨ls, n + 1, 3⟩) := Lib.hid h1
       have O5 := Lib.hid (own_but O1.out hbl h2)
       have U5 := Lib.hid (U1.out.trans h2)
       clear h1 h2 HFA
       have hb2 : w.heap.size ≤ w5.heap.size := U5.out.size
       go_wp2_with (first | (at_builtin; refine wpList_app1 _ rfl _ _ rfl w.heap.size _ _ ([]) O5.out rfl rfl (by omega) hb2 ?_; intro v6 w6 o6 b6))
       have IN : Hid (RdM w0 w6 b tl (Go.Dg.Rd.mk ls (n + 1) 3) ∧ w6.ownsRow w.heap.size 9 1 v6 (ps ++ [[]]).length ((ps ++ [[]]).map enS) ∧ But b w w6 ∧ bodyS (ps ++ [[]]) (Go.Dg.Rd.mk ls (n + 1) 3) = X ∧ ((ps ++ [[]]).length + (Go.Dg.Rd.mk ls (n + 1) 3).ls.length ≤ 1000000000 ∧ Lib.lens (ps ++ [[]]) + (unl (Go.Dg.Rd.mk ls (n + 1) 3).ls).length ≤ 1000000000)) := Lib.hid ⟨R5.out.belowN b6 hbl, o6, U5.out.tailN b6, HXV.out.symm, by rw [List.length_append, List.length_singleton]; (show _ + ls.length ≤ _); omega, by rw [lens_snoc]; (show _ + (unl ls).length ≤ _); simp only [List.length_nil]; omega⟩
       clear o6 b6
       go_roundg (mu (Go.Dg.Rd.mk ls (n + 1) 3))
       case measure => (show mu (Go.Dg.Rd.mk ls (n + 1) 3) < _); simp only [mu, List.length_cons, if_true, if_neg (show ¬ (3 : Int) = 0 by decide)] at hg ⊢; omega
       case rel => exact ⟨ps ++ [[]], ⟨ls, n + 1, 3⟩, Nat.le_refl _, IN⟩
      | some p =>
       have hpl2 := unprot_len hu
       have HH := Lib.hid (has13_any l w1)
       have HXW : Hid (X = if has13 l = true then (ps ++ [p], ⟨ls, n + 1, 3⟩) else bodyL ls (n + 1) (ps ++ [p])) := Lib.hid (by
        (show _ = _)
        rw [← HX.out]
        (show bodyL (l :: ls) n ps = _)
        rw [bodyL]
        rw [if_neg hs0.out, hu])
       clear hu HX HU
       go_wp2_with fail
       refine HH.out.mono ?_; rintro e5 w5 ⟨rfl, rfl⟩
       cases h13 : has13 l with
       | true =>
        have HXV : Hid (X = bodyS (ps ++ [p]) ⟨ls, n + 1, 3⟩) := Lib.hid (by (show _ = _); rw [HXW.out, if_pos h13]; rfl)
        have HFA := Lib.hid (fail_any b tl ⟨ls, n + 1, 0⟩ 3 w0 w1 R1.out (by decide))
        clear h13 HXW HH
        go_wp2_with fail
        refine HFA.out.mono ?_; rintro e5 w5 ⟨rfl, h1, h2⟩
        have R5 : Hid (RdM w0 w5 b tl ⟨ls, n + 1, 3⟩) := Lib.hid h1
        have O5 := Lib.hid (own_but O1.out hbl h2)
        have U5 := Lib.hid (U1.out.trans h2)
        clear h1 h2 HFA
        have hb2 : w.heap.size ≤ w5.heap.size := U5.out.size
        go_wp2_with (first | (at_builtin; refine wpList_app1 _ rfl _ _ rfl w.heap.size _ _ (p) O5.out rfl rfl (by omega) hb2 ?_; intro v6 w6 o6 b6))
        have IN : Hid (RdM w0 w6 b tl (Go.Dg.Rd.mk ls (n + 1) 3) ∧ w6.ownsRow w.heap.size 9 1 v6 (ps ++ [p]).length ((ps ++ [p]).map enS) ∧ But b w w6 ∧ bodyS (ps ++ [p]) (Go.Dg.Rd.mk ls (n + 1) 3) = X ∧ ((ps ++ [p]).length + (Go.Dg.Rd.mk ls (n + 1) 3).ls.length ≤ 1000000000 ∧ Lib.lens (ps ++ [p]) + (unl (Go.Dg.Rd.mk ls (n + 1) 3).ls).length ≤ 1000000000)) := Lib.hid ⟨R5.out.belowN b6 hbl, o6, U5.out.tailN b6, HXV.out.symm, by rw [List.length_append, List.length_singleton]; (show _ + ls.length ≤ _); omega, by rw [lens_snoc]; (show _ + (unl ls).length ≤ _); omega⟩
        clear o6 b6
        go_roundg (mu (Go.Dg.Rd.mk ls (n + 1) 3))
        case measure => (show mu (Go.Dg.Rd.mk ls (n + 1) 3) < _); simp only [mu, List.length_cons, if_true, if_neg (show ¬ (3 : Int) = 0 by decide)] at hg ⊢; omega
        case rel => exact ⟨ps ++ [p], ⟨ls, n + 1, 3⟩, Nat.le_refl _, IN⟩
       | false =>
        have HXV : Hid (X = bodyS (ps ++ [p]) ⟨ls, n + 1, 0⟩) := Lib.hid (by (show _ = _); rw [HXW.out, if_neg (by rw [h13]; decide)]; rfl)
        clear h13 HXW HH
        have hb2 : w.heap.size ≤ w1.heap.size := U1.out.size
        go_wp2_with (first | (at_builtin; refine wpList_app1 _ rfl _ _ rfl w.heap.size _ _ (p) O1.out rfl rfl (by omega) hb2 ?_; intro v6 w6 o6 b6))
        have IN : Hid (RdM w0 w6 b tl (Go.Dg.Rd.mk ls (n + 1) 0) ∧ w6.ownsRow w.heap.size 9 1 v6 (ps ++ [p]).length ((ps ++ [p]).map enS) ∧ But b w w6 ∧ bodyS (ps ++ [p]) (Go.Dg.Rd.mk ls (n + 1) 0) = X ∧ ((ps ++ [p]).length + (Go.Dg.Rd.mk ls (n + 1) 0).ls.length ≤ 1000000000 ∧ Lib.lens (ps ++ [p]) + (unl (Go.Dg.Rd.mk ls (n + 1) 0).ls).length ≤ 1000000000)) := Lib.hid ⟨R1.out.belowN b6 hbl, o6, U1.out.tailN b6, HXV.out.symm, by rw [List.length_append, List.length_singleton]; (show _ + ls.length ≤ _); omega, by rw [lens_snoc]; (show _ + (unl ls).length ≤ _); omega⟩
        clear o6 b6
        go_roundg (mu (Go.Dg.Rd.mk ls (n + 1) 0))
        case measure => (show mu (Go.Dg.Rd.mk ls (n + 1) 0) < _); simp only [mu, List.length_cons, if_true] at hg ⊢; omega
        case rel => exact ⟨ps ++ [p], ⟨ls, n + 1, 0⟩, Nat.le_refl _, IN⟩
end Go.Proofs.YtlchcjnbbhpiaaaGreatDoor
