/- Contract of Zone of package date. -/
import Derived.Test.YtpdncgfkoibacaaDoorZones
import Derived.Test.YtpdncgfkoibacaaDoorSkip
namespace Go.Proofs.YtpdncgfkoibacaaDoor
open Go.RowKit Go.Maps Go.WideMaps

theorem zoneD_eq : zoneD = .map (zoneTab.map fun r => (.string r.1, .lit (.int .i64 r.2))) := rfl
theorem look_list (l : List UInt8) : ∀ (tab : List (List UInt8 × Int)),
    Maps.has (H := Unit) (.map (tab.map fun r => (.string r.1, .lit (.int .i64 r.2)))) (.string l) = (tab.find? fun r => r.1 == l).isSome ∧
    (DataW.map (H := Unit) (tab.map fun r => (.string r.1, .lit (.int .i64 r.2)))).atKey (.string l) (.lit (.int .i64 0)) = .lit (.int .i64 (((tab.find? fun r => r.1 == l).map (·.2)).getD 0))
  | [] => ⟨rfl, rfl⟩
  | (k, v) :: tab => by
    have ih := look_list l tab
    cases h : (k == l) with
    | true => simp [Maps.has, DataW.atKey, Lit.sameKey, h]
    | false =>
      simp only [Maps.has, DataW.atKey, List.map_cons, List.any_cons, List.find?_cons, Lit.sameKey, h] at ih ⊢
      simpa using ih
theorem zone_look (l : List UInt8) : Maps.has zoneD (.string l) = (zoneTab.find? fun r => r.1 == l).isSome ∧ zoneD.atKey (.string l) (.lit (.int .i64 0)) = .lit (.int .i64 (((zoneTab.find? fun r => r.1 == l).map (·.2)).getD 0)) := by
  rw [zoneD_eq]; exact look_list l zoneTab
theorem lit_inj {a b : Int} (h : (.lit (.int .i64 a) : DataW Unit) = .lit (.int .i64 b)) : a = b := by injection h with h; injection h
theorem zero3 (w : World) : (zeroValue 3).run Tryd.prog w = .ok (.int .i64 0) w := by kernel_rfl

/-- The look-up in the map of the zones. -/
theorem zone_run {w0 w w' : World} {b : Nat} (l : List UInt8) (hl : l.length ≤ 1000) (hz : Zst w0 w b 12 zoneD) (hb : Below w.heap.size w w') :
    (Instr.lookup 83 (.map (some b)) (.string ⟨l.toArray⟩) true).run Tryd.prog w' = .ok (.tuple #[.int .i64 (((zoneTab.find? fun r => r.1 == l).map (·.2)).getD 0), .bool (zoneTab.find? fun r => r.1 == l).isSome]) w' := by
  have hown : w'.ownsMap Tryd.prog 9 (plainElem Tryd.prog 3) b 12 zoneD := by
    obtain ⟨es, clock, h1, h2, h3, h4⟩ := hz.1
    exact ⟨es, clock, by rw [hb.block b (blk_lt h1)]; exact h1, h2, h3, h4⟩
  have hm : (⟨l.toArray⟩ : ByteArray).size ≤ maxLen := by
    show l.length ≤ maxLen
    unfold maxLen; omega
  obtain ⟨v, ps, hrun, hR⟩ := hown.look_ok zlaw Tryd.underlying83 (zero3 w') (plainElem_int Tryd.underlying3 (by decide)) (keyOf_string_mk Tryd.underlying9 hm)
  obtain ⟨c, rfl, hc, _⟩ := plainElem_int_inv Tryd.underlying3 hR
  have hk : (⟨l.toArray⟩ : ByteArray).data.toList = l := rfl
  rw [hk] at hrun hc
  have h2 := (zone_look l).2
  rw [(zone_look l).1] at hrun
  rw [hrun]
  have h3 : (.lit (.int .i64 c) : DataW Unit) = .lit (.int .i64 (((zoneTab.find? fun r => r.1 == l).map (·.2)).getD 0)) := by
    rw [← h2]; exact (congrArg Prod.fst hc).symm
  rw [lit_inj h3]

theorem ne_b {a b : Int} (h : a ≠ b) : (a != b) = true := by simpa using h
theorem eq_nb {a b : Int} (h : a = b) : (a != b) = false := by simpa using h
theorem ne_eb {a b : Int} (h : a ≠ b) : (a == b) = false := by simpa using h
theorem u8_int {c : UInt8} {n : Nat} (hn : n < 256) : ((c.toNat : Int) = n) ↔ c = UInt8.ofNat n := by
  rw [← UInt8.toNat_inj]; simp; omega

set_option maxRecDepth 100000 in
set_option maxHeartbeats 2000000 in
theorem zone_name (l : List UInt8) (o : Int) (w : World) (hl : l.length ≤ 1000) (hz : zoneName l = some o) :
    Calls Tryd.prog 23 #[.string ⟨l.toArray⟩] w fun e w' => e = .returned (.tuple #[.int .i64 o, .int .i64 0]) ∧ Below w.heap.size w w' := by
  obtain ⟨r, hr, hro⟩ : ∃ r, (zoneTab.find? fun r => r.1 == capL l) = some r ∧ r.2 = o := by
    unfold zoneName at hz
    cases h : zoneTab.find? fun r => r.1 == capL l with
    | none => rw [h] at hz; cases hz
    | some r => rw [h] at hz; exact ⟨r, rfl, by simpa using hz⟩
  have HR := Lib.hid (And.intro hr hro); clear hr hro hz
  go_enter Tryd.func23, Tryd.ntmps23
  go_wp2_with fail
  refine (zones_any _).mono ?_; rintro e w1 ⟨rfl, Z1⟩
  have Z1' := Lib.hid Z1; clear Z1
  go_wp2_with fail
  refine (capital_any l _ hl).mono ?_; rintro e w2 ⟨rfl, b2⟩
  have hrun := zone_run (capL l) (by unfold capL; simpa using hl) Z1'.out b2
  rw [HR.out.1] at hrun
  simp only [Option.map_some, Option.getD_some, Option.isSome_some, HR.out.2] at hrun
  go_wp2_with fail
  go_ret2
  exact ⟨rfl, Z1'.out.2.1.trans (b2.mono Z1'.out.2.1.size)⟩

set_option maxRecDepth 100000 in
set_option maxHeartbeats 2000000 in
theorem zone_form (l : List UInt8) (w : World) (hl : l.length ≤ 1000) (hz : zoneName l = none) (h5 : l.length ≠ 5 ∨ (at0 l 0 ≠ 43 ∧ at0 l 0 ≠ 45)) :
    Calls Tryd.prog 23 #[.string ⟨l.toArray⟩] w fun e w' => e = .returned (.tuple #[.int .i64 0, .int .i64 3]) ∧ Below w.heap.size w w' := by
  have hr : (zoneTab.find? fun r => r.1 == capL l) = none := by
    unfold zoneName at hz
    cases h : zoneTab.find? fun r => r.1 == capL l with
    | none => rfl
    | some r => rw [h] at hz; cases hz
  have HR := Lib.hid hr; clear hr hz
  by_cases hlen : l.length = 5
  · have h0 : at0 l 0 ≠ 43 ∧ at0 l 0 ≠ 45 := by
      rcases h5 with h | h
      · exact absurd hlen h
      · exact h
    clear h5
    have hpos : 0 < l.length := by omega
    have hb0 : ∀ h, (⟨l.toArray⟩ : ByteArray)[0]'h = at0 l 0 := fun h => bget h hpos
    have n1 : (((at0 l 0).toNat : Int) != 43) = true := ne_b (fun h => h0.1 ((u8_int (n := 43) (by omega)).1 h))
    have n2 : (((at0 l 0).toNat : Int) != 45) = true := ne_b (fun h => h0.2 ((u8_int (n := 45) (by omega)).1 h))
    have n3 : ((l.length : Int) != 5) = false := eq_nb (by omega)
    have l5 : (0 : Int) < l.length := by omega
    clear hlen h0
    go_enter Tryd.func23, Tryd.ntmps23
    go_wp2_with fail
    refine (zones_any _).mono ?_; rintro e w1 ⟨rfl, Z1⟩
    have Z1' := Lib.hid Z1; clear Z1
    go_wp2_with fail
    refine (capital_any l _ hl).mono ?_; rintro e w2 ⟨rfl, b2⟩
    have hrun := zone_run (capL l) (by unfold capL; simpa using hl) Z1'.out b2
    rw [HR.out] at hrun
    simp only [Option.map_none, Option.getD_none, Option.isSome_none] at hrun
    go_wp2_with fail
    go_ret2
    exact ⟨rfl, Z1'.out.2.1.trans (b2.mono Z1'.out.2.1.size)⟩
  · have n3 : ((l.length : Int) != 5) = true := ne_b (by omega)
    clear h5 hlen
    go_enter Tryd.func23, Tryd.ntmps23
    go_wp2_with fail
    refine (zones_any _).mono ?_; rintro e w1 ⟨rfl, Z1⟩
    have Z1' := Lib.hid Z1; clear Z1
    go_wp2_with fail
    refine (capital_any l _ hl).mono ?_; rintro e w2 ⟨rfl, b2⟩
    have hrun := zone_run (capL l) (by unfold capL; simpa using hl) Z1'.out b2
    rw [HR.out] at hrun
    simp only [Option.map_none, Option.getD_none, Option.isSome_none] at hrun
    go_wp2_with fail
    go_ret2
    exact ⟨rfl, Z1'.out.2.1.trans (b2.mono Z1'.out.2.1.size)⟩

theorem numV0 (t : List UInt8) (k : Nat) (s : St) : numV t k ((0 : Nat) == 1) s = digV t k s := by simp [numV]
theorem numS0 (t : List UInt8) (k : Nat) (s : St) : numS t k ((0 : Nat) == 1) s = digS t k s := by simp [numS]
theorem number_0 (b : Nat) (t : List UInt8) (s : St) (d : Nat) (w : World) (h : Scn w b t s) (hl : t.length ≤ 1000) (hp : s.p ≤ t.length) (hd : d ≤ 4) :
    Calls Tryd.prog 55 #[.pointer (some ⟨b, 0, none⟩), .int .i64 d, .int .i64 0] w fun e w' => e = .returned (.tuple #[.int .i64 s.p, .int .i64 (digV t d s)]) ∧ Scn w' b t (digS t d s) ∧ But b w w' := by
  have := number_any b t s d 0 w h hl hp hd (by omega)
  rw [numV0, numS0] at this
  exact this
theorem scn_new (w : World) (t : List UInt8) (p : Nat) : Scn (w.alloc (.cells #[.string ⟨t.toArray⟩, .int .i64 (p : Nat), .int .i64 (0 : Nat)] 68)) w.heap.size t ⟨p, 0⟩ := blk_new _ _

set_option maxRecDepth 100000 in
set_option maxHeartbeats 4000000 in
theorem zone_num (l : List UInt8) (w : World) (hlen : l.length = 5) (hz : zoneName l = none) (h5 : at0 l 0 = 43 ∨ at0 l 0 = 45) :
    Calls Tryd.prog 23 #[.string ⟨l.toArray⟩] w fun e w' => e = .returned (.tuple #[.int .i64 (zoneV l), .int .i64 (zoneE l)]) ∧ Below w.heap.size w w' := by
  have hr : (zoneTab.find? fun r => r.1 == capL l) = none := by
    unfold zoneName at hz
    cases h : zoneTab.find? fun r => r.1 == capL l with
    | none => rfl
    | some r => rw [h] at hz; cases hz
  have HR := Lib.hid hr; clear hr
  have hE : zoneE l = if (zs l).e ≠ 0 ∨ 59 < zm l then 3 else if 840 < zh l * 60 + zm l then 2 else 0 := by
    unfold zoneE; rw [hz]
    by_cases hc : (zs l).e ≠ 0 ∨ 59 < zm l
    · rw [if_pos hc]; simp only []; rw [if_pos (by rcases hc with h | h <;> simp [h])]
    · rw [if_neg hc]; simp only []; rw [if_neg (by rcases h5 with h | h <;> simp [h, hlen] <;> omega)]
  have hV : zoneV l = if zoneE l ≠ 0 then 0 else if at0 l 0 = 45 then -(zh l * 60 + zm l) else zh l * 60 + zm l := by
    unfold zoneV; rw [hz]
  clear hz
  have hl : l.length ≤ 1000 := by omega
  have hpos : 0 < l.length := by omega
  have hb0 : ∀ h, (⟨l.toArray⟩ : ByteArray)[0]'h = at0 l 0 := fun h => bget h hpos
  have n3 : ((l.length : Int) != 5) = false := eq_nb (by omega)
  have l5 : (0 : Int) < l.length := by omega
  have HP1 := Lib.hid (show (1 : Nat) ≤ l.length by omega)
  have HP2 := Lib.hid (digS_p (t := l) (s := ⟨1, 0⟩) (by show 1 ≤ _; omega) 2)
  have zb := digV_small l ⟨1, 0⟩ 2 (by omega)
  have zb2 := digV_small l (digS l 2 ⟨1, 0⟩) 2 (by omega)
  have cs : ((zs l).e ≠ 0 ∧ ((((zs l).e : Nat) : Int) != 0) = true ∧ zoneE l = 3 ∧ zoneV l = 0) ∨
      ((((zs l).e : Nat) : Int) != 0) = false ∧ ((59 < zm l ∧ zoneE l = 3 ∧ zoneV l = 0) ∨ (zm l ≤ 59 ∧ ((840 < zh l * 60 + zm l ∧ zoneE l = 2 ∧ zoneV l = 0) ∨ (zh l * 60 + zm l ≤ 840 ∧ zoneE l = 0 ∧ ((at0 l 0 = 45 ∧ zoneV l = -(zh l * 60 + zm l)) ∨ (at0 l 0 = 43 ∧ zoneV l = zh l * 60 + zm l)))))) := by
    by_cases h1 : (zs l).e = 0
    · refine .inr ⟨eq_nb (by omega), ?_⟩
      by_cases h2 : 59 < zm l
      · have e : zoneE l = 3 := by rw [hE, if_pos (.inr h2)]
        exact .inl ⟨h2, e, by rw [hV, e]; rfl⟩
      · refine .inr ⟨by omega, ?_⟩
        by_cases h3 : 840 < zh l * 60 + zm l
        · have e : zoneE l = 2 := by rw [hE, if_neg (by simp [h1]; omega), if_pos h3]
          exact .inl ⟨h3, e, by rw [hV, e]; rfl⟩
        · have e : zoneE l = 0 := by rw [hE, if_neg (by simp [h1]; omega), if_neg h3]
          refine .inr ⟨by omega, e, ?_⟩
          rcases h5 with h | h
          · exact .inr ⟨h, by rw [hV, e, h]; simp⟩
          · exact .inl ⟨h, by rw [hV, e, h]; simp⟩
    · have e : zoneE l = 3 := by rw [hE, if_pos (.inl h1)]
      exact .inl ⟨h1, ne_b (by omega), e, by rw [hV, e]; rfl⟩
  have CS := Lib.hid cs
  clear cs hE hV
  have sg : ((((at0 l 0).toNat : Int) != 43) = false ∧ at0 l 0 = 43) ∨ ((((at0 l 0).toNat : Int) != 43) = true ∧ (((at0 l 0).toNat : Int) != 45) = false ∧ at0 l 0 = 45) := by
    rcases h5 with h | h
    · exact .inl ⟨by rw [h]; rfl, h⟩
    · exact .inr ⟨by rw [h]; rfl, by rw [h]; rfl, h⟩
  clear h5 hlen
  have HZS : Hid (digS l 2 (digS l 2 ⟨1, 0⟩) = zs l) := rfl
  have HZH : Hid (digV l 2 ⟨1, 0⟩ = zh l) := rfl
  have HZM : Hid (digV l 2 (digS l 2 ⟨1, 0⟩) = zm l) := rfl
  rcases sg with ⟨g1, g3⟩ | ⟨g1, g2, g3⟩
  all_goals
    have G3 := Lib.hid g3; clear g3
    go_enter Tryd.func23, Tryd.ntmps23
    go_wp2_with fail
    refine (zones_any _).mono ?_; rintro e w1 ⟨rfl, Z1⟩
    have Z1' := Lib.hid Z1; clear Z1
    go_wp2_with fail
    refine (capital_any l _ hl).mono ?_; rintro e w2 ⟨rfl, b2⟩
    have hrun := zone_run (capL l) (by unfold capL; simpa using hl) Z1'.out b2
    rw [HR.out] at hrun
    simp only [Option.map_none, Option.getD_none, Option.isSome_none] at hrun
    have hB2 := Z1'.out.2.1.trans (b2.mono Z1'.out.2.1.size)
    go_wp2_with fail
    clear hrun Z1' b2
    have S0 := Lib.hid (scn_new w2 l 1)
    have hB3 := hB2.alloc hB2.size (.cells #[.string ⟨l.toArray⟩, .int .i64 (1 : Nat), .int .i64 (0 : Nat)] 68)
    have hwb : w.heap.size ≤ w2.heap.size := hB2.size
    have hbs : w2.heap.size < (w2.alloc (.cells #[.string ⟨l.toArray⟩, .int .i64 (1 : Nat), .int .i64 (0 : Nat)] 68)).heap.size := by simp
    refine (number_0 w2.heap.size l ⟨1, 0⟩ 2 _ S0.out hl HP1.out (by omega)).mono ?_
    rintro e w3 ⟨rfl, S3, b3⟩
    have S3' := Lib.hid S3; clear S3
    have hB4 := hB3.trans (b3.below hwb (by omega))
    have hbs3 := Nat.lt_of_lt_of_le hbs b3.size
    clear S0 hB3 hB2 b3 hbs
    generalize w2.heap.size = bb at *
    go_wp2_with fail
    refine (number_0 bb l _ 2 _ S3'.out hl HP2.out (by omega)).mono ?_
    rintro e w4 ⟨rfl, S4, b4⟩
    rw [HZS.out] at S4
    rw [HZM.out, HZH.out]
    have S4' := Lib.hid S4; clear S4
    have hB5 := hB4.trans (b4.below hwb (by omega))
    have c2 := S4'.out.c2
    clear hB4 b4 S3' hbs3
    have zbA : -600000 ≤ zh l ∧ zh l ≤ 2300000 := zb
    have zbB : -600000 ≤ zm l ∧ zm l ≤ 2300000 := zb2
    clear zb zb2 HP2 HP1 HZS HZM HZH
    generalize zh l = HH at *
    generalize zm l = MM at *
    have C := CS.out
    clear CS
    rcases C with ⟨x1, x2, x3, x4⟩ | ⟨x0, ⟨x1, x2, x3⟩ | ⟨x1, ⟨x2, x3, x4⟩ | ⟨x2, x3, ⟨x4, x5⟩ | ⟨x4, x5⟩⟩⟩⟩
    · have E := Lib.hid (And.intro x3 x4); clear x1 x3 x4
      go_wp2_with fail
      go_ret2
      exact ⟨by rw [E.out.1, E.out.2]; rfl, hB5⟩
    · have E := Lib.hid (And.intro x2 x3); clear x2 x3
      go_wp2_with fail
      go_ret2
      exact ⟨by rw [E.out.1, E.out.2]; rfl, hB5⟩
    · have E := Lib.hid (And.intro x3 x4); clear x3 x4
      go_wp2_with fail
      go_ret2
      exact ⟨by rw [E.out.1, E.out.2]; rfl, hB5⟩
    · first
        | (exfalso; have := G3.out.symm.trans x4; revert this; decide)
        | (have E := Lib.hid (And.intro x3 x5); clear x3 x5
           have q1 : (((at0 l 0).toNat : Int) == 45) = true := by rw [G3.out]; rfl
           clear x4
           go_wp2_with fail
           go_ret2
           exact ⟨by rw [E.out.1, E.out.2]; rfl, hB5⟩)
    · first
        | (exfalso; have := G3.out.symm.trans x4; revert this; decide)
        | (have E := Lib.hid (And.intro x3 x5); clear x3 x5
           have q1 : (((at0 l 0).toNat : Int) == 45) = false := by rw [G3.out]; rfl
           clear x4
           go_wp2_with fail
           go_ret2
           exact ⟨by rw [E.out.1, E.out.2]; rfl, hB5⟩)

theorem zone_any (l : List UInt8) (w : World) (hl : l.length ≤ 1000) :
    Calls Tryd.prog 23 #[.string ⟨l.toArray⟩] w fun e w' => e = .returned (.tuple #[.int .i64 (zoneV l), .int .i64 (zoneE l)]) ∧ Below w.heap.size w w' := by
  cases hz : zoneName l with
  | some o =>
    have e1 : zoneE l = 0 := by unfold zoneE; rw [hz]
    have e2 : zoneV l = o := by unfold zoneV; rw [hz]
    rw [e1, e2]; exact zone_name l o w hl hz
  | none =>
    by_cases h5 : l.length ≠ 5 ∨ (at0 l 0 ≠ 43 ∧ at0 l 0 ≠ 45)
    · have e1 : zoneE l = 3 := by unfold zoneE; rw [hz]; simp only []; rw [if_pos (by rcases h5 with h | h <;> simp [h])]
      have e2 : zoneV l = 0 := by unfold zoneV; rw [hz]; simp [e1]
      rw [e1, e2]; exact zone_form l w hl hz h5
    · have h1 : l.length = 5 := by
        rcases Nat.decEq l.length 5 with h | h
        · exact absurd (.inl h) h5
        · exact h
      refine zone_num l w h1 hz ?_
      by_cases a : at0 l 0 = 43
      · exact .inl a
      · by_cases b : at0 l 0 = 45
        · exact .inr b
        · exact absurd (.inr ⟨a, b⟩) h5
end Go.Proofs.YtpdncgfkoibacaaDoor
