/- The walk of the statement GroupnameSort. -/
import Derived.Test.YtcagooijkecmoaaDoorGnLawE
import Derived.Test.YtcagooijkecmoaaDoorGnTurn
namespace Go.Proofs.YtcagooijkecmoaaDoor
open Go.RowKit Go.Gn

theorem sortE_iff (l : List (List UInt8)) : sortE l = 0 ↔ l.length ≤ 4096 ∧ ∀ x ∈ l, check x = 0 := by
  refine ⟨sortE_zero, fun ⟨h1, h2⟩ => ?_⟩
  unfold sortE
  rw [if_neg (by omega)]
  exact (errOf_zero_iff l).2 h2
theorem sortE_turned (l : List (List UInt8)) (t : Nat) : sortE (turned l t) = 0 ↔ sortE l = 0 := by
  rw [sortE_iff, sortE_iff, turned_length]
  simp only [mem_turned]
theorem sortS_turned (l : List (List UInt8)) (t : Nat) : sortS (turned l t) = sortS l := by
  unfold sortS
  by_cases h : sortE l = 0
  · rw [if_pos h, if_pos ((sortE_turned l t).2 h)]
    exact inc_uniq gcmp_lin _ _ (insAll_inc gcmp_lin _) (insAll_inc gcmp_lin _) (fun x => by rw [mem_insAll gcmp_lin, mem_insAll gcmp_lin, mem_turned])
  · rw [if_neg h, if_neg (fun e => h ((sortE_turned l t).1 e))]
/-- before := append([]string, l...) -/
theorem wpList_appAll (wr : World) {ops : Array Oper} {rest : List Oper} {o : Oper} {a : Act} {Q : Exit → Act → World → Prop} (hgd : o.guard = none) (s x : Operand)
    (ho : o.op = .call { callee := .builtin .append, args := #[s, x], argTypes := #[24, 24] })
    (A : Option Addr) (c n : Nat) (xs : List (List UInt8)) (hn : n = xs.length) (hr : Rd wr A xs) (hs : a.eval s = .slice (some ⟨wr.heap.size, 0, none⟩) 0 0) (hx : a.eval x = .slice A n c) (hlen : xs.length ≤ 1000000000)
    (h : ∀ B d w', Rd w' B xs → Below wr.heap.size wr w' → wpList Tryd.prog ops Q rest (a.put o.dst (.slice B xs.length d)) w') : wpList Tryd.prog ops Q (o :: rest) a (wr.alloc (.cells #[] 9)) := by
  subst hn
  obtain ⟨v', w', h1, h2, h3⟩ := run_appG (wr.alloc (.cells #[] 9)) o.type wr.heap.size _ [] (own_empty wr wr.heap.size (Nat.le_refl _)) A c xs (hr.below (below_new wr _)) (by simpa using hlen) (by simp)
  have hB : Below wr.heap.size wr w' := ((Below.refl _ wr).alloc (Nat.le_refl _) _).grown h3 (by simp) fun k hk => by
    cases hk; exact Nat.le_refl _
  rw [List.nil_append] at h2
  obtain ⟨B, d, rfl⟩ := own_slice h2
  refine wpList_plain hgd fun _ hK => ?_
  unfold Oper.wp execOp
  simp only [ho, resolve, invoke, builtin, Sem.run_bind, Sem.run_pure, Result.andThen_ok, List.map_toArray, List.map_cons, List.map_nil, hs, hx, h1]
  exact hK _ _ (h B d w' (Rd.of_own h2).1 hB)

set_option maxRecDepth 100000 in
set_option maxHeartbeats 4000000 in
theorem groupnameSort_walk (A : Option Addr) (c : Nat) (xs : List (List UInt8)) (tn : Int) (htn : (Lit.int .u8 tn).wf = true) (w : World) (hr : Rd w A xs) (hc : xs.length ≤ c) (hcm : c ≤ maxLen) (hx : ∀ x ∈ xs, x.length ≤ maxLen) (hE : Env w) :
    Calls Tryd.prog 4 #[.slice A xs.length c, .int .u8 tn] w fun e w' => e = .returned (.bool true) ∧ Below w.heap.size w w' := by
  have hk := known_any w hE
  have HS := Lib.hid (fun W (h : Rd W A xs) => short_any A c xs W h (Nat.le_trans hc hcm) hx)
  have HK := Lib.hid (fun W (b : Below w.heap.size w W) => known_any W (hE.below b))
  have R0 := Lib.hid hr; clear hr hx
  unfold maxLen at hcm
  obtain ⟨t, rfl, ht⟩ : ∃ t : Nat, tn = (t : Int) ∧ t < 256 := by
    have h : 0 ≤ tn ∧ tn < 256 := by
      have e1 : IntKind.u8.min = 0 := by decide
      have e2 : IntKind.u8.max = 255 := by decide
      simp [Lit.wf, e1, e2] at htn
      omega
    exact ⟨tn.toNat, by omega, by omega⟩
  clear htn
  cases hsh : shortL xs with
  | false =>
    rw [hsh] at HS
    clear hsh hE
    go_enter Tryd.func4, Tryd.ntmps4
    go_wp2_with fail
    refine (hk).mono ?_; rintro e w1 ⟨rfl, b1⟩
    have R1 := Lib.hid (R0.out.below b1)
    have B1 := Lib.hid (b1)
    clear b1
    go_wp2_with fail
    refine (HS.out w1 R1.out).mono ?_; rintro e w2 ⟨rfl, rfl⟩
    go_wp2_with fail
    refine (HK.out w1 B1.out).mono ?_; rintro e w3 ⟨rfl, b3⟩
    have B3 := Lib.hid (B1.out.tr b3)
    clear b3
    go_wp2_with fail
    go_ret
    exact ⟨rfl, B3.out⟩
  | true =>
    rw [hsh] at HS
    have hl := sh_len hsh
    have hx := sh_all hsh (n := 1000000000) (by decide)
    have hx2 := sh_all hsh (n := 1000000) (by decide)
    have HE := Lib.hid hE.all
    have hss := sortS_length xs
    have H1 := Lib.hid (fun W (hb : Below w.heap.size w W) (hr : Rd W A xs) => gsort_any A c xs W (HE.out W hb) hr (by omega) hx)
    have H2 := Lib.hid (fun B d W (hb : Below w.heap.size w W) (hr : Rd W B (turned xs t)) => gsort_any B d (turned xs t) W (HE.out W hb) hr (by rw [turned_length]; omega) (fun x hm => hx x ((mem_turned xs t x).1 hm)))
    have H3 := Lib.hid (fun W (hr : Rd W A xs) => refSort_any A c xs W hr (by omega) hx2)
    have H4 := Lib.hid (fun B D c d W (h1 : Rd W B xs) (h2 : Rd W D xs) => same_any B D c d xs xs W h1 h2 (by omega) (by omega))
    have H5 := Lib.hid (fun B D c d W (h1 : Rd W B (sortS xs)) (h2 : Rd W D (sortS xs)) => same_any B D c d (sortS xs) (sortS xs) W h1 h2 (by omega) (by omega))
    rw [decide_eq_true rfl] at H4 H5
    rw [sortS_turned, turned_length] at H2
    have hz := sortE_turned xs t
    have hq : (((sortE (turned xs t) : Int) == 0) == ((sortE xs : Int) == 0)) = true := by
      rw [beq_iff_eq, Bool.eq_iff_iff, beq_iff_eq, beq_iff_eq]
      omega
    have HQ := Lib.hid hq
    have HT := Lib.hid (turned_snoc xs t)
    have HTI := Lib.hid (fun i (h : i < xs.length) => turnAt_int (t := t) h)
    have HTL := Lib.hid (fun i (h : i < xs.length) => turnAt_lt (t := t) h)
    have HTN := Lib.hid (turned_length xs t)
    clear hE hsh hx hx2 hz hq hss
    generalize turned xs t = tl at *
    generalize sortS xs = ss at *
    generalize (sortE xs : Int) = s1 at *
    generalize (sortE tl : Int) = s2 at *
    go_enter Tryd.func4, Tryd.ntmps4
    go_wp2_with fail
    refine (hk).mono ?_; rintro e w1 ⟨rfl, b1⟩
    have R1 := Lib.hid (R0.out.below b1)
    have B1 := Lib.hid (b1)
    clear b1
    go_wp2_with fail
    refine (HS.out w1 R1.out).mono ?_; rintro e w2 ⟨rfl, rfl⟩
    go_wp2_with fail
    go_loopg [5, 6] xs.length (fun gg ov iv wr => ∃ k : Nat, k ≤ xs.length ∧ xs.length - k ≤ gg ∧ iv = .int .i64 k ∧ Below w1.heap.size w1 wr ∧ Hid (wr.ownsRow w1.heap.size 9 1 ov (tl.take k).length ((tl.take k).map enS)))
    case atStart => exact ⟨0, by omega, by omega, rfl, Below.refl _ _, World.ownsRow_nil _ _ _ _⟩
    case round =>
      obtain ⟨k, hk, hg, rfl, hB, O⟩ := hrel
      by_cases hlt : k < xs.length
      · have hti := HTI.out k hlt
        have htl := HTL.out k hlt
        obtain ⟨b, o, x, rfl, _, hxk, hcell⟩ := (R1.out.below hB).at_ htl
        have hsn : Hid (tl.take (k + 1) = tl.take k ++ [x]) := HT.out k x hlt hxk
        have hlk : (tl.take k).length ≤ 60 := by rw [List.length_take]; omega
        clear hxk
        generalize turnAt xs.length t k = j at *
        generalize tl.take k = out at *
        have hj0 : (0 : Int) ≤ (j : Int) := by omega
        have hjn : (j : Int) < (xs.length : Int) := by omega
        go_wp2_with (at_builtin; (refine wpList_app1 wr rfl _ _ rfl w1.heap.size _ out x O.out rfl rfl (by omega) hB.size ?_); intro v1 w5 hown1 hb1)
        have HO1 := Lib.hid hown1; clear hown1 hti
        go_wp2_with fail
        go_roundg (xs.length - (k + 1))
        case measure => omega
        case rel => exact ⟨k + 1, by omega, by omega, by go_num, hB.trans hb1, (by (show World.ownsRow _ _ _ _ _ _ _); rw [hsn.out]; exact HO1.out)⟩
      · obtain rfl : k = xs.length := by omega
        have O2 := O.out
        rw [List.take_of_length_le (by rw [HTN.out]; omega), HTN.out] at O2
        obtain ⟨D, d, rfl⟩ := own_slice O2
        have RT : Hid (Rd wr D tl) := (Rd.of_own O2).1
        have Rr := Lib.hid (R1.out.below hB)
        have Br := Lib.hid (B1.out.tr hB)
        clear O O2
        go_wp2_with (at_builtin; (refine wpList_appAll wr rfl _ _ rfl A c _ xs rfl Rr.out rfl rfl (by omega) ?_); intro D2 d2 w6 hr6 hb6)
        have R6 := Lib.hid (Rr.out.below hb6)
        have T6 := Lib.hid (RT.out.below hb6)
        have Q6 := Lib.hid hr6; clear hr6
        have B6 := Lib.hid (Br.out.tr hb6); clear hb6
        go_wp2_with fail
        refine (H1.out w6 B6.out R6.out).mono ?_; rintro e w7 ⟨A7, c7, rfl, hr7, _, b7⟩
        have R7 := Lib.hid (R6.out.below b7)
        have T7 := Lib.hid (T6.out.below b7)
        have Q7 := Lib.hid (Q6.out.below b7)
        have S7 := Lib.hid hr7; clear hr7
        have B7 := Lib.hid (B6.out.tr b7); clear b7
        go_wp2_with fail
        refine (H2.out D d w7 B7.out T7.out).mono ?_; rintro e w8 ⟨A8, c8, rfl, hr8, _, b8⟩
        have R8 := Lib.hid (R7.out.below b8)
        have Q8 := Lib.hid (Q7.out.below b8)
        have S8 := Lib.hid (S7.out.below b8)
        have U8 := Lib.hid hr8; clear hr8
        have B8 := Lib.hid (B7.out.tr b8); clear b8
        go_wp2_with fail
        refine (H3.out w8 R8.out).mono ?_; rintro e w9 ⟨A9, c9, rfl, hr9, _, b9⟩
        have R9 := Lib.hid (R8.out.below b9)
        have Q9 := Lib.hid (Q8.out.below b9)
        have S9 := Lib.hid (S8.out.below b9)
        have U9 := Lib.hid (U8.out.below b9)
        have X9 := Lib.hid hr9; clear hr9
        have B9 := Lib.hid (B8.out.tr b9); clear b9
        go_wp2_with fail
        refine (H4.out A D2 c d2 w9 R9.out Q9.out).mono ?_; rintro e w10 ⟨rfl, b10⟩
        have S10 := Lib.hid (S9.out.below b10)
        have U10 := Lib.hid (U9.out.below b10)
        have X10 := Lib.hid (X9.out.below b10)
        have B10 := Lib.hid (B9.out.tr b10); clear b10
        go_wp2_with fail
        refine (H5.out A7 A9 c7 c9 w10 S10.out X10.out).mono ?_; rintro e w11 ⟨rfl, b11⟩
        have S11 := Lib.hid (S10.out.below b11)
        have U11 := Lib.hid (U10.out.below b11)
        have B11 := Lib.hid (B10.out.tr b11); clear b11
        have hq := HQ.out
        go_wp2_with fail
        refine (H5.out A7 A8 c7 c8 w11 S11.out U11.out).mono ?_; rintro e w12 ⟨rfl, b12⟩
        have B12 := Lib.hid (B11.out.tr b12); clear b12
        go_wp2_with fail
        go_ret
        exact ⟨rfl, B12.out⟩
end Go.Proofs.YtcagooijkecmoaaDoor
