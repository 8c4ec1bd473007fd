/- Contract of known: the examples of the document hold. -/
import Derived.Test.YtcagooijkecmoaaDoorGnKids2
namespace Go.Proofs.YtcagooijkecmoaaDoor
open Go.RowKit Go.Gn

theorem Rd.lit2 (w : World) (a b : List UInt8) : Rd (w.alloc (.cells #[enS a, enS b] 9)) (some ⟨w.heap.size, 0, none⟩) [a, b] := Rd.new w [a, b] 9
theorem Rd.lit3 (w : World) (a b c : List UInt8) : Rd (w.alloc (.cells #[enS a, enS b, enS c] 9)) (some ⟨w.heap.size, 0, none⟩) [a, b, c] := Rd.new w [a, b, c] 9
theorem Rd.lit4 (w : World) (a b c d : List UInt8) : Rd (w.alloc (.cells #[enS a, enS b, enS c, enS d] 9)) (some ⟨w.heap.size, 0, none⟩) [a, b, c, d] := Rd.new w [a, b, c, d] 9
theorem len_le {n : Nat} {l : List (List UInt8)} (h : (l.all fun x => decide (x.length ≤ n)) = true) : ∀ x ∈ l, x.length ≤ n := fun x hx => by simpa using List.all_eq_true.1 h x hx

theorem known1 : splitS [99, 111, 109, 112, 46, 108, 97, 110, 103, 45, 97, 46, 109, 105, 115, 99] = [[99, 111, 109, 112], [108, 97, 110, 103, 45, 97], [109, 105, 115, 99]] ∧ check [99, 111, 109, 112, 46, 108, 97, 110, 103, 45, 97, 46, 109, 105, 115, 99] = 0 := by decide +kernel
theorem known2 : parentS [99, 111, 109, 112, 46, 108, 97, 110, 103, 45, 97, 46, 109, 105, 115, 99] = [99, 111, 109, 112, 46, 108, 97, 110, 103, 45, 97] ∧ parentB [99, 111, 109, 112, 46, 108, 97, 110, 103, 45, 97, 46, 109, 105, 115, 99] = true := by decide +kernel
theorem known3 : kidsS [[97, 46, 99, 46, 100], [97, 46, 98]] [97] = [[98], [99]] ∧ kidsE [[97, 46, 99, 46, 100], [97, 46, 98]] [97] = 0 := by decide +kernel
theorem known4 : gcmp [99, 111, 109, 112, 46, 108, 97, 110, 103, 46, 109, 105, 115, 99] [99, 111, 109, 112, 46, 108, 97, 110, 103, 45, 97] = -1 := by decide +kernel

set_option maxRecDepth 100000 in
set_option maxHeartbeats 2000000 in
theorem known_any (w : World) (hE : Env w) : Calls Tryd.prog 13 #[] w fun e w' => e = .returned (.bool true) ∧ Below w.heap.size w w' := by
  have h1 := gsplit_any [99, 111, 109, 112, 46, 108, 97, 110, 103, 45, 97, 46, 109, 105, 115, 99] w hE (by decide)
  rw [known1.1, known1.2] at h1
  have H2 := Lib.hid (fun W (b : Below w.heap.size w W) => parent_any [99, 111, 109, 112, 46, 108, 97, 110, 103, 45, 97, 46, 109, 105, 115, 99] W (hE.below b) (by decide))
  rw [known2.1, known2.2] at H2
  have H3 := Lib.hid (fun W (b : Below w.heap.size w W) => children_any (some ⟨W.heap.size, 0, none⟩) 2 [[97, 46, 99, 46, 100], [97, 46, 98]] [97] _ ((hE.below b).below (below_new W _)) (Rd.lit2 W [97, 46, 99, 46, 100] [97, 46, 98]) (by decide) (len_le (by decide)) (by decide))
  rw [known3.1, known3.2] at H3
  have H4 := Lib.hid (fun W (b : Below w.heap.size w W) => compare_any [99, 111, 109, 112, 46, 108, 97, 110, 103, 46, 109, 105, 115, 99] [99, 111, 109, 112, 46, 108, 97, 110, 103, 45, 97] W (hE.below b) (by decide) (by decide))
  rw [known4] at H4
  have HS := Lib.hid (fun (A : Option Addr) (c : Nat) (W : World) (h : Rd W A [[99, 111, 109, 112], [108, 97, 110, 103, 45, 97], [109, 105, 115, 99]]) => same_any A (some ⟨W.heap.size, 0, none⟩) c 3 _ _ _ (h.below (below_new W _)) (Rd.lit3 W [99, 111, 109, 112] [108, 97, 110, 103, 45, 97] [109, 105, 115, 99]) (by decide) (by decide))
  have HT := Lib.hid (fun (A : Option Addr) (c : Nat) (W : World) (h : Rd W A [[98], [99]]) => same_any A (some ⟨W.heap.size, 0, none⟩) c 2 _ _ _ (h.below (below_new W _)) (Rd.lit2 W [98] [99]) (by decide) (by decide))
  rw [decide_eq_true rfl] at HS HT
  have BL := Lib.hid (fun W (b : Below w.heap.size w W) (o : Obj) => b.tr (below_new W o))
  clear hE
  go_enter Tryd.func13, Tryd.ntmps13
  go_wp2_with fail
  refine h1.mono ?_; rintro e w1 ⟨A1, c1, rfl, hA1, _, b1⟩
  have HA1 := Lib.hid hA1; clear hA1 h1
  go_wp2_with fail
  refine (H2.out w1 b1).mono ?_; rintro e w2 ⟨rfl, b2⟩
  have B2 := Lib.hid (b1.tr b2)
  have HA2 := Lib.hid (HA1.out.below b2); clear HA1 b1 b2
  go_wp2_with fail
  refine (H3.out w2 B2.out).mono ?_; rintro e w3 ⟨A3, c3, rfl, hA3, _, b3⟩
  have HA3 := Lib.hid hA3; clear hA3
  have B3 := Lib.hid ((BL.out w2 B2.out _).tr b3)
  have HA4 := Lib.hid ((HA2.out.below (below_new w2 _)).below b3); clear HA2 b3 B2
  go_wp2_with fail
  refine (HS.out A1 c1 w3 HA4.out).mono ?_; rintro e w4 ⟨rfl, b4⟩
  have B4 := Lib.hid ((BL.out w3 B3.out _).tr b4)
  have HA5 := Lib.hid ((HA3.out.below (below_new w3 _)).below b4); clear HA3 HA4 b4 B3
  go_wp2_with fail
  refine (H4.out w4 B4.out).mono ?_; rintro e w5 ⟨rfl, hw5⟩
  have b5 : Below w4.heap.size w4 w5 := by rw [hw5]; exact (below_new _ _).tr (below_new _ _)
  have B5 := Lib.hid (B4.out.tr b5)
  have HA6 := Lib.hid (HA5.out.below b5); clear HA5 b5 B4 hw5
  go_wp2_with fail
  refine (HT.out A3 c3 w5 HA6.out).mono ?_; rintro e w6 ⟨rfl, b6⟩
  have B6 := Lib.hid ((BL.out w5 B5.out _).tr b6); clear b6
  go_wp2_with fail
  go_ret
  exact ⟨rfl, B6.out⟩
end Go.Proofs.YtcagooijkecmoaaDoor
