/- Contracts at nil marks. -/
import Derived.Test.YtcpennlojjlpaaaGreatDoorNyB
namespace Go.Proofs.YtcpennlojjlpaaaGreatDoor
open Go.RowKit Go.Nr Go.Gn

set_option maxRecDepth 100000 in
set_option maxHeartbeats 1000000 in
theorem find_nil (s : List UInt8) (w : World) : Calls Tryz.prog 93 #[.pointer none, enS s] w fun e w' => e = .returned (.pointer none) ∧ w = w' := by
  go_enter Tryz.func93, Tryz.ntmps93
  go_wp2_with fail
  go_ret
  exact ⟨rfl, rfl⟩
set_option maxRecDepth 100000 in
set_option maxHeartbeats 1000000 in
theorem change_nil (s : List UInt8) (b : Bool) (v : Value) (w : World) : Calls Tryz.prog 99 #[.pointer none, enS s, .bool b, v] w fun e w' => e = .returned (i64 1) ∧ w = w' := by
  go_enter Tryz.func99, Tryz.ntmps99
  go_wp2_with fail
  go_ret
  exact ⟨rfl, rfl⟩
set_option maxRecDepth 100000 in
set_option maxHeartbeats 1000000 in
theorem subscribe_nil (s : List UInt8) (w : World) : Calls Tryz.prog 58 #[.pointer none, enS s] w fun e w' => e = .returned (i64 1) ∧ w = w' := by
  go_enter Tryz.func58, Tryz.ntmps58
  go_wp2_with fail
  go_ret
  exact ⟨rfl, rfl⟩
set_option maxRecDepth 100000 in
set_option maxHeartbeats 1000000 in
theorem unsubscribe_nil (s : List UInt8) (w : World) : Calls Tryz.prog 59 #[.pointer none, enS s] w fun e w' => e = .returned (i64 1) ∧ w = w' := by
  go_enter Tryz.func59, Tryz.ntmps59
  go_wp2_with fail
  go_ret
  exact ⟨rfl, rfl⟩
set_option maxRecDepth 100000 in
set_option maxHeartbeats 1000000 in
theorem read_nil (s : List UInt8) (n : Int) (w : World) : Calls Tryz.prog 55 #[.pointer none, enS s, i64 n] w fun e w' => e = .returned (i64 1) ∧ Below w.heap.size w w' := by
  go_enter Tryz.func55, Tryz.ntmps55
  go_wp2_with fail
  refine (isNumber_any n _).mono ?_; rintro e w1 ⟨rfl, rfl⟩
  go_wp2_with fail
  refine (change_nil s _ _ _).mono ?_; rintro e w1 ⟨rfl, rfl⟩
  go_wp2_with fail
  go_ret
  exact ⟨rfl, below_new _ _⟩
set_option maxRecDepth 100000 in
set_option maxHeartbeats 1000000 in
theorem unread_nil (s : List UInt8) (n : Int) (w : World) : Calls Tryz.prog 56 #[.pointer none, enS s, i64 n] w fun e w' => e = .returned (i64 1) ∧ Below w.heap.size w w' := by
  go_enter Tryz.func56, Tryz.ntmps56
  go_wp2_with fail
  refine (isNumber_any n _).mono ?_; rintro e w1 ⟨rfl, rfl⟩
  go_wp2_with fail
  refine (change_nil s _ _ _).mono ?_; rintro e w1 ⟨rfl, rfl⟩
  go_wp2_with fail
  go_ret
  exact ⟨rfl, below_new _ _⟩
set_option maxRecDepth 100000 in
set_option maxHeartbeats 1000000 in
theorem catchup_nil (s : List UInt8) (w : World) : Calls Tryz.prog 57 #[.pointer none, enS s, i64 1] w fun e w' => e = .returned (i64 1) ∧ Below w.heap.size w w' := by
  go_enter Tryz.func57, Tryz.ntmps57
  go_wp2_with fail
  refine (isNumber_any 1 _).mono ?_; rintro e w1 ⟨rfl, rfl⟩
  go_wp2_with fail
  refine (change_nil s _ _ _).mono ?_; rintro e w1 ⟨rfl, rfl⟩
  go_wp2_with fail
  go_ret
  exact ⟨rfl, below_new _ _⟩
set_option maxRecDepth 100000 in
set_option maxHeartbeats 1000000 in
theorem textM_nil (w : World) : Calls Tryz.prog 60 #[.pointer none] w fun e w' => e = .returned (enS []) ∧ w = w' := by
  go_enter Tryz.func60, Tryz.ntmps60
  go_wp2_with fail
  go_ret
  exact ⟨rfl, rfl⟩
set_option maxRecDepth 100000 in
set_option maxHeartbeats 1000000 in
theorem groups_nil (w : World) : Calls Tryz.prog 61 #[.pointer none] w fun e w' => e = .returned (.slice none 0 0) ∧ w = w' := by
  go_enter Tryz.func61, Tryz.ntmps61
  go_wp2_with fail
  go_ret
  exact ⟨rfl, rfl⟩
set_option maxRecDepth 100000 in
set_option maxHeartbeats 1000000 in
theorem has_nil (s : List UInt8) (n : Int) (w : World) : Calls Tryz.prog 49 #[.pointer none, enS s, i64 n] w fun e w' => e = .returned (.bool false) ∧ w = w' := by
  go_enter Tryz.func49, Tryz.ntmps49
  go_wp2_with fail
  refine (find_nil s _).mono ?_; rintro e w1 ⟨rfl, rfl⟩
  go_wp2_with fail
  go_ret
  exact ⟨rfl, rfl⟩
set_option maxRecDepth 100000 in
set_option maxHeartbeats 1000000 in
theorem subscribed_nil (s : List UInt8) (w : World) : Calls Tryz.prog 50 #[.pointer none, enS s] w fun e w' => e = .returned (.bool false) ∧ w = w' := by
  go_enter Tryz.func50, Tryz.ntmps50
  go_wp2_with fail
  refine (find_nil s _).mono ?_; rintro e w1 ⟨rfl, rfl⟩
  go_wp2_with fail
  go_ret
  exact ⟨rfl, rfl⟩
set_option maxRecDepth 100000 in
set_option maxHeartbeats 1000000 in
theorem clone_nil (w : World) : Calls Tryz.prog 53 #[.pointer none] w fun e w' => e = .returned (.pointer none) ∧ w = w' := by
  go_enter Tryz.func53, Tryz.ntmps53
  go_wp2_with fail
  go_ret
  exact ⟨rfl, rfl⟩
set_option maxRecDepth 100000 in
set_option maxHeartbeats 1000000 in
theorem equal_nil_nil (w : World) : Calls Tryz.prog 62 #[.pointer none, .pointer none] w fun e w' => e = .returned (.bool true) ∧ w = w' := by
  go_enter Tryz.func62, Tryz.ntmps62
  go_wp2_with fail
  go_ret
  exact ⟨rfl, rfl⟩
set_option maxRecDepth 100000 in
set_option maxHeartbeats 1000000 in
theorem equal_nil_l (a : Addr) (w : World) : Calls Tryz.prog 62 #[.pointer none, .pointer (some a)] w fun e w' => e = .returned (.bool false) ∧ w = w' := by
  go_enter Tryz.func62, Tryz.ntmps62
  go_wp2_with fail
  go_ret
  exact ⟨rfl, rfl⟩
set_option maxRecDepth 100000 in
set_option maxHeartbeats 1000000 in
theorem equal_nil_r (a : Addr) (w : World) : Calls Tryz.prog 62 #[.pointer (some a), .pointer none] w fun e w' => e = .returned (.bool false) ∧ w = w' := by
  go_enter Tryz.func62, Tryz.ntmps62
  go_wp2_with fail
  go_ret
  exact ⟨rfl, rfl⟩
set_option maxRecDepth 100000 in
set_option maxHeartbeats 1000000 in
theorem set_nil (s : List UInt8) (w : World) : Calls Tryz.prog 51 #[.pointer none, enS s] w fun e w' => e = .returned (.agg #[.slice none 0 0]) ∧ Below w.heap.size w w' := by
  have hc := blk_new w (.cells #[.slice none 0 0] 26)
  have hrc := blk_cell hc 0
  have hrf := blk_free hc 0
  go_enter Tryz.func51, Tryz.ntmps51
  go_wp2_with fail
  refine (find_nil s _).mono ?_; rintro e w1 ⟨rfl, rfl⟩
  go_wp2_with fail
  refine bodyPost_ret (v := .agg #[.slice none 0 0]) (by simp [results, Tryz.results51, go_sem, hrc]) rfl ?_
  exact ⟨rfl, below_new _ _⟩
end Go.Proofs.YtcpennlojjlpaaaGreatDoor
