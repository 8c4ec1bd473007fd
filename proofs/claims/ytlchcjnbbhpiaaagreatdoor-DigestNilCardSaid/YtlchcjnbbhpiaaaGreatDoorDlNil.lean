/- For every input the law DigestNil returns true and leaves its arguments as they were: the row, and the card that ties its listed variables. Conditions: none. -/
import Derived.Test.YtlchcjnbbhpiaaaGreatDoorRows
import Derived.Test.YtlchcjnbbhpiaaaGreatDoorCards
import Derived.Test.YtlchcjnbbhpiaaaGreatDoorTie
import Derived.Test.YtlchcjnbbhpiaaaGreatDoorZl
import Derived.Test.YtlchcjnbbhpiaaaGreatDoorZb
import Derived.Test.YtlchcjnbbhpiaaaGreatDoorZu
import Derived.ProofKit
import Derived.LaidMore
import Derived.Lay
import Derived.OpenShut
import Derived.ShutString
import Derived.SevenTiedAt
import Derived.Stop.Joined
namespace Go.Proofs.YtlchcjnbbhpiaaaGreatDoor
open Go.ChangeShapes Go.WideShapes Go.ChangeAt Go.RowKit
open Go.ChangeMaps (open_string shut_string)

set_option maxRecDepth 100000 in
theorem digestNil_lifted (os : Os) (started : os.Started) (H : Type) (enc : TypeId × Value → H) :
    ReturnsInHanded {} Tryz.checked os 7 .any (fun w args => (Rows.digestNilSpec.pre enc Tryz.prog Tryz.f7 [] false w args ∧ laidMetH Tryz.prog laidL7 w) ∧ sizedMet enc Tryz.prog Tryz.f7 (OpenSpec.ofChange Rows.digestNilSpec) false w args)
      (Rows.digestNilSpec.post enc Tryz.prog Tryz.f7 false true false false) := by
  refine handed_and_shaped (C := Tryz.checked) (X := fun w _ => laidMetH Tryz.prog laidL7 w) (fun _ _ _ hh h => h.of_heap hh) own started (by kernel_rfl) Tryz.func7
    (ChangeSpec.witness_shaped (enc := enc) (C := Tryz.checked) (os := os) (X := fun w _ => laidMetH Tryz.prog laidL7 w) false (World.laidAll Tryz.prog os laidL7) #[.agg #[.int .i64 0, .string ByteArray.empty, .int .i64 0, .string ByteArray.empty, .int .u8 0, .int .u8 0, .int .u8 0, .int .u8 0, .int .u8 0, .int .u8 0, .int .u8 0, .int .u8 0, .int .u8 0, .int .u8 0, .int .u8 0, .int .u8 0, .int .u8 0, .int .u8 0, .int .u8 0, .int .u8 0, .int .u8 0, .int .u8 0, .int .u8 0, .int .u8 0, .int .u8 0, .int .u8 0, .int .u8 0, .int .u8 0, .int .u8 0, .int .u8 0, .int .u8 0, .int .u8 0, .int .u8 0, .int .u8 0, .int .u8 0, .int .u8 0, .string ByteArray.empty, .int .i64 0], .int .u8 0] 8 (World.laidAll_os _ _ _) (World.shaped_of_ZipB (by kernel_rfl) (by kernel_rfl)) (by kernel_rfl) (by kernel_rfl) (by kernel_rfl) (door_met7 os _)) ?_
  intro W base args ds gs before hval0 hW hwt hX hSh
  have hval : ∀ (j : Nat) t v, Tryz.f7.params[j]? = some t → args[j]? = some v → Value.okWide Tryz.prog W .any base t v := hval0
  have hW' := hW
  obtain ⟨p, q, hA0, hV, rfl, hfz, hnd⟩ := hW
  have hA : DataW.TrodAll enc Tryz.prog W 0 (fun _ => true) true Tryz.f7.params.toList args.toList ds p := hA0
  have hKeep : ∀ W' : World, Below W.heap.size W W' → DataW.TrodAll enc Tryz.prog W' 0 (fun b => decide (b < W.heap.size)) true Tryz.f7.params.toList args.toList ds p := fun W' hb => Keep.args_keep (by kernel_rfl) (by kernel_rfl) (by kernel_rfl) (by kernel_rfl) hA0 hb
  rw [Tryz.params7] at hA hval hwt
  obtain ⟨v0, vs0, d0, ds0, p0, q0, hargs, rfl, rfl, h0, r0⟩ := trodAll_cons hA
  obtain ⟨v1, vs1, d1, ds1, p1, q1, rfl, rfl, rfl, h1, r1⟩ := trodAll_cons r0
  obtain ⟨rfl, rfl, rfl⟩ := trodAll_nil r1
  obtain rfl : args = #[v0, v1] := by cases args; simp_all
  obtain ⟨rfl, rfl⟩ := trodVars_none hV
  obtain ⟨kd0, x0, nw0, rfl, hk0, hl0⟩ := oparg_at (hval 0 55 v0 rfl rfl) h0
  obtain ⟨a1, rfl, _, _, w1⟩ := open_int Tryz.underlying5 (hval 1 5 v1 rfl rfl) h1
  have hE := env_of_shaped hSh
  have hG := gld_of_laid hE hX
  simp only [List.append_nil] at hW'
  refine (digestNil_walk kd0 x0 nw0 a1 w1 W hk0 hl0 hG).mono fun e W' ⟨he, hg⟩ => ?_
  subst he
  refine ⟨_, rfl, _, _, _, [], _, [], hW', ?_, hKeep W' hg, ?_, hg.frame _, fun h => by cases h⟩
  · exact (trodAll_cons_mk (shut_bool Tryz.underlying4 _) trodAll_mk0)
  · rfl

theorem digestNil_said : Rows.DigestNilSaid :=
  OpenClaim.holds_of_wide 7 Tryz.f7 rfl rfl rfl rfl rfl rfl rfl ⟨rfl, rfl, rfl, rfl, rfl⟩ rfl rfl rfl rfl rfl (by kernel_rfl) Tryz.func7 (by kernel_rfl)
    (of_decide_eq_true (by kernel_rfl)) (by unfold Func.isWrapper; first | (rw [if_pos (by decide +kernel)]; kernel_rfl) | (rw [if_neg (by decide +kernel)]; exact ⟨rfl, rfl⟩))
    (fun os started H enc _ => digestNil_lifted os started H enc)

theorem digestNil_holds : Rows.DigestNilCardSaid :=
  Claim7.holds_tied_plain_at .later [] [.data, .data, .data, .data, .sentinel, .sentinel, .pinned] true Rows.digestNilCard.stood.harness true
    digestNil_said (fun _ h => by cases h) (by kernel_rfl) (fun _ h => by cases h) digestNil_row_tie rfl ⟨rfl, rfl⟩ (by kernel_rfl) rfl
    (fun f fn hf hfn => by
      obtain rfl : f = 7 := Option.some.inj ((show Tryz.prog.funcNamed "bulletin/bulletinlaw50.DigestNil" = some 7 by kernel_rfl).symm.trans hf) |>.symm
      obtain rfl : fn = Tryz.f7 := (Option.some.inj (Tryz.func7.symm.trans hfn)).symm
      exact ⟨by kernel_rfl, fun j t ht => by
        rw [Tryz.params7] at ht
        have hm : t = 55 ∨ t = 5 := by
          rcases j with _ | _ | j
          all_goals simp at ht
          all_goals (subst ht; simp)
        rcases hm with rfl | rfl
        · exact (show Tryz.prog.wantsStandIn 55 = false by kernel_rfl)
        · exact (show Tryz.prog.wantsStandIn 5 = false by kernel_rfl)⟩)
    (by kernel_rfl)

end Go.Proofs.YtlchcjnbbhpiaaaGreatDoor
