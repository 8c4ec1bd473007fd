/- For every input the law DigestBuilder returns true and leaves its arguments as they were: the row, and the card that ties its listed variables. Conditions: none. -/
import Derived.Test.YtlchcjnbbhpiaaaGreatDoorRows
import Derived.Test.YtlchcjnbbhpiaaaGreatDoorCards
import Derived.Test.YtlchcjnbbhpiaaaGreatDoorTie
import Derived.Test.YtlchcjnbbhpiaaaGreatDoorZl
import Derived.Test.YtlchcjnbbhpiaaaGreatDoorZb
import Derived.Test.YtlchcjnbbhpiaaaGreatDoorYaf
import Derived.Test.YtlchcjnbbhpiaaaGreatDoorDyR
import Derived.ProofKit
import Derived.LaidMore
import Derived.Lay
import Derived.OpenShut
import Derived.ShutString
import Derived.SevenTiedAt
import Derived.Stop.Joined
namespace Go.Proofs.YtlchcjnbbhpiaaaGreatDoor
open Go.ChangeShapes Go.WideShapes Go.ChangeAt Go.RowKit
open Go.ChangeMaps (open_string shut_string)
set_option maxRecDepth 100000 in
theorem digestBuilder_lifted (os : Os) (started : os.Started) (H : Type) (enc : TypeId × Value → H) :
  ReturnsInHanded {} Tryz.checked os 8 .any (fun w args => (Rows.digestBuilderSpec.pre enc Tryz.prog Tryz.f8 [] false w args ∧ laidMetH Tryz.prog laidL7 w) ∧ sizedMet enc Tryz.prog Tryz.f8 (OpenSpec.ofChange Rows.digestBuilderSpec) false w args)
   (Rows.digestBuilderSpec.post enc Tryz.prog Tryz.f8 false true false false) := by
 refine handed_and_shaped (C := Tryz.checked) (X := fun w _ => laidMetH Tryz.prog laidL7 w) (fun _ _ _ hh h => h.of_heap hh) own started (by kernel_rfl) Tryz.func8
  (ChangeSpec.witness_shaped (enc := enc) (C := Tryz.checked) (os := os) (X := fun w _ => laidMetH Tryz.prog laidL7 w) false (World.laidAll Tryz.prog os laidL7) #[.agg #[.string ByteArray.empty, .int .i64 0, .int .i64 0, .int .i64 0], .slice none 0 0] 8 (World.laidAll_os _ _ _) (World.shaped_of_ZipB (by kernel_rfl) (by kernel_rfl)) (by kernel_rfl) (by kernel_rfl) (by kernel_rfl) (door_met7 os _)) ?_
 intro W base args ds gs before hval0 hW hwt hX hSh
 have hval : ∀ (j : Nat) t v, Tryz.f8.params[j]? = some t → args[j]? = some v → Value.okWide Tryz.prog W .any base t v := hval0
 have hW' := hW
 obtain ⟨p, q, hA0, hV, rfl, hfz, hnd⟩ := hW
 have hA : DataW.TrodAll enc Tryz.prog W 0 (fun _ => true) true Tryz.f8.params.toList args.toList ds p := hA0
 have hKeep : ∀ W' : World, Below W.heap.size W W' → DataW.TrodAll enc Tryz.prog W' 0 (fun b => decide (b < W.heap.size)) true Tryz.f8.params.toList args.toList ds p := fun W' hb => Keep.args_keep (by kernel_rfl) (by kernel_rfl) (by kernel_rfl) (by kernel_rfl) hA0 hb
 rw [Tryz.params8] at hA hval hwt
 obtain ⟨v0, vs0, d0, ds0, p0, q0, hargs, rfl, rfl, h0, r0⟩ := trodAll_cons hA
 obtain ⟨v1, vs1, d1, ds1, p1, q1, rfl, rfl, rfl, h1, r1⟩ := trodAll_cons r0
 obtain ⟨rfl, rfl, rfl⟩ := trodAll_nil r1
 obtain rfl : args = #[v0, v1] := by cases args; simp_all
 obtain ⟨rfl, rfl⟩ := trodVars_none hV
 obtain ⟨ti0, vo0, it0, mi0, rfl, ht0⟩ := planarg_at (hval 0 70 v0 rfl rfl) h0
 obtain ⟨A1, c1, x1, rfl, hr1, hc1, hm1, _⟩ := opsarg_at (hval 1 46 v1 rfl rfl) h1
 have hE := env_of_shaped hSh
 have hG := gld_of_laid hE hX
 simp only [List.append_nil] at hW'
 refine (digestBuilder_walk ti0 vo0 it0 mi0 A1 c1 x1 W hr1 hc1 hm1 ht0 hG).mono fun e W' ⟨he, hg⟩ => ?_
 subst he
 refine ⟨_, rfl, _, _, _, [], _, [], hW', ?_, hKeep W' hg, ?_, hg.frame _, fun h => by cases h⟩
 ·exact (trodAll_cons_mk (shut_bool Tryz.underlying4 _) trodAll_mk0)
 ·rfl
theorem digestBuilder_said : Rows.DigestBuilderSaid :=
 OpenClaim.holds_of_wide 8 Tryz.f8 rfl rfl rfl rfl rfl rfl rfl ⟨rfl, rfl, rfl, rfl, rfl⟩ rfl rfl rfl rfl rfl (by kernel_rfl) Tryz.func8 (by kernel_rfl)
  (of_decide_eq_true (by kernel_rfl)) (by unfold Func.isWrapper; first | (rw [if_pos (by decide +kernel)]; kernel_rfl) | (rw [if_neg (by decide +kernel)]; exact ⟨rfl, rfl⟩))
  (fun os started H enc _ => digestBuilder_lifted os started H enc)
theorem digestBuilder_holds : Rows.DigestBuilderCardSaid :=
 Claim7.holds_tied_plain_at .later [] [.data, .data, .data, .data, .sentinel, .sentinel, .pinned] true Rows.digestBuilderCard.stood.harness true
  digestBuilder_said (fun _ h => by cases h) (by kernel_rfl) (fun _ h => by cases h) digestBuilder_row_tie rfl ⟨rfl, rfl⟩ (by kernel_rfl) rfl
  (fun f fn hf hfn => by
   obtain rfl : f = 8 := Option.some.inj ((show Tryz.prog.funcNamed "bulletin/bulletinlaw50.DigestBuilder" = some 8 by kernel_rfl).symm.trans hf) |>.symm
   obtain rfl : fn = Tryz.f8 := (Option.some.inj (Tryz.func8.symm.trans hfn)).symm
   exact ⟨by kernel_rfl, fun j t ht => by
    rw [Tryz.params8] at ht
    have hm : t = 70 ∨ t = 46 := by
     rcases j with _ | _ | j
     all_goals simp at ht
     all_goals (subst ht; simp)
    rcases hm with rfl | rfl
    ·exact (show Tryz.prog.wantsStandIn 70 = false by kernel_rfl)
    ·exact (show Tryz.prog.wantsStandIn 46 = false by kernel_rfl)⟩)
  (by kernel_rfl)
end Go.Proofs.YtlchcjnbbhpiaaaGreatDoor
