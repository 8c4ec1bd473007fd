/- For every input the law StatsParse returns true and leaves its arguments as they were: the row, and the card that ties its listed variables. Conditions: none. -/
import Derived.Test.YthgefcoaaommkaaGreatDoorRows
import Derived.Test.YthgefcoaaommkaaGreatDoorCards
import Derived.Test.YthgefcoaaommkaaGreatDoorTie
import Derived.Test.YthgefcoaaommkaaGreatDoorZg
import Derived.Test.YthgefcoaaommkaaGreatDoorZa
import Derived.Test.YthgefcoaaommkaaGreatDoorSyP
import Derived.ProofKit
import Derived.LaidMore
import Derived.Lay
import Derived.OpenShut
import Derived.ShutString
import Derived.SevenTiedAt
import Derived.Stop.Joined
namespace Go.Proofs.YthgefcoaaommkaaGreatDoor
open Go.ChangeShapes Go.WideShapes Go.ChangeAt Go.RowKit
open Go.ChangeMaps (open_string shut_string)

set_option maxRecDepth 100000 in
theorem statsParse_lifted (os : Os) (started : os.Started) (H : Type) (enc : TypeId × Value → H) :
    ReturnsInHanded {} Tryz.checked os 7 .any (fun w args => (Rows.statsParseSpec.pre enc Tryz.prog Tryz.f7 [] false w args ∧ laidMetH Tryz.prog laidL5 w) ∧ sizedMet enc Tryz.prog Tryz.f7 (OpenSpec.ofChange Rows.statsParseSpec) false w args)
      (Rows.statsParseSpec.post enc Tryz.prog Tryz.f7 false true false false) := by
  refine handed_and_shaped (C := Tryz.checked) (X := fun w _ => laidMetH Tryz.prog laidL5 w) (fun _ _ _ hh h => h.of_heap hh) own started (by kernel_rfl) Tryz.func7
    (ChangeSpec.witness_shaped (enc := enc) (C := Tryz.checked) (os := os) (X := fun w _ => laidMetH Tryz.prog laidL5 w) false (World.laidAll Tryz.prog os laidL5) #[.string ByteArray.empty] 8 (World.laidAll_os _ _ _) (World.shaped_of_ZipB (by kernel_rfl) (by kernel_rfl)) (by kernel_rfl) (by kernel_rfl) (by kernel_rfl) (door_met5 os _)) ?_
  intro W base args ds gs before hval0 hW hwt hX hSh
  have hval : ∀ (j : Nat) t v, Tryz.f7.params[j]? = some t → args[j]? = some v → Value.okWide Tryz.prog W .any base t v := hval0
  have hW' := hW
  obtain ⟨p, q, hA0, hV, rfl, hfz, hnd⟩ := hW
  have hA : DataW.TrodAll enc Tryz.prog W 0 (fun _ => true) true Tryz.f7.params.toList args.toList ds p := hA0
  have hKeep : ∀ W' : World, Below W.heap.size W W' → DataW.TrodAll enc Tryz.prog W' 0 (fun b => decide (b < W.heap.size)) true Tryz.f7.params.toList args.toList ds p := fun W' hb => Keep.args_keep (by kernel_rfl) (by kernel_rfl) (by kernel_rfl) (by kernel_rfl) hA0 hb
  rw [Tryz.params7] at hA hval hwt
  obtain ⟨v0, vs0, d0, ds0, p0, q0, hargs, rfl, rfl, h0, r0⟩ := trodAll_cons hA
  obtain ⟨rfl, rfl, rfl⟩ := trodAll_nil r0
  obtain rfl : args = #[v0] := by cases args; simp_all
  obtain ⟨rfl, rfl⟩ := trodVars_none hV
  obtain ⟨b0, rfl, _, _, u0⟩ := open_string Tryz.underlying9 (hval 0 9 v0 rfl rfl) h0
  obtain ⟨a0, rfl⟩ : ∃ s : List UInt8, b0 = ⟨s.toArray⟩ := ⟨b0.data.toList, by cases b0; simp⟩
  have w0 : a0.length ≤ maxLen := by have h : a0.toArray.size ≤ maxLen := u0; rwa [List.size_toArray] at h
  have hE := env_of_shaped hSh
  have hT := tab_of_laid hX
  simp only [List.append_nil] at hW'
  refine (statsParse_walk a0 w0 W  hE hT).mono fun e W' ⟨he, hg⟩ => ?_
  subst he
  refine ⟨_, rfl, _, _, _, [], _, [], hW', ?_, hKeep W' hg, ?_, hg.frame _, fun h => by cases h⟩
  · exact (trodAll_cons_mk (shut_bool Tryz.underlying4 _) trodAll_mk0)
  · rfl

theorem statsParse_said : Rows.StatsParseSaid :=
  OpenClaim.holds_of_wide 7 Tryz.f7 rfl rfl rfl rfl rfl rfl rfl ⟨rfl, rfl, rfl, rfl, rfl⟩ rfl rfl rfl rfl rfl (by kernel_rfl) Tryz.func7 (by kernel_rfl)
    (of_decide_eq_true (by kernel_rfl)) (by unfold Func.isWrapper; first | (rw [if_pos (by decide +kernel)]; kernel_rfl) | (rw [if_neg (by decide +kernel)]; exact ⟨rfl, rfl⟩))
    (fun os started H enc _ => statsParse_lifted os started H enc)

theorem statsParse_holds : Rows.StatsParseCardSaid :=
  Claim7.holds_tied_plain_at .later [] [.data, .data, .data, .data, .pinned] true Rows.statsParseCard.stood.harness true
    statsParse_said (fun _ h => by cases h) (by kernel_rfl) (fun _ h => by cases h) statsParse_row_tie rfl ⟨rfl, rfl⟩ (by kernel_rfl) rfl
    (fun f fn hf hfn => by
      obtain rfl : f = 7 := Option.some.inj ((show Tryz.prog.funcNamed "bulletin/bulletinlaw52.StatsParse" = some 7 by kernel_rfl).symm.trans hf) |>.symm
      obtain rfl : fn = Tryz.f7 := (Option.some.inj (Tryz.func7.symm.trans hfn)).symm
      exact ⟨by kernel_rfl, fun j t ht => by
        rw [Tryz.params7] at ht
        have hm : t = 9 := by
          rcases j with _ | j
          all_goals simp at ht
          all_goals (subst ht; simp)
        subst hm
        exact (show Tryz.prog.wantsStandIn 9 = false by kernel_rfl)⟩)
    (by kernel_rfl)

end Go.Proofs.YthgefcoaaommkaaGreatDoor
