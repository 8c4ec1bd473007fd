/- For every input the law DigestDivide returns true and leaves its arguments as they were: the row, and the card that ties its listed variables. Conditions: none. -/
import Derived.Test.YtlchcjnbbhpiaaaGreatDoorRows
import Derived.Test.YtlchcjnbbhpiaaaGreatDoorCards
import Derived.Test.YtlchcjnbbhpiaaaGreatDoorTie
import Derived.Test.YtlchcjnbbhpiaaaGreatDoorZl
import Derived.Test.YtlchcjnbbhpiaaaGreatDoorZb
import Derived.Test.YtlchcjnbbhpiaaaGreatDoorDzG
import Derived.ProofKit
import Derived.LaidMore
import Derived.Lay
import Derived.OpenShut
import Derived.ShutString
import Derived.SevenTiedAt
import Derived.Stop.Joined
namespace Go.Proofs.YtlchcjnbbhpiaaaGreatDoor
open Go.ChangeShapes Go.WideShapes Go.ChangeAt Go.RowKit
open Go.ChangeMaps (open_string shut_string)
set_option maxRecDepth 100000 in
theorem digestDivide_lifted (os : Os) (started : os.Started) (H : Type) (enc : TypeId × Value → H) :
  ReturnsInHanded {} Tryz.checked os 11 .any (fun w args => (Rows.digestDivideSpec.pre enc Tryz.prog Tryz.f11 [] false w args ∧ laidMetH Tryz.prog laidL7 w) ∧ sizedMet enc Tryz.prog Tryz.f11 (OpenSpec.ofChange Rows.digestDivideSpec) false w args)
   (Rows.digestDivideSpec.post enc Tryz.prog Tryz.f11 false true false false) := by
 refine handed_and_shaped (C := Tryz.checked) (X := fun w _ => laidMetH Tryz.prog laidL7 w) (fun _ _ _ hh h => h.of_heap hh) own started (by kernel_rfl) Tryz.func11
  (ChangeSpec.witness_shaped (enc := enc) (C := Tryz.checked) (os := os) (X := fun w _ => laidMetH Tryz.prog laidL7 w) false (World.laidAll Tryz.prog os laidL7) #[.agg #[.string ByteArray.empty, .int .i64 0, .int .i64 0, .int .i64 0, .slice none 0 0], .int .i64 0, .int .i64 0] 8 (World.laidAll_os _ _ _) (World.shaped_of_ZipB (by kernel_rfl) (by kernel_rfl)) (by kernel_rfl) (by kernel_rfl) (by kernel_rfl) (door_met7 os _)) ?_
 intro W base args ds gs before hval0 hW hwt hX hSh
 have hval : ∀ (j : Nat) t v, Tryz.f11.params[j]? = some t → args[j]? = some v → Value.okWide Tryz.prog W .any base t v := hval0
 have hW' := hW
 obtain ⟨p, q, hA0, hV, rfl, hfz, hnd⟩ := hW
 have hA : DataW.TrodAll enc Tryz.prog W 0 (fun _ => true) true Tryz.f11.params.toList args.toList ds p := hA0
 have hKeep : ∀ W' : World, Below W.heap.size W W' → DataW.TrodAll enc Tryz.prog W' 0 (fun b => decide (b < W.heap.size)) true Tryz.f11.params.toList args.toList ds p := fun W' hb => Keep.args_keep (by kernel_rfl) (by kernel_rfl) (by kernel_rfl) (by kernel_rfl) hA0 hb
 rw [Tryz.params11] at hA hval hwt
 obtain ⟨v0, vs0, d0, ds0, p0, q0, hargs, rfl, rfl, h0, r0⟩ := trodAll_cons hA
 obtain ⟨v1, vs1, d1, ds1, p1, q1, rfl, rfl, rfl, h1, r1⟩ := trodAll_cons r0
 obtain ⟨v2, vs2, d2, ds2, p2, q2, rfl, rfl, rfl, h2, r2⟩ := trodAll_cons r1
 obtain ⟨rfl, rfl, rfl⟩ := trodAll_nil r2
 obtain rfl : args = #[v0, v1, v2] := by cases args; simp_all
 obtain ⟨rfl, rfl⟩ := trodVars_none hV
 obtain ⟨x0, A0, c0, rfl, hr0, hc0, hm0, ht0, hx0⟩ := dgarg_at (hval 0 24 v0 rfl rfl) h0
 obtain ⟨a1, rfl, _, _, w1⟩ := open_int Tryz.underlying3 (hval 1 3 v1 rfl rfl) h1
 obtain ⟨a2, rfl, _, _, w2⟩ := open_int Tryz.underlying3 (hval 2 3 v2 rfl rfl) h2
 have hE := env_of_shaped hSh
 have hG := gld_of_laid hE hX
 simp only [List.append_nil] at hW'
 refine (digestDivide_walk x0 A0 c0 a1 a2 W hr0 hc0 hm0 ht0 hx0 hG).mono fun e W' ⟨he, hg⟩ => ?_
 subst he
 refine ⟨_, rfl, _, _, _, [], _, [], hW', ?_, hKeep W' hg, ?_, hg.frame _, fun h => by cases h⟩
 ·exact (trodAll_cons_mk (shut_bool Tryz.underlying4 _) trodAll_mk0)
 ·rfl
set_option maxRecDepth 100000 in
set_option maxHeartbeats 32000000 in
/-- What the row asks of the program, fact by fact: the kernel looks at each by itself. -/
theorem digestDivide_facts : joinedFacts Tryz.pinned.checked.prog 11 Tryz.f11 Rows.digestDivideSpec Rows.digestDivideRow = true := by
 unfold joinedFacts
 simp only [Bool.and_eq_true]
 repeat' apply And.intro
 all_goals (as_aux_lemma => kernel_rfl)
theorem digestDivide_said : Rows.DigestDivideSaid :=
 OpenClaim.holds_of_wide 11 Tryz.f11 rfl rfl rfl rfl rfl rfl rfl ⟨rfl, rfl, rfl, rfl, rfl⟩ rfl rfl rfl rfl rfl (by kernel_rfl) Tryz.func11 digestDivide_facts
  (of_decide_eq_true (by kernel_rfl)) (by unfold Func.isWrapper; first | (rw [if_pos (by decide +kernel)]; kernel_rfl) | (rw [if_neg (by decide +kernel)]; exact ⟨rfl, rfl⟩))
  (fun os started H enc _ => digestDivide_lifted os started H enc)
theorem digestDivide_holds : Rows.DigestDivideCardSaid :=
 Claim7.holds_tied_plain_at .later [] [.data, .data, .data, .data, .sentinel, .sentinel, .pinned] true Rows.digestDivideCard.stood.harness true
  digestDivide_said (fun _ h => by cases h) (by kernel_rfl) (fun _ h => by cases h) digestDivide_row_tie rfl ⟨rfl, rfl⟩ (by kernel_rfl) rfl
  (fun f fn hf hfn => by
   obtain rfl : f = 11 := Option.some.inj ((show Tryz.prog.funcNamed "bulletin/bulletinlaw50.DigestDivide" = some 11 by kernel_rfl).symm.trans hf) |>.symm
   obtain rfl : fn = Tryz.f11 := (Option.some.inj (Tryz.func11.symm.trans hfn)).symm
   exact ⟨by kernel_rfl, fun j t ht => by
    rw [Tryz.params11] at ht
    have hm : t = 24 ∨ t = 3 := by
     rcases j with _ | _ | _ | j
     all_goals simp at ht
     all_goals (subst ht; simp)
    rcases hm with rfl | rfl
    ·exact (show Tryz.prog.wantsStandIn 24 = false by kernel_rfl)
    ·exact (show Tryz.prog.wantsStandIn 3 = false by kernel_rfl)⟩)
  (by kernel_rfl)
end Go.Proofs.YtlchcjnbbhpiaaaGreatDoor
