/- The law EulerDoubles returns true for every input and leaves its arguments as they were: the tied card.
  Conditions: the listed package-level variables hold what the program's text lays (tied by the card). -/
import Derived.Test.YtlnhocgjgmhfgaaGreatDoorEQZ
import Derived.Test.YtlnhocgjgmhfgaaGreatDoorCJZ
import Derived.Test.YtlnhocgjgmhfgaaGreatDoorCFZ
namespace Go.Proofs.YtlnhocgjgmhfgaaGreatDoor.cEulerDoubles
open Go.ChangeShapes Go.WideShapes Go.ChangeAt Go.RowKit
open Go.ChangeMaps (open_string shut_string)

theorem reads (os : Os) {H : Type} (enc : TypeId × Value → H) : ∃ places, DataW.whole enc Tryz.prog ((laidWorld os).forCall (fun _ _ => 0) ⟨#[], #[.agg #[.int .i64 0, .slice none 0 0]], []⟩).memory Tryz.f3.params.toList Rows.eulerDoublesSpec.vars false (#[.agg #[.int .i64 0, .slice none 0 0]] : Array Value).toList 8 = some ([.agg [.lit (.int .i64 0), .nil]], [], places) :=
  ⟨[], by kernel_rfl⟩
set_option maxRecDepth 100000 in
theorem lifted (os : Os) (started : os.Started) (H : Type) (enc : TypeId × Value → H) (F : Stop.Interp) :
    ReturnsInHanded {} Tryz.checked os 3 .any ((OpenSpec.ofChange Rows.eulerDoublesSpec).preRow enc Tryz.prog Tryz.f3 Rows.eulerDoublesRow.domain false Rows.eulerDoublesRow.laid) (((OpenSpec.ofChange Rows.eulerDoublesSpec).at F).post enc Tryz.prog Tryz.f3 false true false false) := by
  obtain ⟨places, hx⟩ := reads os enc
  refine returnsInHanded_of_row (C := Tryz.checked) (s := OpenSpec.ofChange Rows.eulerDoublesSpec) cOwn started (by kernel_rfl) Tryz.func3
    (witness_row_atRef (enc := enc) (C := Tryz.checked) false (laidWorld os) #[.agg #[.int .i64 0, .slice none 0 0]] rfl (by kernel_rfl) (by kernel_rfl) (by kernel_rfl)
      (OpenSpec.preRow_of_cond 8 hx (by kernel_rfl) (fun k hk => by cases hk) (by kernel_rfl) (laid_met os _))) ?_
  intro W base args ds gs before hval0 hW _ _ _ hL _ _
  have hval : ∀ (j : Nat) t v, Tryz.f3.params[j]? = some t → args[j]? = some v → Value.okWide Tryz.prog W .any base t v := hval0
  have hE : Env W := env_of hL
  have hW' := hW
  obtain ⟨p, q, hA0, hV0, rfl, _, _⟩ := hW
  have hA : DataW.TrodAll enc Tryz.prog W 0 (fun _ => true) true Tryz.f3.params.toList args.toList ds p := hA0
  rw [Tryz.params3] at hA hval
  obtain ⟨v0, d0, rfl, rfl, h0⟩ := trodAll_one hA
  obtain ⟨rfl, rfl⟩ := trodVars_none hV0
  obtain ⟨n0, u0, es0, rfl, hv0⟩ := open_graph (hval 0 24 v0 rfl rfl) h0
  clear hV0 hval0
  refine (eulDoubles_any W n0 u0 es0 hv0 hE).mono ?_
  rintro e W' ⟨v, rfl, rfl, bel⟩
  have e1 : ((OpenSpec.ofChange Rows.eulerDoublesSpec).at F).fn H ([d0] ++ []) = { results := [.lit (.bool true)], args := [d0] } := rfl
  refine ⟨_, rfl, _, _, _, [], p, [], hW', ?_, ?_, ?_, bel.frame _, fun h => by cases h⟩
  · rw [e1]; exact trodAll_mk1 (shut_bool Tryz.underlying4 _)
  · rw [e1]; exact again_all (by kernel_rfl) bel (by rw [Tryz.params3]; decide +kernel) hA0
  · rw [e1]; rfl

theorem k9 : (Rows.eulerDoublesRow.inPlace == Tryz.prog.inPlace 3) = true := by kernel_rfl
theorem k10 : (Rows.eulerDoublesRow.unfollowed == Tryz.prog.unfollowed 3) = true := by kernel_rfl
theorem k11 : (Rows.eulerDoublesRow.recurses == Tryz.prog.recurses 3) = true := by kernel_rfl
theorem k12 : (Rows.eulerDoublesRow.named == Tryz.prog.varsNamed 3) = true := by kernel_rfl
theorem k26 : (Rows.eulerDoublesRow.lifted == Tryz.prog.liftsFinal) = true := by kernel_rfl
theorem said : Rows.EulerDoublesSaid :=
  OpenClaim.holds_of_cond 3 Tryz.f3 rfl rfl rfl rfl rfl rfl rfl ⟨rfl, rfl, rfl, rfl, rfl⟩ rfl rfl rfl rfl rfl (by kernel_rfl) Tryz.func3 (by simp only [joinedFacts, Bool.and_eq_true]; exact ⟨⟨⟨⟨⟨⟨⟨⟨⟨⟨⟨⟨⟨⟨⟨⟨⟨⟨⟨⟨⟨⟨⟨⟨⟨⟨⟨⟨⟨⟨⟨by kernel_rfl, p_laid⟩, p_maps⟩, by kernel_rfl⟩, by kernel_rfl⟩, by kernel_rfl⟩, by kernel_rfl⟩, by kernel_rfl⟩, by kernel_rfl⟩, k9⟩, k10⟩, k11⟩, k12⟩, by kernel_rfl⟩, by kernel_rfl⟩, by kernel_rfl⟩, by kernel_rfl⟩, by kernel_rfl⟩, by kernel_rfl⟩, by kernel_rfl⟩, by kernel_rfl⟩, by kernel_rfl⟩, by kernel_rfl⟩, by kernel_rfl⟩, p_heard⟩, p_enter⟩, k26⟩, by kernel_rfl⟩, by kernel_rfl⟩, by kernel_rfl⟩, by kernel_rfl⟩, by kernel_rfl⟩)
    (of_decide_eq_true (by kernel_rfl)) (by unfold Func.isWrapper; first | (rw [if_pos (by decide +kernel)]; kernel_rfl) | (rw [if_neg (by decide +kernel)]; exact ⟨rfl, rfl⟩))
    (fun os started H enc _ F => by rw [OpenClaim.pre_eq_preRow]; exact lifted os started H enc F)
theorem plain (f : FuncId) (fn : Func) (hf : Tryz.pinned.checked.prog.funcNamed Rows.eulerDoublesRow.func = some f) (hfn : Tryz.pinned.checked.prog.funcs[f]? = some fn) :
    true = Tryz.pinned.checked.prog.looks [] ∧ ∀ (j : Nat) t, fn.params[j]? = some t → Tryz.pinned.checked.prog.wantsStandIn t = false := by
  obtain rfl : f = 3 := Option.some.inj ((show Tryz.prog.funcNamed Rows.eulerDoublesRow.func = some 3 by kernel_rfl).symm.trans hf) |>.symm
  obtain rfl : fn = Tryz.f3 := (Option.some.inj (Tryz.func3.symm.trans hfn)).symm
  refine ⟨by kernel_rfl, fun j t ht => ?_⟩
  rw [Tryz.params3] at ht
  have this := Array.mem_of_getElem? ht
  have wG : Tryz.prog.wantsStandIn 24 = false := by kernel_rfl
  simp only [Array.mem_def, List.mem_cons, List.not_mem_nil, or_false] at this
  rw [this]; exact wG
theorem holds : Rows.EulerDoublesCardSaid :=
  Claim7.holds_tied_plain_at .later [] _ _ _ _ said (fun _ h => by cases h) (by kernel_rfl) (fun _ h => by cases h) eulerDoubles_row_tie rfl ⟨rfl, rfl⟩ (by kernel_rfl) rfl plain (by kernel_rfl)
end Go.Proofs.YtlnhocgjgmhfgaaGreatDoor.cEulerDoubles
namespace Go.Proofs.YtlnhocgjgmhfgaaGreatDoor
theorem eulerDoubles_holds : Rows.EulerDoublesCardSaid := cEulerDoubles.holds
end Go.Proofs.YtlnhocgjgmhfgaaGreatDoor
#print axioms Go.Proofs.YtlnhocgjgmhfgaaGreatDoor.eulerDoubles_holds
