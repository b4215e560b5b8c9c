/- The law EulerProves returns true for every input and leaves its arguments as they were: the tied card.
  Conditions: the listed package-level variables hold what the program's text lays (tied by the card). -/
import Derived.Test.YtlnhocgjgmhfgaaGreatDoorEVZ
import Derived.Test.YtlnhocgjgmhfgaaGreatDoorCJZ
import Derived.Test.YtlnhocgjgmhfgaaGreatDoorCFZ
namespace Go.Proofs.YtlnhocgjgmhfgaaGreatDoor.cEulerProves
open Go.ChangeShapes Go.WideShapes Go.ChangeAt Go.RowKit
open Go.ChangeMaps (open_string shut_string)

theorem reads (os : Os) {H : Type} (enc : TypeId × Value → H) : ∃ places, DataW.whole enc Tryz.prog ((laidWorld os).forCall (fun _ _ => 0) ⟨#[], #[.agg #[.int .i64 0, .slice none 0 0], .int .u8 0], []⟩).memory Tryz.f7.params.toList Rows.eulerProvesSpec.vars false (#[.agg #[.int .i64 0, .slice none 0 0], .int .u8 0] : Array Value).toList 8 = some ([.agg [.lit (.int .i64 0), .nil], .lit (.int .u8 0)], [], places) :=
  ⟨[], by kernel_rfl⟩
set_option maxRecDepth 100000 in
theorem lifted (os : Os) (started : os.Started) (H : Type) (enc : TypeId × Value → H) (F : Stop.Interp) :
    ReturnsInHanded {} Tryz.checked os 7 .any ((OpenSpec.ofChange Rows.eulerProvesSpec).preRow enc Tryz.prog Tryz.f7 Rows.eulerProvesRow.domain false Rows.eulerProvesRow.laid) (((OpenSpec.ofChange Rows.eulerProvesSpec).at F).post enc Tryz.prog Tryz.f7 false true false false) := by
  obtain ⟨places, hx⟩ := reads os enc
  refine returnsInHanded_of_row (C := Tryz.checked) (s := OpenSpec.ofChange Rows.eulerProvesSpec) cOwn started (by kernel_rfl) Tryz.func7
    (witness_row_atRef (enc := enc) (C := Tryz.checked) false (laidWorld os) #[.agg #[.int .i64 0, .slice none 0 0], .int .u8 0] rfl (by kernel_rfl) (by kernel_rfl) (by kernel_rfl)
      (OpenSpec.preRow_of_cond 8 hx (by kernel_rfl) (fun k hk => by cases hk) (by kernel_rfl) (laid_met os _))) ?_
  intro W base args ds gs before hval0 hW _ _ _ hL _ _
  have hval : ∀ (j : Nat) t v, Tryz.f7.params[j]? = some t → args[j]? = some v → Value.okWide Tryz.prog W .any base t v := hval0
  have hE : Env W := env_of hL
  have hW' := hW
  obtain ⟨p, q, hA0, hV0, rfl, _, _⟩ := hW
  have hA : DataW.TrodAll enc Tryz.prog W 0 (fun _ => true) true Tryz.f7.params.toList args.toList ds p := hA0
  rw [Tryz.params7] at hA hval
  obtain ⟨v0, v1, d0, d1, p0, p1, rfl, rfl, rfl, h0, h1⟩ := trodAll_two hA
  obtain ⟨rfl, rfl⟩ := trodVars_none hV0
  obtain ⟨n0, u0, es0, rfl, hv0⟩ := open_digraph (hval 0 28 v0 rfl rfl) h0
  obtain ⟨s1, rfl, rfl, rfl, ws1⟩ := open_int Tryz.underlying5 (hval 1 5 v1 rfl rfl) h1
  clear hV0 hval0
  refine (eulProves_any W n0 u0 es0 s1 hv0 (u8_wf ws1) hE).mono ?_
  rintro e W' ⟨v, rfl, rfl, bel⟩
  have e1 : ((OpenSpec.ofChange Rows.eulerProvesSpec).at F).fn H ([d0, .lit (.int .u8 s1)] ++ []) = { results := [.lit (.bool true)], args := [d0, .lit (.int .u8 s1)] } := rfl
  refine ⟨_, rfl, _, _, _, [], (p0 ++ []), [], hW', ?_, ?_, ?_, bel.frame _, fun h => by cases h⟩
  · rw [e1]; exact trodAll_mk1 (shut_bool Tryz.underlying4 _)
  · rw [e1]; exact again_all (by kernel_rfl) bel (by rw [Tryz.params7]; decide +kernel) hA0
  · rw [e1]; rfl

theorem k9 : (Rows.eulerProvesRow.inPlace == Tryz.prog.inPlace 7) = true := by kernel_rfl
theorem k10 : (Rows.eulerProvesRow.unfollowed == Tryz.prog.unfollowed 7) = true := by kernel_rfl
theorem k11 : (Rows.eulerProvesRow.recurses == Tryz.prog.recurses 7) = true := by kernel_rfl
theorem k12 : (Rows.eulerProvesRow.named == Tryz.prog.varsNamed 7) = true := by kernel_rfl
theorem k26 : (Rows.eulerProvesRow.lifted == Tryz.prog.liftsFinal) = true := by kernel_rfl
theorem said : Rows.EulerProvesSaid :=
  OpenClaim.holds_of_cond 7 Tryz.f7 rfl rfl rfl rfl rfl rfl rfl ⟨rfl, rfl, rfl, rfl, rfl⟩ rfl rfl rfl rfl rfl (by kernel_rfl) Tryz.func7 (by simp only [joinedFacts, Bool.and_eq_true]; exact ⟨⟨⟨⟨⟨⟨⟨⟨⟨⟨⟨⟨⟨⟨⟨⟨⟨⟨⟨⟨⟨⟨⟨⟨⟨⟨⟨⟨⟨⟨⟨by kernel_rfl, p_laid⟩, p_maps⟩, by kernel_rfl⟩, by kernel_rfl⟩, by kernel_rfl⟩, by kernel_rfl⟩, by kernel_rfl⟩, by kernel_rfl⟩, k9⟩, k10⟩, k11⟩, k12⟩, by kernel_rfl⟩, by kernel_rfl⟩, by kernel_rfl⟩, by kernel_rfl⟩, by kernel_rfl⟩, by kernel_rfl⟩, by kernel_rfl⟩, by kernel_rfl⟩, by kernel_rfl⟩, by kernel_rfl⟩, by kernel_rfl⟩, p_heard⟩, p_enter⟩, k26⟩, by kernel_rfl⟩, by kernel_rfl⟩, by kernel_rfl⟩, by kernel_rfl⟩, by kernel_rfl⟩)
    (of_decide_eq_true (by kernel_rfl)) (by unfold Func.isWrapper; first | (rw [if_pos (by decide +kernel)]; kernel_rfl) | (rw [if_neg (by decide +kernel)]; exact ⟨rfl, rfl⟩))
    (fun os started H enc _ F => by rw [OpenClaim.pre_eq_preRow]; exact lifted os started H enc F)
theorem plain (f : FuncId) (fn : Func) (hf : Tryz.pinned.checked.prog.funcNamed Rows.eulerProvesRow.func = some f) (hfn : Tryz.pinned.checked.prog.funcs[f]? = some fn) :
    true = Tryz.pinned.checked.prog.looks [] ∧ ∀ (j : Nat) t, fn.params[j]? = some t → Tryz.pinned.checked.prog.wantsStandIn t = false := by
  obtain rfl : f = 7 := Option.some.inj ((show Tryz.prog.funcNamed Rows.eulerProvesRow.func = some 7 by kernel_rfl).symm.trans hf) |>.symm
  obtain rfl : fn = Tryz.f7 := (Option.some.inj (Tryz.func7.symm.trans hfn)).symm
  refine ⟨by kernel_rfl, fun j t ht => ?_⟩
  rw [Tryz.params7] at ht
  have this := Array.mem_of_getElem? ht
  have wE : Tryz.prog.wantsStandIn 28 = false := by kernel_rfl
  have wU : Tryz.prog.wantsStandIn 5 = false := by kernel_rfl
  simp only [Array.mem_def, List.mem_cons, List.not_mem_nil, or_false] at this
  rcases this with h | h
  · rw [h]; exact wE
  · rw [h]; exact wU
theorem holds : Rows.EulerProvesCardSaid :=
  Claim7.holds_tied_plain_at .later [] _ _ _ _ said (fun _ h => by cases h) (by kernel_rfl) (fun _ h => by cases h) eulerProves_row_tie rfl ⟨rfl, rfl⟩ (by kernel_rfl) rfl plain (by kernel_rfl)
end Go.Proofs.YtlnhocgjgmhfgaaGreatDoor.cEulerProves
namespace Go.Proofs.YtlnhocgjgmhfgaaGreatDoor
theorem eulerProves_holds : Rows.EulerProvesCardSaid := cEulerProves.holds
end Go.Proofs.YtlnhocgjgmhfgaaGreatDoor
#print axioms Go.Proofs.YtlnhocgjgmhfgaaGreatDoor.eulerProves_holds
