/- The law IntegerCombines returns true for every input and leaves its arguments as they were: the tied card. -/
import Derived.Test.YtcjcknncajinpaaDoorLB
import Derived.Test.YtcjcknncajinpaaDoorC0
namespace Go.Proofs.YtcjcknncajinpaaDoor.cIntegerCombines
open Go.ChangeShapes Go.WideShapes Go.ChangeAt Go.RowKit
open Go.ChangeMaps (open_string shut_string)

theorem reads (os : Os) {H : Type} (enc : TypeId × Value → H) : ∃ places, DataW.whole enc Tryd.prog ((laidWorld os).forCall (fun _ _ => 0) ⟨#[], #[.string ⟨#[]⟩, .string ⟨#[]⟩, .string ⟨#[]⟩], []⟩).memory Tryd.f8.params.toList Rows.integerCombinesSpec.vars false (#[.string ⟨#[]⟩, .string ⟨#[]⟩, .string ⟨#[]⟩] : Array Value).toList 8 = some ([.lit (.string []), .lit (.string []), .lit (.string [])], [], places) :=
  ⟨[], by kernel_rfl⟩
set_option maxRecDepth 100000 in
theorem lifted (os : Os) (started : os.Started) (H : Type) (enc : TypeId × Value → H) (F : Stop.Interp) :
    ReturnsInHanded {} Tryd.checked os 8 .any ((OpenSpec.ofChange Rows.integerCombinesSpec).preRow enc Tryd.prog Tryd.f8 Rows.integerCombinesRow.domain false Rows.integerCombinesRow.laid) (((OpenSpec.ofChange Rows.integerCombinesSpec).at F).post enc Tryd.prog Tryd.f8 false true false false) := by
  obtain ⟨places, hx⟩ := reads os enc
  refine returnsInHanded_of_row (C := Tryd.checked) (s := OpenSpec.ofChange Rows.integerCombinesSpec) cOwn started (by kernel_rfl) Tryd.func8
    (witness_row_atRef (enc := enc) (C := Tryd.checked) false (laidWorld os) #[.string ⟨#[]⟩, .string ⟨#[]⟩, .string ⟨#[]⟩] rfl (by kernel_rfl) (by kernel_rfl) (by kernel_rfl)
      (OpenSpec.preRow_of_cond 8 hx (by kernel_rfl) (fun k hk => by cases hk) (by kernel_rfl) (laid_met os _))) ?_
  intro W base args ds gs before hval0 hW _ _ _ hL _ _
  have hval : ∀ (j : Nat) t v, Tryd.f8.params[j]? = some t → args[j]? = some v → Value.okWide Tryd.prog W .any base t v := hval0
  have hE : Env W := env_of hL
  have hW' := hW
  obtain ⟨p, q, hA0, hV0, rfl, _, _⟩ := hW
  have hA : DataW.TrodAll enc Tryd.prog W 0 (fun _ => true) true Tryd.f8.params.toList args.toList ds p := hA0
  rw [Tryd.params8] at hA hval
  obtain ⟨v0, v1, v2, d0, d1, d2, p0, p1, p2, rfl, rfl, rfl, h0, h1, h2⟩ := trodAll_three hA
  obtain ⟨rfl, rfl⟩ := trodVars_none hV0
  obtain ⟨s0, rfl, rfl, rfl, ws0⟩ := open_string Tryd.underlying22 (hval 0 22 v0 rfl rfl) h0
  obtain ⟨s1, rfl, rfl, rfl, ws1⟩ := open_string Tryd.underlying22 (hval 1 22 v1 rfl rfl) h1
  obtain ⟨s2, rfl, rfl, rfl, ws2⟩ := open_string Tryd.underlying22 (hval 2 22 v2 rfl rfl) h2
  clear hV0 hval0
  refine (combines_any W s0 s1 s2 (by unfold maxLen at ws0; omega) (by unfold maxLen at ws1; omega) (by unfold maxLen at ws2; omega) hE).mono ?_
  rintro e W' ⟨v, rfl, rfl, bel⟩
  have e1 : ((OpenSpec.ofChange Rows.integerCombinesSpec).at F).fn H ([.lit (.string s0.data.toList), .lit (.string s1.data.toList), .lit (.string s2.data.toList)] ++ []) = { results := [.lit (.bool true)], args := [.lit (.string s0.data.toList), .lit (.string s1.data.toList), .lit (.string s2.data.toList)] } := rfl
  refine ⟨_, rfl, _, _, _, [], [], [], hW', ?_, ?_, ?_, bel.frame _, fun h => by cases h⟩
  · rw [e1]; exact trodAll_mk1 (shut_bool Tryd.underlying4 _)
  · rw [e1]; exact trodAll_mk3 (shut_string Tryd.underlying22 ws0) (shut_string Tryd.underlying22 ws1) (shut_string Tryd.underlying22 ws2)
  · rw [e1]; rfl

theorem said : Rows.IntegerCombinesSaid :=
  OpenClaim.holds_of_cond 8 Tryd.f8 rfl rfl rfl rfl rfl rfl rfl ⟨rfl, rfl, rfl, rfl, rfl⟩ rfl rfl rfl rfl rfl (by kernel_rfl) Tryd.func8 (by kernel_rfl)
    (of_decide_eq_true (by kernel_rfl)) (by unfold Func.isWrapper; first | (rw [if_pos (by decide +kernel)]; kernel_rfl) | (rw [if_neg (by decide +kernel)]; exact ⟨rfl, rfl⟩))
    (fun os started H enc _ F => by rw [OpenClaim.pre_eq_preRow]; exact lifted os started H enc F)
theorem plain (f : FuncId) (fn : Func) (hf : Tryd.pinned.checked.prog.funcNamed Rows.integerCombinesRow.func = some f) (hfn : Tryd.pinned.checked.prog.funcs[f]? = some fn) :
    true = Tryd.pinned.checked.prog.looks [] ∧ ∀ (j : Nat) t, fn.params[j]? = some t → Tryd.pinned.checked.prog.wantsStandIn t = false := by
  obtain rfl : f = 8 := Option.some.inj ((show Tryd.prog.funcNamed Rows.integerCombinesRow.func = some 8 by kernel_rfl).symm.trans hf) |>.symm
  obtain rfl : fn = Tryd.f8 := (Option.some.inj (Tryd.func8.symm.trans hfn)).symm
  refine ⟨by kernel_rfl, fun j t ht => ?_⟩
  rw [Tryd.params8] at ht
  have this := Array.mem_of_getElem? ht
  have wS : Tryd.prog.wantsStandIn 22 = false := by kernel_rfl
  simp only [Array.mem_def, List.mem_cons, List.not_mem_nil, or_false] at this
  rcases this with h | h | h
  · rw [h]; exact wS
  · rw [h]; exact wS
  · rw [h]; exact wS
theorem holds : Rows.IntegerCombinesCardSaid :=
  Claim7.holds_tied_plain_at .later [] _ _ _ _ said (fun _ h => by cases h) (by kernel_rfl) (fun _ h => by cases h) integerCombines_row_tie rfl ⟨rfl, rfl⟩ (by kernel_rfl) rfl plain (by kernel_rfl)
end Go.Proofs.YtcjcknncajinpaaDoor.cIntegerCombines
namespace Go.Proofs.YtcjcknncajinpaaDoor
theorem integerCombines_holds : Rows.IntegerCombinesCardSaid := cIntegerCombines.holds
end Go.Proofs.YtcjcknncajinpaaDoor
#print axioms Go.Proofs.YtcjcknncajinpaaDoor.integerCombines_holds
