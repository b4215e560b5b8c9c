/- The law MatrixProducts returns true for every input and leaves its arguments as they were: the tied card.
  Conditions: the listed package-level variables hold what the program's text lays (tied by the card). -/
import Derived.Test.YtfhdmhifdaiehaaGreatDoorNPZ
import Derived.Test.YtfhdmhifdaiehaaGreatDoorPk7
import Derived.Test.YtfhdmhifdaiehaaGreatDoorCMZ
namespace Go.Proofs.YtfhdmhifdaiehaaGreatDoor.cMatrixProducts
open Go.ChangeShapes Go.WideShapes Go.ChangeAt Go.RowKit
open Go.ChangeMaps (open_string shut_string)

theorem reads (os : Os) {H : Type} (enc : TypeId × Value → H) : ∃ places, DataW.whole enc Tryz.prog ((laidWorld os).forCall (fun _ _ => 0) ⟨#[], #[.agg #[.int .i64 0, .int .i64 0, .slice none 0 0], .agg #[.int .i64 0, .int .i64 0, .slice none 0 0], .slice none 0 0], []⟩).memory Tryz.f11.params.toList Rows.matrixProductsSpec.vars false (#[.agg #[.int .i64 0, .int .i64 0, .slice none 0 0], .agg #[.int .i64 0, .int .i64 0, .slice none 0 0], .slice none 0 0] : Array Value).toList 8 = some ([.agg [.lit (.int .i64 0), .lit (.int .i64 0), .nil], .agg [.lit (.int .i64 0), .lit (.int .i64 0), .nil], .nil], [], places) :=
  ⟨[], by kernel_rfl⟩
set_option maxRecDepth 100000 in
theorem lifted (os : Os) (started : os.Started) (H : Type) (enc : TypeId × Value → H) (F : Stop.Interp) :
    ReturnsInHanded {} Tryz.checked os 11 .any ((OpenSpec.ofChange Rows.matrixProductsSpec).preRow enc Tryz.prog Tryz.f11 Rows.matrixProductsRow.domain false Rows.matrixProductsRow.laid) (((OpenSpec.ofChange Rows.matrixProductsSpec).at F).post enc Tryz.prog Tryz.f11 false true false false) := by
  obtain ⟨places, hx⟩ := reads os enc
  refine returnsInHanded_of_row (C := Tryz.checked) (s := OpenSpec.ofChange Rows.matrixProductsSpec) cOwn started (by kernel_rfl) Tryz.func11
    (witness_row_atRef (enc := enc) (C := Tryz.checked) false (laidWorld os) #[.agg #[.int .i64 0, .int .i64 0, .slice none 0 0], .agg #[.int .i64 0, .int .i64 0, .slice none 0 0], .slice none 0 0] rfl (by kernel_rfl) (by kernel_rfl) (by kernel_rfl)
      (OpenSpec.preRow_of_cond 8 hx (by kernel_rfl) (fun k hk => by cases hk) (by kernel_rfl) (laid_met os _))) ?_
  intro W base args ds gs before hval0 hW _ _ _ hL _ _
  have hval : ∀ (j : Nat) t v, Tryz.f11.params[j]? = some t → args[j]? = some v → Value.okWide Tryz.prog W .any base t v := hval0
  have hE : Env W := env_of hL
  have hW' := hW
  obtain ⟨p, q, hA0, hV0, rfl, _, _⟩ := hW
  have hA : DataW.TrodAll enc Tryz.prog W 0 (fun _ => true) true Tryz.f11.params.toList args.toList ds p := hA0
  rw [Tryz.params11] at hA hval
  obtain ⟨v0, v1, v2, d0, d1, d2, p0, p1, p2, rfl, rfl, rfl, h0, h1, h2⟩ := trodAll_three hA
  obtain ⟨rfl, rfl⟩ := trodVars_none hV0
  obtain ⟨R0, C0, u0, s0, rfl, hs0, ws0, wR0, wC0⟩ := open_matrix (hval 0 24 v0 rfl rfl) h0
  obtain ⟨R1, C1, u1, s1, rfl, hs1, ws1, wR1, wC1⟩ := open_matrix (hval 1 24 v1 rfl rfl) h1
  obtain ⟨s2, hs2, ws2⟩ := open_texts (hval 2 22 v2 rfl rfl) h2
  clear hV0 hval0
  refine (products03_any W R0 C0 u0 s0 hs0 R1 C1 u1 s1 hs1 v2 s2 hs2 (fun s hs => by have := ws0 s hs; unfold maxLen at this; omega) (fun s hs => by have := ws1 s hs; unfold maxLen at this; omega) (fun s hs => by have := ws2 s hs; unfold maxLen at this; omega) hE).mono ?_
  rintro e W' ⟨v, rfl, rfl, bel⟩
  have e1 : ((OpenSpec.ofChange Rows.matrixProductsSpec).at F).fn H ([d0, d1, d2] ++ []) = { results := [.lit (.bool true)], args := [d0, d1, d2] } := rfl
  refine ⟨_, rfl, _, _, _, [], (p0 ++ p1 ++ p2), [], hW', ?_, ?_, ?_, bel.frame _, fun h => by cases h⟩
  · rw [e1]; exact trodAll_mk1 (shut_bool Tryz.underlying4 _)
  · rw [e1]; exact again_all (by kernel_rfl) bel (by rw [Tryz.params11]; decide +kernel) hA0
  · rw [e1]; rfl

theorem said : Rows.MatrixProductsSaid :=
  OpenClaim.holds_of_cond 11 Tryz.f11 rfl rfl rfl rfl rfl rfl rfl ⟨rfl, rfl, rfl, rfl, rfl⟩ rfl rfl rfl rfl rfl (by kernel_rfl) Tryz.func11 (by kernel_rfl)
    (of_decide_eq_true (by kernel_rfl)) (by unfold Func.isWrapper; first | (rw [if_pos (by decide +kernel)]; kernel_rfl) | (rw [if_neg (by decide +kernel)]; exact ⟨rfl, rfl⟩))
    (fun os started H enc _ F => by rw [OpenClaim.pre_eq_preRow]; exact lifted os started H enc F)
theorem plain (f : FuncId) (fn : Func) (hf : Tryz.pinned.checked.prog.funcNamed Rows.matrixProductsRow.func = some f) (hfn : Tryz.pinned.checked.prog.funcs[f]? = some fn) :
    true = Tryz.pinned.checked.prog.looks [] ∧ ∀ (j : Nat) t, fn.params[j]? = some t → Tryz.pinned.checked.prog.wantsStandIn t = false := by
  obtain rfl : f = 11 := Option.some.inj ((show Tryz.prog.funcNamed Rows.matrixProductsRow.func = some 11 by kernel_rfl).symm.trans hf) |>.symm
  obtain rfl : fn = Tryz.f11 := (Option.some.inj (Tryz.func11.symm.trans hfn)).symm
  refine ⟨by kernel_rfl, fun j t ht => ?_⟩
  rw [Tryz.params11] at ht
  have this := Array.mem_of_getElem? ht
  have wL : Tryz.prog.wantsStandIn 22 = false := by kernel_rfl
  have wM : Tryz.prog.wantsStandIn 24 = false := by kernel_rfl
  simp only [Array.mem_def, List.mem_cons, List.not_mem_nil, or_false] at this
  rcases this with h | h | h
  · rw [h]; exact wM
  · rw [h]; exact wM
  · rw [h]; exact wL
theorem holds : Rows.MatrixProductsCardSaid :=
  Claim7.holds_tied_plain_at .later [] _ _ _ _ said (fun _ h => by cases h) (by kernel_rfl) (fun _ h => by cases h) matrixProducts_row_tie rfl ⟨rfl, rfl⟩ (by kernel_rfl) rfl plain (by kernel_rfl)
end Go.Proofs.YtfhdmhifdaiehaaGreatDoor.cMatrixProducts
namespace Go.Proofs.YtfhdmhifdaiehaaGreatDoor
theorem matrixProducts_holds : Rows.MatrixProductsCardSaid := cMatrixProducts.holds
end Go.Proofs.YtfhdmhifdaiehaaGreatDoor
#print axioms Go.Proofs.YtfhdmhifdaiehaaGreatDoor.matrixProducts_holds
