/- The law MatrixRows returns true for every input and leaves its arguments as they were: the tied card.
  Conditions: the listed package-level variables hold what the program's text lays (tied by the card). -/
import Derived.Test.YtajkhbpffakmfaaGreatDoorNRZ
import Derived.Test.YtajkhbpffakmfaaGreatDoorPk8
import Derived.Test.YtajkhbpffakmfaaGreatDoorCMZ
namespace Go.Proofs.YtajkhbpffakmfaaGreatDoor.cMatrixRows
open Go.ChangeShapes Go.WideShapes Go.ChangeAt Go.RowKit
open Go.ChangeMaps (open_string shut_string)

theorem reads (os : Os) {H : Type} (enc : TypeId × Value → H) : ∃ places, DataW.whole enc Tryz.prog ((laidWorld os).forCall (fun _ _ => 0) ⟨#[], #[.agg #[.int .i64 0, .int .i64 0, .slice none 0 0], .agg #[.int .u8 0, .int .u8 0], .string ⟨#[]⟩], []⟩).memory Tryz.f3.params.toList Rows.matrixRowsSpec.vars false (#[.agg #[.int .i64 0, .int .i64 0, .slice none 0 0], .agg #[.int .u8 0, .int .u8 0], .string ⟨#[]⟩] : Array Value).toList 8 = some ([.agg [.lit (.int .i64 0), .lit (.int .i64 0), .nil], .agg [.lit (.int .u8 0), .lit (.int .u8 0)], .lit (.string [])], [], places) :=
  ⟨[], by kernel_rfl⟩
set_option maxRecDepth 100000 in
theorem lifted (os : Os) (started : os.Started) (H : Type) (enc : TypeId × Value → H) (F : Stop.Interp) :
    ReturnsInHanded {} Tryz.checked os 3 .any ((OpenSpec.ofChange Rows.matrixRowsSpec).preRow enc Tryz.prog Tryz.f3 Rows.matrixRowsRow.domain false Rows.matrixRowsRow.laid) (((OpenSpec.ofChange Rows.matrixRowsSpec).at F).post enc Tryz.prog Tryz.f3 false true false false) := by
  obtain ⟨places, hx⟩ := reads os enc
  refine returnsInHanded_of_row (C := Tryz.checked) (s := OpenSpec.ofChange Rows.matrixRowsSpec) cOwn started (by kernel_rfl) Tryz.func3
    (witness_row_atRef (enc := enc) (C := Tryz.checked) false (laidWorld os) #[.agg #[.int .i64 0, .int .i64 0, .slice none 0 0], .agg #[.int .u8 0, .int .u8 0], .string ⟨#[]⟩] rfl (by kernel_rfl) (by kernel_rfl) (by kernel_rfl)
      (OpenSpec.preRow_of_cond 8 hx (by kernel_rfl) (fun k hk => by cases hk) (by kernel_rfl) (laid_met os _))) ?_
  intro W base args ds gs before hval0 hW _ _ _ hL _ _
  have hval : ∀ (j : Nat) t v, Tryz.f3.params[j]? = some t → args[j]? = some v → Value.okWide Tryz.prog W .any base t v := hval0
  have hE : Env W := env_of hL
  have hW' := hW
  obtain ⟨p, q, hA0, hV0, rfl, _, _⟩ := hW
  have hA : DataW.TrodAll enc Tryz.prog W 0 (fun _ => true) true Tryz.f3.params.toList args.toList ds p := hA0
  rw [Tryz.params3] at hA hval
  obtain ⟨v0, v1, v2, d0, d1, d2, p0, p1, p2, rfl, rfl, rfl, h0, h1, h2⟩ := trodAll_three hA
  obtain ⟨rfl, rfl⟩ := trodVars_none hV0
  obtain ⟨R0, C0, u0, s0, rfl, hs0, ws0, wR0, wC0⟩ := open_matrix (hval 0 24 v0 rfl rfl) h0
  obtain ⟨m1, n1, rfl, rfl, rfl, wm1, wn1⟩ := open_arr2 Tryz.underlying25 Tryz.underlying5 (by kernel_rfl) (by kernel_rfl) (hval 1 25 v1 rfl rfl) h1
  obtain ⟨s2, rfl, rfl, rfl, ws2⟩ := open_string Tryz.underlying26 (hval 2 26 v2 rfl rfl) h2
  clear hV0 hval0
  refine (rows03_any W R0 C0 u0 s0 hs0 m1 n1 s2 (fun s hs => by have := ws0 s hs; unfold maxLen at this; omega) (u8_wf wm1) (u8_wf wn1) (by unfold maxLen at ws2; omega) hE).mono ?_
  rintro e W' ⟨v, rfl, rfl, bel⟩
  have e1 : ((OpenSpec.ofChange Rows.matrixRowsSpec).at F).fn H ([d0, .agg [.lit (.int .u8 m1), .lit (.int .u8 n1)], .lit (.string s2.data.toList)] ++ []) = { results := [.lit (.bool true)], args := [d0, .agg [.lit (.int .u8 m1), .lit (.int .u8 n1)], .lit (.string s2.data.toList)] } := rfl
  refine ⟨_, rfl, _, _, _, [], (p0 ++ [] ++ []), [], hW', ?_, ?_, ?_, bel.frame _, fun h => by cases h⟩
  · rw [e1]; exact trodAll_mk1 (shut_bool Tryz.underlying4 _)
  · rw [e1]; exact again_all (by kernel_rfl) bel (by rw [Tryz.params3]; decide +kernel) hA0
  · rw [e1]; rfl

theorem said : Rows.MatrixRowsSaid :=
  OpenClaim.holds_of_cond 3 Tryz.f3 rfl rfl rfl rfl rfl rfl rfl ⟨rfl, rfl, rfl, rfl, rfl⟩ rfl rfl rfl rfl rfl (by kernel_rfl) Tryz.func3 (by kernel_rfl)
    (of_decide_eq_true (by kernel_rfl)) (by unfold Func.isWrapper; first | (rw [if_pos (by decide +kernel)]; kernel_rfl) | (rw [if_neg (by decide +kernel)]; exact ⟨rfl, rfl⟩))
    (fun os started H enc _ F => by rw [OpenClaim.pre_eq_preRow]; exact lifted os started H enc F)
theorem plain (f : FuncId) (fn : Func) (hf : Tryz.pinned.checked.prog.funcNamed Rows.matrixRowsRow.func = some f) (hfn : Tryz.pinned.checked.prog.funcs[f]? = some fn) :
    true = Tryz.pinned.checked.prog.looks [] ∧ ∀ (j : Nat) t, fn.params[j]? = some t → Tryz.pinned.checked.prog.wantsStandIn t = false := by
  obtain rfl : f = 3 := Option.some.inj ((show Tryz.prog.funcNamed Rows.matrixRowsRow.func = some 3 by kernel_rfl).symm.trans hf) |>.symm
  obtain rfl : fn = Tryz.f3 := (Option.some.inj (Tryz.func3.symm.trans hfn)).symm
  refine ⟨by kernel_rfl, fun j t ht => ?_⟩
  rw [Tryz.params3] at ht
  have this := Array.mem_of_getElem? ht
  have wA : Tryz.prog.wantsStandIn 25 = false := by kernel_rfl
  have wM : Tryz.prog.wantsStandIn 24 = false := by kernel_rfl
  have wS : Tryz.prog.wantsStandIn 26 = false := by kernel_rfl
  simp only [Array.mem_def, List.mem_cons, List.not_mem_nil, or_false] at this
  rcases this with h | h | h
  · rw [h]; exact wM
  · rw [h]; exact wA
  · rw [h]; exact wS
theorem holds : Rows.MatrixRowsCardSaid :=
  Claim7.holds_tied_plain_at .later [] _ _ _ _ said (fun _ h => by cases h) (by kernel_rfl) (fun _ h => by cases h) matrixRows_row_tie rfl ⟨rfl, rfl⟩ (by kernel_rfl) rfl plain (by kernel_rfl)
end Go.Proofs.YtajkhbpffakmfaaGreatDoor.cMatrixRows
namespace Go.Proofs.YtajkhbpffakmfaaGreatDoor
theorem matrixRows_holds : Rows.MatrixRowsCardSaid := cMatrixRows.holds
end Go.Proofs.YtajkhbpffakmfaaGreatDoor
#print axioms Go.Proofs.YtajkhbpffakmfaaGreatDoor.matrixRows_holds
