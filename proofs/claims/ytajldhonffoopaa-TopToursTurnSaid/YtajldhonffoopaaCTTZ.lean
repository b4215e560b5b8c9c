/- The law TopToursTurn returns true for every input and leaves its arguments as they were: the card.
  Conditions: none beyond the given statement. -/
import Derived.Test.YtajldhonffoopaaV3Z
import Derived.Test.YtajldhonffoopaaCTZ
import Derived.Test.YtajldhonffoopaaRows
import Derived.ProofKit
namespace Go.Proofs.Ytajldhonffoopaa.cTopToursTurn
open Go.ChangeShapes Go.WideShapes Go.ChangeAt Go.RowKit

theorem own : ownKnob Try.prog.godebug = none := by kernel_rfl
set_option maxRecDepth 100000 in
theorem lifted (os : Os) (started : os.Started) (H : Type) (enc : TypeId × Value → H) :
    ReturnsInHanded {} Try.checked os 3 .any (Rows.topToursTurnSpec.pre6 enc Try.prog Try.f3 Rows.topToursTurnRow.domain false) (Rows.topToursTurnSpec.post enc Try.prog Try.f3 false true false false) := by
  refine returnsInHanded_of_change (C := Try.checked) own started (by kernel_rfl) Try.func3
    (ChangeSpec.witness6 (enc := enc) (C := Try.checked) false ⟨#[], #[.agg #[.int .i64 0, .slice none 0 0], .agg #[.int .i64 0, .slice none 0 0]], []⟩ 8 (by kernel_rfl) (by kernel_rfl) (by kernel_rfl) (by kernel_rfl)) ?_
  intro W base args ds gs before hval0 hW hcnd _
  have hval : ∀ (j : Nat) t v, Try.f3.params[j]? = some t → args[j]? = some v → Value.okWide Try.prog W .any base t v := hval0
  have hW' := hW
  obtain ⟨p, q, hA0, hV, rfl, hfz, hnd⟩ := hW
  have hA : DataW.TrodAll enc Try.prog W 0 (fun _ => true) true Try.f3.params.toList args.toList ds p := hA0
  rw [Try.params3] at hA hval
  obtain ⟨v0, v1, d0, d1, p0, p1, rfl, rfl, rfl, h0, h1⟩ := trodAll_two hA
  obtain ⟨rfl, rfl⟩ := trodVars_none hV
  obtain ⟨n, v, es, rfl, hv⟩ := open_graph (hval 0 24 v0 rfl rfl) h0
  obtain ⟨a, rv, us, rfl, hu⟩ := open_uni (hval 1 27 v1 rfl rfl) h1
  clear hV hval0
  refine (TopToursTurn_any W n v es a rv us hv hu).mono ?_
  rintro e W' ⟨u, rfl, rfl, bel⟩
  have e1 : Rows.topToursTurnSpec.fn H ([d0, d1] ++ []) = { results := [.lit (.bool true)], args := [d0, d1] } := rfl
  refine ⟨_, rfl, _, _, _, [], p0 ++ p1, [], hW', ?_, ?_, ?_, bel.frame _, fun h => by cases h⟩
  · rw [e1]; exact trodAll_mk1 (shut_bool Try.underlying4 _)
  · rw [e1]; exact again_all (by kernel_rfl) bel (by rw [Try.params3]; decide +kernel) hA0
  · rw [e1]; rfl
end Go.Proofs.Ytajldhonffoopaa.cTopToursTurn
namespace Go.Proofs.Ytajldhonffoopaa
theorem topToursTurn_holds : Rows.TopToursTurnSaid :=
  OpenClaim.holds_of_wide 3 Try.f3 rfl rfl rfl rfl rfl rfl rfl ⟨rfl, rfl, rfl, rfl, rfl⟩ rfl rfl rfl rfl rfl (by kernel_rfl) Try.func3 (by kernel_rfl)
    (of_decide_eq_true (by kernel_rfl)) (by unfold Func.isWrapper; first | (rw [if_pos (by decide +kernel)]; kernel_rfl) | (rw [if_neg (by decide +kernel)]; exact ⟨rfl, rfl⟩))
    (fun os started H enc _ => cTopToursTurn.lifted os started H enc)
end Go.Proofs.Ytajldhonffoopaa
#print axioms Go.Proofs.Ytajldhonffoopaa.topToursTurn_holds
