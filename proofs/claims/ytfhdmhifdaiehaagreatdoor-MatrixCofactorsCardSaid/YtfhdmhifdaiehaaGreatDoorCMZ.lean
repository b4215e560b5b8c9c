/- Matrices as arguments: opened by their cells. -/
import Derived.Test.YtfhdmhifdaiehaaGreatDoorPk7
namespace Go.Proofs.YtfhdmhifdaiehaaGreatDoor
open Go.ChangeShapes Go.WideShapes Go.RowKit
set_option maxRecDepth 100000

section
variable {H : Type} {enc : TypeId × Value → H} {W : World}
theorem cs_int {fuel : Nat} {cs : List Value} {x : DataW H × List MemPlace} (h : DataW.trod enc Tryz.prog W 0 (fun _ => true) true fuel 3 cs = some x) :
    ∃ n : Int, cs = [.int .i64 n] ∧ (Lit.int .i64 n).wf = true := by
  obtain ⟨a, e, -, w⟩ := DataW.trod_int Tryz.underlying3 h
  exact ⟨a, e, w⟩
theorem open_matrix {v : Value} {d : DataW H} {ps : List MemPlace} (hval : Value.okWide Tryz.prog W .any 0 24 v)
    (hd : DataW.Trod enc Tryz.prog W 0 (fun _ => true) true 24 v d ps) :
    ∃ (R C : Int) (u : Value) (xs : List ByteArray), v = .agg #[.int .i64 R, .int .i64 C, u] ∧ Sl eS W u xs ∧ (∀ s ∈ xs, s.size ≤ maxLen) ∧ (Lit.int .i64 R).wf = true ∧ (Lit.int .i64 C).wf = true := by
  obtain ⟨cs, rfl, hsz⟩ := okWide_struct Tryz.underlying24 hval
  obtain ⟨fuel, hf⟩ := hd
  obtain ⟨y0, y1, y2, n, -, -, h0, h1, h2⟩ := Go.Deep.trod_struct3 Tryz.underlying24 hf
  have c1 : Tryz.prog.cellsOf 22 = 1 := by kernel_rfl
  have c2 : Tryz.prog.cellsOf 3 = 1 := by kernel_rfl
  have c3 : Tryz.prog.cellsOf 24 = 3 := by kernel_rfl
  obtain ⟨l⟩ := cs
  rw [c3] at hsz
  match l, hsz with
  | [u0, u1, u2], _ =>
    simp [c1, c2, Value.cells] at h0 h1 h2
    obtain ⟨R, e0, wR⟩ := cs_int h0
    obtain ⟨C, e1, wC⟩ := cs_int h1
    obtain ⟨v1, b, e2, hb, sb⟩ := cs_texts h2
    simp at e0 e1 e2
    subst e0 e1 e2
    exact ⟨R, C, _, b, rfl, hb, sb, wR, wC⟩
end
end Go.Proofs.YtfhdmhifdaiehaaGreatDoor
