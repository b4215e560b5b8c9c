/- Digraphs as arguments: opened by their cells. -/
import Derived.Test.YtlnhocgjgmhfgaaGreatDoorPk33
namespace Go.Proofs.YtlnhocgjgmhfgaaGreatDoor
open Go.ChangeShapes Go.WideShapes Go.RowKit
set_option maxRecDepth 100000

section
variable {H : Type} {enc : TypeId × Value → H} {W : World}
theorem cs_arcs {fuel : Nat} {cs : List Value} {x : DataW H × List MemPlace} (h : DataW.trod enc Tryz.prog W 0 (fun _ => true) true fuel 26 cs = some x) :
    ∃ (c : Value) (xs : List (Int × Int × Int)), cs = [c] ∧ SlK e3 3 W c xs := by
  rcases Go.Deep.open_slice Tryz.underlying26 h with ⟨hcs, -⟩ | ⟨a, len, cap, m, n, D, Pl, hcs, -, hl, hm, hmm, -, hi⟩
  · exact ⟨_, [], hcs, SlK.nil⟩
  · have c2 : Tryz.prog.cellsOf 3 = 1 := by kernel_rfl
    have c3 : Tryz.prog.cellsOf 83 = 3 := by kernel_rfl
    simp only [if_true] at hmm
    obtain ⟨xs, hx⟩ := slk_mk (f := e3) (k := 3) (W := W) (a := a) hl hm (by omega) (fun i hil => by
      obtain ⟨cs', hc, ht⟩ := hi i (by omega)
      rw [c3] at hc
      obtain ⟨-, hcl, hat⟩ := World.cells?_some hc
      obtain ⟨y0, y1, y2, n', -, -, h0, h1, h2⟩ := Go.Deep.trod_struct3 Tryz.underlying83 ht
      match cs', hcl with
      | [u0, u1, u2], _ =>
        simp [c2] at h0 h1 h2
        obtain ⟨p, e0⟩ := cs_int1 h0
        obtain ⟨q, e1⟩ := cs_int1 h1
        obtain ⟨r, e2⟩ := cs_int1 h2
        simp at e0 e1 e2
        subst e0 e1 e2
        refine ⟨(p, q, r), rfl, fun j v hv => ?_⟩
        have hj : j < 3 := (List.getElem?_eq_some_iff.1 hv).1
        rw [← Go.Deep.add_add, hat j hj]
        exact hv)
    exact ⟨_, xs, hcs, hx⟩
theorem open_digraph {v : Value} {d : DataW H} {ps : List MemPlace} (hval : Value.okWide Tryz.prog W .any 0 28 v) (hd : DataW.Trod enc Tryz.prog W 0 (fun _ => true) true 28 v d ps) :
    ∃ (n : Int) (u : Value) (es : List (Int × Int × Int)), v = .agg #[.int .i64 n, u] ∧ SlK e3 3 W u es := by
  obtain ⟨cs, rfl, hsz⟩ := okWide_struct Tryz.underlying28 hval
  obtain ⟨fuel, hf⟩ := hd
  obtain ⟨y0, y1, n, -, -, h0, h1⟩ := trod_struct2 Tryz.underlying28 hf
  have c1 : Tryz.prog.cellsOf 26 = 1 := by kernel_rfl
  have c2 : Tryz.prog.cellsOf 3 = 1 := by kernel_rfl
  have c3 : Tryz.prog.cellsOf 28 = 2 := by kernel_rfl
  obtain ⟨l⟩ := cs
  rw [c3] at hsz
  match l, hsz with
  | [u0, u1], _ =>
    simp [c1, c2, Value.cells] at h0 h1
    obtain ⟨R, e0⟩ := cs_int1 h0
    obtain ⟨v1, b, e1, hb⟩ := cs_arcs h1
    simp at e0 e1
    subst e0 e1
    exact ⟨R, _, b, rfl, hb⟩
end
end Go.Proofs.YtlnhocgjgmhfgaaGreatDoor
