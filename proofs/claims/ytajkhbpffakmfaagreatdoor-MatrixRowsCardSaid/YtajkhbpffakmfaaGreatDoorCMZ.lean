/- Matrices as arguments: opened by their cells. -/
import Derived.Test.YtajkhbpffakmfaaGreatDoorPk8
import Derived.Lib.SmallJoins
import Derived.ChangeSlices
namespace Go.Proofs.YtajkhbpffakmfaaGreatDoor
open Go.ChangeShapes Go.WideShapes Go.RowKit
set_option maxRecDepth 100000

section
variable {H : Type} {enc : TypeId × Value → H} {W : World}
theorem cs_int {fuel : Nat} {cs : List Value} {x : DataW H × List MemPlace} (h : DataW.trod enc Tryz.prog W 0 (fun _ => true) true fuel 3 cs = some x) :
    ∃ n : Int, cs = [.int .i64 n] ∧ (Lit.int .i64 n).wf = true := by
  obtain ⟨a, e, -, w⟩ := DataW.trod_int Tryz.underlying3 h
  exact ⟨a, e, w⟩
theorem open_matrix {v : Value} {d : DataW H} {ps : List MemPlace} (hval : Value.okWide Tryz.prog W .any 0 24 v)
    (hd : DataW.Trod enc Tryz.prog W 0 (fun _ => true) true 24 v d ps) :
    ∃ (R C : Int) (u : Value) (xs : List ByteArray), v = .agg #[.int .i64 R, .int .i64 C, u] ∧ Sl eS W u xs ∧ (∀ s ∈ xs, s.size ≤ maxLen) ∧ (Lit.int .i64 R).wf = true ∧ (Lit.int .i64 C).wf = true := by
  obtain ⟨cs, rfl, hsz⟩ := okWide_struct Tryz.underlying24 hval
  obtain ⟨fuel, hf⟩ := hd
  obtain ⟨y0, y1, y2, n, -, -, h0, h1, h2⟩ := Go.Deep.trod_struct3 Tryz.underlying24 hf
  have c1 : Tryz.prog.cellsOf 22 = 1 := by kernel_rfl
  have c2 : Tryz.prog.cellsOf 3 = 1 := by kernel_rfl
  have c3 : Tryz.prog.cellsOf 24 = 3 := by kernel_rfl
  obtain ⟨l⟩ := cs
  rw [c3] at hsz
  match l, hsz with
  | [u0, u1, u2], _ =>
    simp [c1, c2, Value.cells] at h0 h1 h2
    obtain ⟨R, e0, wR⟩ := cs_int h0
    obtain ⟨C, e1, wC⟩ := cs_int h1
    obtain ⟨v1, b, e2, hb, sb⟩ := cs_texts h2
    simp at e0 e1 e2
    subst e0 e1 e2
    exact ⟨R, C, _, b, rfl, hb, sb, wR, wC⟩
theorem cs_intlist {fuel : Nat} {cs : List Value} {x : DataW H × List MemPlace} (h : DataW.trod enc Tryz.prog W 0 (fun _ => true) true fuel 61 cs = some x) :
    ∃ (c : Value) (xs : List Int), cs = [c] ∧ Sl eZ W c xs ∧ ∀ z ∈ xs, (Lit.int .i64 z).wf = true := by
  rcases open_ints Tryz.underlying61 Tryz.underlying3 (by kernel_rfl) h with ⟨hcs, hx⟩ | ⟨a, len, cap, ss, hcs, _, hl, hm, hz, hx, hcell, hsz⟩
  · exact ⟨_, [], hcs, Sl.nil, by simp⟩
  · simp only [if_true] at hz
    obtain ⟨b, off, spot⟩ := a
    have hlen : (ss.take len).length = len := by simp; omega
    have hspot : 0 < len → spot = none := fun h0 => by simpa [Addr.add] using World.cell?_spot (hcell 0 (by omega))
    have hadd : 0 < len → ∀ i, (⟨b, off, spot⟩ : Addr).add i = ⟨b, off + i, none⟩ := fun h0 i => by rw [hspot h0]; simp [Addr.add]
    refine ⟨_, ss.take len, hcs, ⟨some ⟨b, off, spot⟩, b, off, cap, by rw [hlen], fun h => ?_, by omega, hm, (fun h => absurd h (by simp)), ⟨fun h => ?_, fun i hi => ?_⟩⟩, fun s hs => hsz s (List.mem_of_mem_take hs)⟩
    · rw [hlen] at h; rw [hspot h]
    · rw [hlen] at h
      have := hcell 0 (by omega)
      rw [hadd h] at this
      exact World.block_lt_of_cell? _ _ this
    · rw [hlen] at hi
      have := hcell i (by omega)
      rw [hadd (by omega)] at this
      rw [this, List.getElem_take]
      simp [eZ, List.getD, show i < ss.length by omega]
theorem array5 {α : Type} {cs : Array α} (h : cs.size = 5) : ∃ c0 c1 c2 c3 c4, cs = #[c0, c1, c2, c3, c4] := by
  obtain ⟨l⟩ := cs
  match l, h with
  | [c0, c1, c2, c3, c4], _ => exact ⟨c0, c1, c2, c3, c4, rfl⟩
end
end Go.Proofs.YtajkhbpffakmfaaGreatDoor
