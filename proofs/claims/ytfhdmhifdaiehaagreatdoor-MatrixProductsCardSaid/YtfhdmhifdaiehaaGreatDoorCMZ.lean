/- Matrices as arguments: opened by their cells. -/
import Derived.Test.YtfhdmhifdaiehaaGreatDoorPk7
import Derived.Lib.SmallJoins
import Derived.ChangeSlices
namespace Go.Proofs.YtfhdmhifdaiehaaGreatDoor
open Go.ChangeShapes Go.WideShapes Go.RowKit
set_option maxRecDepth 100000

section
variable {H : Type} {enc : TypeId × Value → H} {W : World}
theorem cs_int {fuel : Nat} {cs : List Value} {x : DataW H × List MemPlace} (h : DataW.trod enc Tryz.prog W 0 (fun _ => true) true fuel 3 cs = some x) :
    ∃ n : Int, cs = [.int .i64 n] ∧ (Lit.int .i64 n).wf = true := by
  obtain ⟨a, e, -, w⟩ := DataW.trod_int Tryz.underlying3 h
  exact ⟨a, e, w⟩
theorem open_matrix {v : Value} {d : DataW H} {ps : List MemPlace} (hval : Value.okWide Tryz.prog W .any 0 24 v)
    (hd : DataW.Trod enc Tryz.prog W 0 (fun _ => true) true 24 v d ps) :
    ∃ (R C : Int) (u : Value) (xs : List ByteArray), v = .agg #[.int .i64 R, .int .i64 C, u] ∧ Sl eS W u xs ∧ (∀ s ∈ xs, s.size ≤ maxLen) ∧ (Lit.int .i64 R).wf = true ∧ (Lit.int .i64 C).wf = true := by
  obtain ⟨cs, rfl, hsz⟩ := okWide_struct Tryz.underlying24 hval
  obtain ⟨fuel, hf⟩ := hd
  obtain ⟨y0, y1, y2, n, -, -, h0, h1, h2⟩ := Go.Deep.trod_struct3 Tryz.underlying24 hf
  have c1 : Tryz.prog.cellsOf 22 = 1 := by kernel_rfl
  have c2 : Tryz.prog.cellsOf 3 = 1 := by kernel_rfl
  have c3 : Tryz.prog.cellsOf 24 = 3 := by kernel_rfl
  obtain ⟨l⟩ := cs
  rw [c3] at hsz
  match l, hsz with
  | [u0, u1, u2], _ =>
    simp [c1, c2, Value.cells] at h0 h1 h2
    obtain ⟨R, e0, wR⟩ := cs_int h0
    obtain ⟨C, e1, wC⟩ := cs_int h1
    obtain ⟨v1, b, e2, hb, sb⟩ := cs_texts h2
    simp at e0 e1 e2
    subst e0 e1 e2
    exact ⟨R, C, _, b, rfl, hb, sb, wR, wC⟩
theorem cs_ints2 {fuel : Nat} {cs : List Value} {x : DataW H × List MemPlace} (h : DataW.trod enc Tryz.prog W 0 (fun _ => true) true fuel 51 cs = some x) (hl : cs.length = 2) :
    ∃ m n : Int, cs = [.int .i64 m, .int .i64 n] ∧ (Lit.int .i64 m).wf = true ∧ (Lit.int .i64 n).wf = true := by
  obtain ⟨xs, m, -, -, -, hn, hel⟩ := DataW.trod_array Tryz.underlying51 h
  have c1 : Tryz.prog.cellsOf 3 = 1 := by kernel_rfl
  match cs, hl, xs, hn with
  | [u, v], _, [y0, y1], _ =>
    have h0 := hel 0 (by omega)
    have h1 := hel 1 (by omega)
    simp [c1] at h0 h1
    obtain ⟨a0, e0, w0⟩ := cs_int h0
    obtain ⟨a1, e1, w1⟩ := cs_int h1
    simp at e0 e1
    subst e0 e1
    exact ⟨a0, a1, rfl, w0, w1⟩
theorem cs_intlist {fuel : Nat} {cs : List Value} {x : DataW H × List MemPlace} (h : DataW.trod enc Tryz.prog W 0 (fun _ => true) true fuel 52 cs = some x) :
    ∃ (c : Value) (xs : List Int), cs = [c] ∧ Sl eZ W c xs ∧ ∀ z ∈ xs, (Lit.int .i64 z).wf = true := by
  rcases open_ints Tryz.underlying52 Tryz.underlying3 (by kernel_rfl) h with ⟨hcs, hx⟩ | ⟨a, len, cap, ss, hcs, _, hl, hm, hz, hx, hcell, hsz⟩
  · exact ⟨_, [], hcs, Sl.nil, by simp⟩
  · simp only [if_true] at hz
    obtain ⟨b, off, spot⟩ := a
    have hlen : (ss.take len).length = len := by simp; omega
    have hspot : 0 < len → spot = none := fun h0 => by simpa [Addr.add] using World.cell?_spot (hcell 0 (by omega))
    have hadd : 0 < len → ∀ i, (⟨b, off, spot⟩ : Addr).add i = ⟨b, off + i, none⟩ := fun h0 i => by rw [hspot h0]; simp [Addr.add]
    refine ⟨_, ss.take len, hcs, ⟨some ⟨b, off, spot⟩, b, off, cap, by rw [hlen], fun h => ?_, by omega, hm, (fun h => absurd h (by simp)), ⟨fun h => ?_, fun i hi => ?_⟩⟩, fun s hs => hsz s (List.mem_of_mem_take hs)⟩
    · rw [hlen] at h; rw [hspot h]
    · rw [hlen] at h
      have := hcell 0 (by omega)
      rw [hadd h] at this
      exact World.block_lt_of_cell? _ _ this
    · rw [hlen] at hi
      have := hcell i (by omega)
      rw [hadd (by omega)] at this
      rw [this, List.getElem_take]
      simp [eZ, List.getD, show i < ss.length by omega]
theorem array5 {α : Type} {cs : Array α} (h : cs.size = 5) : ∃ c0 c1 c2 c3 c4, cs = #[c0, c1, c2, c3, c4] := by
  obtain ⟨l⟩ := cs
  match l, h with
  | [c0, c1, c2, c3, c4], _ => exact ⟨c0, c1, c2, c3, c4, rfl⟩
theorem open_place {v : Value} {d : DataW H} {ps : List MemPlace} (hval : Value.okWide Tryz.prog W .any 0 54 v)
    (hd : DataW.Trod enc Tryz.prog W 0 (fun _ => true) true 54 v d ps) :
    ∃ (row col a b : Int) (u : Value) (l : List Int), v = .agg #[.int .i64 row, .int .i64 col, .int .i64 a, .int .i64 b, u] ∧ Sl eZ W u l ∧ (∀ z ∈ l, (Lit.int .i64 z).wf = true) ∧ (Lit.int .i64 row).wf = true ∧ (Lit.int .i64 col).wf = true ∧ (Lit.int .i64 a).wf = true ∧ (Lit.int .i64 b).wf = true := by
  obtain ⟨cs, rfl, hsz⟩ := okWide_struct Tryz.underlying54 hval
  obtain ⟨fuel, hf⟩ := hd
  obtain ⟨y0, y1, y2, y3, n, -, -, h0, h1, h2, h3⟩ := Go.Joins.trod_struct4 Tryz.underlying54 hf
  have c1 : Tryz.prog.cellsOf 52 = 1 := by kernel_rfl
  have c2 : Tryz.prog.cellsOf 3 = 1 := by kernel_rfl
  have c4 : Tryz.prog.cellsOf 51 = 2 := by kernel_rfl
  have c3 : Tryz.prog.cellsOf 54 = 5 := by kernel_rfl
  rw [c3] at hsz
  obtain ⟨u0, u1, u2, u3, u4, rfl⟩ := array5 hsz
  · simp [c1, c2, c4, Value.cells] at h0 h1 h2 h3
    obtain ⟨row, e0, w0⟩ := cs_int h0
    obtain ⟨col, e1, w1⟩ := cs_int h1
    obtain ⟨a, b, e2, wa, wb⟩ := cs_ints2 h2 rfl
    obtain ⟨c, xs, e3, hs, ws⟩ := cs_intlist h3
    simp at e0 e1 e2 e3
    obtain ⟨rfl, rfl⟩ := e2
    subst e0 e1 e3
    exact ⟨row, col, a, b, _, xs, rfl, hs, ws, w0, w1, wa, wb⟩
end
end Go.Proofs.YtfhdmhifdaiehaaGreatDoor
