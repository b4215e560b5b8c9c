/- Graphs and scripts as arguments: opened by their cells. -/
import Derived.Test.YtkkklfikdoibcaaGreatDoorPk11
import Derived.OpenShut
import Derived.Carry
import Derived.ChangeOld
import Derived.ChangeSlices
import Derived.Deep.Strs
import Derived.Deep.Slices
namespace Go.Proofs.YtkkklfikdoibcaaGreatDoor
open Go.ChangeShapes Go.WideShapes Go.RowKit
set_option maxRecDepth 100000

theorem again_all {H : Type} {enc : TypeId × Value → H} {P : Program} {W W' : World} (hl : laidOutB P = true) (hb : Below W.heap.size W W') :
    ∀ {ts : List TypeId} {vs : List Value} {ds : List (DataW H)} {ps : List MemPlace}, (∀ t ∈ ts, P.readableRec t = true ∧ t < P.types.size) → DataW.TrodAll enc P W 0 (fun _ => true) true ts vs ds ps →
      DataW.TrodAll enc P W' 0 (fun b => decide (b < W.heap.size)) true ts vs ds ps := by
  intro ts
  induction ts with
  | nil => intro vs ds ps _ h; exact match vs, ds, h with | [], [], h => h
  | cons t ts ih =>
    intro vs ds ps ht h
    obtain ⟨v, vs', d, ds', p, q, rfl, rfl, rfl, h1, h2⟩ := trodAll_cons h
    exact trodAll_cons_mk (Below.trod hl (ht t (by simp)).1 (ht t (by simp)).2 h1 hb (by obtain ⟨n, hn⟩ := h1; exact DataW.trod_lt n _ _ _ hn)) (ih (fun t' h' => ht t' (by simp [h'])) h2)
section
variable {H : Type} {enc : TypeId × Value → H} {W : World}
theorem cs_int1 {fuel : Nat} {cs : List Value} {x : DataW H × List MemPlace} (h : DataW.trod enc Tryz.prog W 0 (fun _ => true) true fuel 3 cs = some x) : ∃ n : Int, cs = [.int .i64 n] := by
  obtain ⟨a, e, -, -⟩ := DataW.trod_int Tryz.underlying3 h
  exact ⟨a, e⟩
/-- A list of elements of k cells, each read by its cells. -/
theorem slk_mk {α : Type} [Inhabited α] {f : α → List Value} {k len cap : Nat} {a : Addr} (hl : len ≤ cap) (hm : cap ≤ maxLen) (hk : 0 < k)
    (h : ∀ i, i < len → ∃ t : α, (f t).length = k ∧ ∀ j v, (f t)[j]? = some v → W.cell? (a.add (i * k + j)) = some v) : ∃ xs : List α, SlK f k W (.slice (some a) len cap) xs := by
  have h2 : ∀ i, ∃ t : α, i < len → (f t).length = k ∧ ∀ j v, (f t)[j]? = some v → W.cell? (a.add (i * k + j)) = some v := fun i => by
    by_cases hi : i < len
    · obtain ⟨t, ht⟩ := h i hi; exact ⟨t, fun _ => ht⟩
    · exact ⟨default, fun hh => absurd hh hi⟩
  obtain ⟨g, hg⟩ := Classical.axiomOfChoice h2
  obtain ⟨b, off, spot⟩ := a
  have c0 : 0 < len → ∃ v, W.cell? ((⟨b, off, spot⟩ : Addr).add 0) = some v := fun h0 => by
    obtain ⟨hl, hc⟩ := hg 0 h0
    have : 0 < (f (g 0)).length := by omega
    have := hc 0 _ (List.getElem?_eq_getElem this)
    exact ⟨_, by simpa using this⟩
  have hspot : 0 < len → spot = none := fun h0 => by
    obtain ⟨v, hv⟩ := c0 h0
    simpa [Addr.add] using World.cell?_spot hv
  have hadd : 0 < len → ∀ i, (⟨b, off, spot⟩ : Addr).add i = ⟨b, off + i, none⟩ := fun h0 i => by rw [hspot h0]; simp [Addr.add]
  refine ⟨(List.range len).map g, some ⟨b, off, spot⟩, b, off, cap, by simp, fun h0 => ?_, by simpa using hl, hm, (fun h => absurd h (by simp)), ⟨fun h0 => ?_, fun i hi j v hv => ?_⟩⟩
  · rw [hspot (by simpa using h0)]
  · have h0' : 0 < len := by simpa using h0
    obtain ⟨v, hv⟩ := c0 h0'
    rw [hadd h0'] at hv
    exact World.block_lt_of_cell? _ _ hv
  · have hi' : i < len := by simpa using hi
    have := (hg i hi').2 j v (by simpa using hv)
    rw [hadd (by omega), ← Nat.add_assoc] at this
    exact this
theorem cs_edges {fuel : Nat} {cs : List Value} {x : DataW H × List MemPlace} (h : DataW.trod enc Tryz.prog W 0 (fun _ => true) true fuel 22 cs = some x) :
    ∃ (c : Value) (xs : List (Int × Int × Int)), cs = [c] ∧ SlK e3 3 W c xs := by
  rcases Go.Deep.open_slice Tryz.underlying22 h with ⟨hcs, -⟩ | ⟨a, len, cap, m, n, D, Pl, hcs, -, hl, hm, hmm, -, hi⟩
  · exact ⟨_, [], hcs, SlK.nil⟩
  · have c2 : Tryz.prog.cellsOf 3 = 1 := by kernel_rfl
    have c3 : Tryz.prog.cellsOf 124 = 3 := by kernel_rfl
    simp only [if_true] at hmm
    obtain ⟨xs, hx⟩ := slk_mk (f := e3) (k := 3) (W := W) (a := a) hl hm (by omega) (fun i hil => by
      obtain ⟨cs', hc, ht⟩ := hi i (by omega)
      rw [c3] at hc
      obtain ⟨-, hcl, hat⟩ := World.cells?_some hc
      obtain ⟨y0, y1, y2, n', -, -, h0, h1, h2⟩ := Go.Deep.trod_struct3 Tryz.underlying124 ht
      match cs', hcl with
      | [u0, u1, u2], _ =>
        simp [c2] at h0 h1 h2
        obtain ⟨p, e0⟩ := cs_int1 h0
        obtain ⟨q, e1⟩ := cs_int1 h1
        obtain ⟨r, e2⟩ := cs_int1 h2
        simp at e0 e1 e2
        subst e0 e1 e2
        refine ⟨(p, q, r), rfl, fun j v hv => ?_⟩
        have hj : j < 3 := (List.getElem?_eq_some_iff.1 hv).1
        rw [← Go.Deep.add_add, hat j hj]
        exact hv)
    exact ⟨_, xs, hcs, hx⟩
theorem open_graph {v : Value} {d : DataW H} {ps : List MemPlace} (hval : Value.okWide Tryz.prog W .any 0 24 v) (hd : DataW.Trod enc Tryz.prog W 0 (fun _ => true) true 24 v d ps) :
    ∃ (n : Int) (u : Value) (es : List (Int × Int × Int)), v = .agg #[.int .i64 n, u] ∧ SlK e3 3 W u es := by
  obtain ⟨cs, rfl, hsz⟩ := okWide_struct Tryz.underlying24 hval
  obtain ⟨fuel, hf⟩ := hd
  obtain ⟨y0, y1, n, -, -, h0, h1⟩ := trod_struct2 Tryz.underlying24 hf
  have c1 : Tryz.prog.cellsOf 22 = 1 := by kernel_rfl
  have c2 : Tryz.prog.cellsOf 3 = 1 := by kernel_rfl
  have c3 : Tryz.prog.cellsOf 24 = 2 := by kernel_rfl
  obtain ⟨l⟩ := cs
  rw [c3] at hsz
  match l, hsz with
  | [u0, u1], _ =>
    simp [c1, c2, Value.cells] at h0 h1
    obtain ⟨R, e0⟩ := cs_int1 h0
    obtain ⟨v1, b, e1, hb⟩ := cs_edges h1
    simp at e0 e1
    subst e0 e1
    exact ⟨R, _, b, rfl, hb⟩
theorem cs_script {fuel : Nat} {cs : List Value} {x : DataW H × List MemPlace} (h : DataW.trod enc Tryz.prog W 0 (fun _ => true) true fuel 40 cs = some x) :
    ∃ (c : Value) (xs : List Int), cs = [c] ∧ Sl eZ W c xs ∧ ∀ z ∈ xs, (Lit.int .i64 z).wf = true := by
  rcases open_ints Tryz.underlying40 Tryz.underlying3 (by kernel_rfl) h with ⟨hcs, hx⟩ | ⟨a, len, cap, ss, hcs, _, hl, hm, hz, hx, hcell, hsz⟩
  · exact ⟨_, [], hcs, Sl.nil, by simp⟩
  · simp only [if_true] at hz
    obtain ⟨b, off, spot⟩ := a
    have hlen : (ss.take len).length = len := by simp; omega
    have hspot : 0 < len → spot = none := fun h0 => by simpa [Addr.add] using World.cell?_spot (hcell 0 (by omega))
    have hadd : 0 < len → ∀ i, (⟨b, off, spot⟩ : Addr).add i = ⟨b, off + i, none⟩ := fun h0 i => by rw [hspot h0]; simp [Addr.add]
    refine ⟨_, ss.take len, hcs, ⟨some ⟨b, off, spot⟩, b, off, cap, by rw [hlen], fun h => ?_, by omega, hm, (fun h => absurd h (by simp)), ⟨fun h => ?_, fun i hi => ?_⟩⟩, fun s hs => hsz s (List.mem_of_mem_take hs)⟩
    · rw [hlen] at h; rw [hspot h]
    · rw [hlen] at h
      have := hcell 0 (by omega)
      rw [hadd h] at this
      exact World.block_lt_of_cell? _ _ this
    · rw [hlen] at hi
      have := hcell i (by omega)
      rw [hadd (by omega)] at this
      rw [this, List.getElem_take]
      simp [eZ, List.getD, show i < ss.length by omega]
theorem open_script {v : Value} {d : DataW H} {ps : List MemPlace} (hval : Value.okWide Tryz.prog W .any 0 40 v) (hd : DataW.Trod enc Tryz.prog W 0 (fun _ => true) true 40 v d ps) :
    ∃ xs : List Int, Sl eZ W v xs ∧ ∀ z ∈ xs, (Lit.int .i64 z).wf = true := by
  obtain ⟨a, len, cap, rfl⟩ := okWide_slice Tryz.underlying40 hval
  obtain ⟨fuel, hf⟩ := hd
  obtain ⟨c, xs, e, h1, h2⟩ := cs_script hf
  simp [Value.cells] at e
  subst e
  exact ⟨xs, h1, h2⟩
end
end Go.Proofs.YtkkklfikdoibcaaGreatDoor
