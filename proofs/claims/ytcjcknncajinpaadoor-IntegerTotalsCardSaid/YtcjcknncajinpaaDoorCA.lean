/- Arrays of two bytes and lists of texts as arguments: opened; an argument reads as it did behind a call that turns nothing old. -/
import Derived.Test.YtcjcknncajinpaaDoorKit
import Derived.OpenShut
import Derived.SliceStrings
import Derived.Carry
import Derived.ChangeOld
namespace Go.Proofs.YtcjcknncajinpaaDoor
open Go.ChangeShapes Go.WideShapes Go.RowKit
set_option maxRecDepth 100000

section
variable {H : Type} {enc : TypeId × Value → H} {P : Program} {W : World} {base : Nat} {spare : Nat → Bool} {held : Bool}
theorem open_arr2 {r : Reach} {b0 : Nat} {t e : TypeId} {v : Value} {d : DataW H} {ps : List MemPlace} (ht : P.underlying t = some (.array 2 e)) (he : P.underlying e = some (.int .u8)) (hct : P.cellsOf t = 2) (hce : P.cellsOf e = 1)
    (hval : Value.okWide P W r b0 t v) (hd : DataW.Trod enc P W base spare held t v d ps) :
    ∃ m n, v = .agg #[.int .u8 m, .int .u8 n] ∧ d = .agg [.lit (.int .u8 m), .lit (.int .u8 n)] ∧ ps = [] ∧ (Lit.int .u8 m).wf = true ∧ (Lit.int .u8 n).wf = true := by
  simp only [Value.okWide, ht] at hval
  obtain ⟨cs, rfl, hsz, -⟩ := hval
  rw [hct] at hsz
  obtain ⟨fuel, hf⟩ := hd
  obtain ⟨xs, m, -, hx, hl, hn, hel⟩ := DataW.trod_array ht hf
  obtain ⟨l⟩ := cs
  match l, hsz, xs, hn with
  | [u, v], _, [y0, y1], _ =>
    have h0 := hel 0 (by omega)
    have h1 := hel 1 (by omega)
    simp [hce, Value.cells] at h0 h1
    obtain ⟨a0, e0, rfl, w0⟩ := DataW.trod_int he h0
    obtain ⟨a1, e1, rfl, w1⟩ := DataW.trod_int he h1
    simp at e0 e1
    subst e0 e1
    simp only [Prod.mk.injEq] at hx
    exact ⟨a0, a1, rfl, by simpa using hx.1, by simpa using hx.2, w0, w1⟩
end
/-- A list of texts, as an argument. -/
theorem open_texts {H : Type} {enc : TypeId × Value → H} {W : World} {v : Value} {d : DataW H} {ps : List MemPlace} (hval : Value.okWide Tryd.prog W .any 0 36 v)
    (hd : DataW.Trod enc Tryd.prog W 0 (fun _ => true) true 36 v d ps) :
    ∃ xs : List ByteArray, Sl eS W v xs ∧ ∀ s ∈ xs, s.size ≤ maxLen := by
  obtain ⟨a, len, cap, rfl⟩ := okWide_slice Tryd.underlying36 hval
  obtain ⟨fuel, hf⟩ := hd
  rcases open_strings Tryd.underlying36 Tryd.underlying22 (by kernel_rfl) hf with ⟨hcs, hx⟩ | ⟨a', len', cap', ss, hcs, _, hl, hm, hz, hx, hcell, hsz⟩
  · simp [Value.cells] at hcs
    obtain ⟨rfl, rfl, rfl⟩ := hcs
    exact ⟨[], Sl.nil, by simp⟩
  · simp [Value.cells] at hcs
    obtain ⟨rfl, rfl, rfl⟩ := hcs
    simp only [if_true] at hz
    obtain ⟨b, off, spot⟩ := a'
    have hlen : (ss.take len).length = len := by simp; omega
    have hspot : 0 < len → spot = none := fun h0 => by simpa [Addr.add] using World.cell?_spot (hcell 0 (by omega))
    have hadd : 0 < len → ∀ i, (⟨b, off, spot⟩ : Addr).add i = ⟨b, off + i, none⟩ := fun h0 i => by rw [hspot h0]; simp [Addr.add]
    refine ⟨ss.take len, ⟨some ⟨b, off, spot⟩, b, off, cap, by rw [hlen], fun h => ?_, by omega, hm, (fun h => absurd h (by simp)), ⟨fun h => ?_, fun i hi => ?_⟩⟩, fun s hs => hsz s (List.mem_of_mem_take hs)⟩
    · rw [hlen] at h; rw [hspot h]
    · rw [hlen] at h
      have := hcell 0 (by omega)
      rw [hadd h] at this
      exact World.block_lt_of_cell? _ _ this
    · rw [hlen] at hi
      have := hcell i (by omega)
      rw [hadd (by omega)] at this
      rw [this, List.getElem_take]
      simp [eS, List.getD, show i < ss.length by omega]
theorem again_all {H : Type} {enc : TypeId × Value → H} {P : Program} {W W' : World} (hl : laidOutB P = true) (hb : Below W.heap.size W W') :
    ∀ {ts : List TypeId} {vs : List Value} {ds : List (DataW H)} {ps : List MemPlace}, (∀ t ∈ ts, P.readableRec t = true ∧ t < P.types.size) → DataW.TrodAll enc P W 0 (fun _ => true) true ts vs ds ps →
      DataW.TrodAll enc P W' 0 (fun b => decide (b < W.heap.size)) true ts vs ds ps := by
  intro ts
  induction ts with
  | nil => intro vs ds ps _ h; exact match vs, ds, h with | [], [], h => h
  | cons t ts ih =>
    intro vs ds ps ht h
    obtain ⟨v, vs', d, ds', p, q, rfl, rfl, rfl, h1, h2⟩ := trodAll_cons h
    exact trodAll_cons_mk (Below.trod hl (ht t (by simp)).1 (ht t (by simp)).2 h1 hb (by obtain ⟨n, hn⟩ := h1; exact DataW.trod_lt n _ _ _ hn)) (ih (fun t' h' => ht t' (by simp [h'])) h2)
end Go.Proofs.YtcjcknncajinpaaDoor
