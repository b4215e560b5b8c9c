/- The condition 'early' of XJ by one closure in place of all orders. What the rows' lists of package-level variables give; a world for the witnesses. Arrays of two bytes and lists of texts as arguments: opened; an argument reads as it did behind a call that turns nothing old. -/
import Derived.Test.YtajkhbpffakmfaaGreatDoorPk5
import Derived.Test.YtajkhbpffakmfaaGreatDoorCards
import Derived.Test.YtajkhbpffakmfaaGreatDoorTie
import Derived.Test.YtajkhbpffakmfaaGreatDoorPk1
import Derived.ProofKit
import Derived.OpenShut
import Derived.Deep.DeepHandedRow
import Derived.Deep.DeepWitnessRowRef
import Derived.Lib.LaidTab
import Derived.Stop.LaidErr
import Derived.SliceStrings
import Derived.Carry
import Derived.ChangeOld
namespace Go.Proofs.YtajkhbpffakmfaaGreatDoor
open Go.RowKit
set_option maxRecDepth 100000

section
variable {ops : Array Oper} {md : Region.Mode} {A : Nat → Bool}
def gro1 (i : Nat) (L : Array Bool) (j : Nat) : Array Bool := if j == i then L else L.setIfInBounds j true
def grow (i : Nat) (rs : List Nat) (L : Array Bool) : Array Bool := rs.foldl (fun L j => gro1 i L j) L
/-- All that can come up before i is not late: the closure of what is ready without i. -/
def sat (md : Region.Mode) (ops : Array Oper) (A : Nat → Bool) (i : Nat) : Nat → Array Bool → Bool
  | 0, _ => true
  | n + 1, L => (Region.ready md ops L).all (fun j => j == i || A j) && sat md ops A i n (grow i (Region.ready md ops L) L)
theorem getD_setB (L : Array Bool) (j k : Nat) : (L.setIfInBounds j true).getD k false = if k = j ∧ j < L.size then true else L.getD k false := by
  simp only [Array.getD_eq_getD_getElem?, Array.getElem?_setIfInBounds]
  by_cases h : j = k
  · subst h
    by_cases hj : j < L.size
    · simp [hj]
    · simp [hj]
  · simp [h, Ne.symm h]
theorem grow_size (i : Nat) : ∀ (rs : List Nat) (L : Array Bool), (grow i rs L).size = L.size
  | [], _ => rfl
  | j :: rs, L => by
    show (grow i rs _).size = _
    rw [grow_size]
    show (gro1 i L j).size = _
    unfold gro1; split <;> simp
theorem grow_mono (i : Nat) : ∀ (rs : List Nat) (L : Array Bool) (k : Nat), L.getD k false = true → (grow i rs L).getD k false = true
  | [], _, _, h => h
  | j :: rs, L, k, h => by
    show (grow i rs _).getD k false = true
    refine grow_mono i rs _ k ?_
    show (gro1 i L j).getD k false = true
    unfold gro1
    split
    · exact h
    · rw [getD_setB]; split <;> simp_all
theorem grow_mem (i : Nat) : ∀ (rs : List Nat) (L : Array Bool) (j : Nat), j ∈ rs → j ≠ i → j < L.size → (grow i rs L).getD j false = true
  | [], _, _, h, _, _ => by cases h
  | q :: rs, L, j, h, hji, hj => by
    show (grow i rs _).getD j false = true
    rcases List.mem_cons.1 h with rfl | h
    · refine grow_mono i rs _ j ?_
      show (gro1 i L j).getD j false = true
      unfold gro1
      rw [if_neg (by simpa using hji), getD_setB, if_pos ⟨rfl, hj⟩]
    · refine grow_mem i rs _ j h hji ?_
      show j < (gro1 i L q).size
      unfold gro1
      split
      · exact hj
      · simpa using hj
theorem grow_true (i : Nat) : ∀ (rs : List Nat) (L : Array Bool) (k : Nat), (grow i rs L).getD k false = true → L.getD k false = true ∨ (k ∈ rs ∧ k ≠ i)
  | [], _, _, h => Or.inl h
  | q :: rs, L, k, h => by
    rcases grow_true i rs _ k h with h1 | ⟨h1, h2⟩
    · have h1 : (gro1 i L q).getD k false = true := h1
      unfold gro1 at h1
      by_cases hq : q == i
      · rw [if_pos hq] at h1; exact Or.inl h1
      · rw [if_neg hq, getD_setB] at h1
        by_cases e : k = q ∧ q < L.size
        · refine Or.inr ⟨by rw [e.1]; exact List.mem_cons_self, ?_⟩
          rw [e.1]; simpa using hq
        · rw [if_neg e] at h1; exact Or.inl h1
    · exact Or.inr ⟨List.mem_cons_of_mem _ h1, h2⟩
theorem un_lt {l : Array Bool} {j : Nat} (h : l.getD j true = false) : j < l.size ∧ l.getD j false = false := by
  rcases Nat.lt_or_ge j l.size with h' | h'
  · refine ⟨h', ?_⟩
    simp [Array.getD_eq_getD_getElem?, h'] at h ⊢
    exact h
  · simp [Array.getD_eq_getD_getElem?, Array.getElem?_eq_none h'] at h
theorem un_of {l : Array Bool} {j : Nat} (h : j < l.size) (h0 : l.getD j false = false) : l.getD j true = false := by
  simp [Array.getD_eq_getD_getElem?, h] at h0 ⊢
  exact h0
theorem early_of (i : Nat) : ∀ (n : Nat) (l L : Array Bool), sat md ops A i n L = true → l.size = L.size → (∀ k, l.getD k false = true → L.getD k false = true) →
    (∀ k, L.getD k false = true → l.getD k false = true ∨ A k = true) → early md ops A i n l = true
  | 0, _, _, _, _, _, _ => rfl
  | n + 1, l, L, h, hsz, hsub, hA => by
    unfold sat at h
    simp only [Bool.and_eq_true] at h
    obtain ⟨h1, h2⟩ := h
    have h1 := List.all_eq_true.1 h1
    unfold early
    refine List.all_eq_true.2 fun j hj => ?_
    by_cases hji : j = i
    · simp [hji]
    · have hm := mem_ready.1 hj
      obtain ⟨hu, o, ho, hall⟩ := hm
      obtain ⟨hjl, hjf⟩ := un_lt hu
      have hrd : L.getD j false = false → j ∈ Region.ready md ops L := fun e => mem_ready.2 ⟨un_of (by omega) e, o, ho, fun e' he hb => hsub _ (hall e' he hb)⟩
      have hAj : A j = true := by
        by_cases e : L.getD j false = true
        · rcases hA j e with e' | e'
          · rw [hjf] at e'; cases e'
          · exact e'
        · have := h1 j (hrd (by simpa using e))
          simpa [hji] using this
      simp only [Bool.or_eq_true, Bool.and_eq_true]
      refine Or.inr ⟨hAj, early_of i n _ (grow i (Region.ready md ops L) L) h2 (by rw [grow_size]; simpa using hsz) (fun k hk => ?_) (fun k hk => ?_)⟩
      · rw [getD_setB] at hk
        by_cases e : k = j ∧ j < l.size
        · obtain ⟨rfl, -⟩ := e
          by_cases e : L.getD k false = true
          · exact grow_mono i _ _ _ e
          · exact grow_mem i _ _ _ (hrd (by simpa using e)) hji (by omega)
        · rw [if_neg e] at hk; exact grow_mono i _ _ _ (hsub k hk)
      · rcases grow_true i _ _ k hk with e | ⟨e, e'⟩
        · rcases hA k e with e2 | e2
          · left; rw [getD_setB]; split
            · rfl
            · exact e2
          · exact Or.inr e2
        · have := h1 k e
          right
          simpa [e'] using this
theorem early_sat {i n : Nat} {l : Array Bool} (h : sat md ops A i n l = true) : early md ops A i n l = true := early_of i n l l h rfl (fun _ h => h) (fun _ h => Or.inl h)
end
end Go.Proofs.YtajkhbpffakmfaaGreatDoor

namespace Go.Proofs.YtajkhbpffakmfaaGreatDoor
open Go.RowKit

theorem cOwn : ownKnob Tryz.prog.godebug = none := by kernel_rfl
theorem int_wf {n : Int} (h : (Lit.int .i64 n).wf = true) : -9223372036854775808 ≤ n ∧ n ≤ 9223372036854775807 := by
  have e1 : IntKind.i64.min = -9223372036854775808 := rfl
  have e2 : IntKind.i64.max = 9223372036854775807 := rfl
  simp [Lit.wf, e1, e2] at h; exact h
theorem int32_wf {n : Int} (h : (Lit.int .i32 n).wf = true) : -2147483648 ≤ n ∧ n ≤ 2147483647 := by
  have e1 : IntKind.i32.min = -2147483648 := rfl
  have e2 : IntKind.i32.max = 2147483647 := rfl
  simp [Lit.wf, e1, e2] at h; exact h
theorem u8_wf {n : Int} (h : (Lit.int .u8 n).wf = true) : 0 ≤ n ∧ n ≤ 255 := by
  have e1 : IntKind.u8.min = 0 := rfl
  have e2 : IntKind.u8.max = 255 := rfl
  simp [Lit.wf, e1, e2] at h; exact h
theorem cErrT (u : TypeId) (h : Tryz.prog.typeName? 3 u = some "*errors.errorString") : u = 203 :=
  typeName_ptr_named (nm := "errors.errorString") (by rw [show "*" ++ "errors.errorString" = "*errors.errorString" by decide]; kernel_rfl) (by kernel_rfl) (by decide) u (by rw [show "*" ++ "errors.errorString" = "*errors.errorString" by decide]; exact h)

/-- What the five listed variables hold. -/
def laid5 : List (String × DataW Unit) := [("math/bits.deBruijn32tab", Rows.laid_math_bits_deBruijn32tab), ("math/bits.deBruijn64tab", Rows.laid_math_bits_deBruijn64tab), ("internal/strconv.uint64pow10", Rows.laid_internal_strconv_uint64pow10), ("strconv.ErrRange", Rows.laid_strconv_ErrRange), ("strconv.ErrSyntax", Rows.laid_strconv_ErrSyntax)]
theorem env_of {W : World} (h : laidMetH Tryz.prog laid5 W) : Env W := by
  have h1 : laidMet Tryz.prog laid5 W := h
  have h2 := h1.tail.tail
  obtain ⟨a0, t0, hv0, -, -, -⟩ := laid_sentinel (g := 1) h2.tail (by kernel_rfl) (by kernel_rfl) Tryz.underlying134 cErrT Tryz.underlying203 Tryz.underlying205 rfl rfl Tryz.underlying9 (by kernel_rfl) (by kernel_rfl)
  obtain ⟨a1, t1, hv1, -, -, -⟩ := laid_sentinel (g := 0) h2.tail.tail (by kernel_rfl) (by kernel_rfl) Tryz.underlying134 cErrT Tryz.underlying203 Tryz.underlying205 rfl rfl Tryz.underlying9 (by kernel_rfl) (by kernel_rfl)
  exact ⟨Lib.tabIs_of_head (g := 2) (t := 194) (e := 144) (by kernel_rfl) (by kernel_rfl) Tryz.underlying194 Tryz.underlying144 (by kernel_rfl) (by kernel_rfl) h2, ⟨_, _, hv1⟩, ⟨_, _, hv0⟩⟩

/-- The world of a witness: the listed variables hold what their initialisers lay. -/
noncomputable def laidWorld (os : Os) : World :=
  let N := (World.settled Tryz.prog os).heap.size
  let w0 := World.holding Tryz.prog os ⟨#[.cells #[.string ⟨#[118, 97, 108, 117, 101, 32, 111, 117, 116, 32, 111, 102, 32, 114, 97, 110, 103, 101]⟩] 205, .cells #[.string ⟨#[105, 110, 118, 97, 108, 105, 100, 32, 115, 121, 110, 116, 97, 120]⟩] 205], #[], []⟩
  let put (h : Array Obj) (g : Nat) (cs : Array Value) : Array Obj := h.modify g fun
    | .cells _ t frozen => .cells cs t frozen
    | o => o
  let h1 := put w0.heap 3 (([0, 1, 28, 2, 29, 14, 24, 3, 30, 22, 20, 15, 25, 17, 4, 8, 31, 27, 13, 23, 21, 19, 16, 7, 26, 12, 18, 6, 11, 5, 10, 9] : List Int).map fun z => Value.int .u8 z).toArray
  let h2 := put h1 4 (([0, 1, 56, 2, 57, 49, 28, 3, 61, 58, 42, 50, 38, 29, 17, 4, 62, 47, 59, 36, 45, 43, 51, 22, 53, 39, 33, 30, 24, 18, 12, 5, 63, 55, 48, 27, 60, 41, 37, 16, 46, 35, 44, 21, 52, 32, 23, 11, 54, 26, 40, 15, 34, 20, 31, 10, 25, 14, 19, 9, 13, 8, 7, 6] : List Int).map fun z => Value.int .u8 z).toArray
  let h3 := put h2 2 (Lib.pow10Tab.map fun z => Value.int .u64 z).toArray
  let h4 := put h3 1 #[.iface 203 (.pointer (some ⟨N, 0, none⟩))]
  let h5 := put h4 0 #[.iface 203 (.pointer (some ⟨N + 1, 0, none⟩))]
  { w0 with heap := h5 }
theorem laid_met (os : Os) (args : Array Value) : laidMet Tryz.prog laid5 ((laidWorld os).forCall (fun _ _ => 0) ⟨#[], args, []⟩).memory :=
  laidMet_of_run' 8 (by kernel_rfl) (by kernel_rfl)
end Go.Proofs.YtajkhbpffakmfaaGreatDoor

namespace Go.Proofs.YtajkhbpffakmfaaGreatDoor
open Go.ChangeShapes Go.WideShapes Go.RowKit
set_option maxRecDepth 100000

section
variable {H : Type} {enc : TypeId × Value → H} {P : Program} {W : World} {base : Nat} {spare : Nat → Bool} {held : Bool}
theorem open_arr2 {r : Reach} {b0 : Nat} {t e : TypeId} {v : Value} {d : DataW H} {ps : List MemPlace} (ht : P.underlying t = some (.array 2 e)) (he : P.underlying e = some (.int .u8)) (hct : P.cellsOf t = 2) (hce : P.cellsOf e = 1)
    (hval : Value.okWide P W r b0 t v) (hd : DataW.Trod enc P W base spare held t v d ps) :
    ∃ m n, v = .agg #[.int .u8 m, .int .u8 n] ∧ d = .agg [.lit (.int .u8 m), .lit (.int .u8 n)] ∧ ps = [] ∧ (Lit.int .u8 m).wf = true ∧ (Lit.int .u8 n).wf = true := by
  simp only [Value.okWide, ht] at hval
  obtain ⟨cs, rfl, hsz, -⟩ := hval
  rw [hct] at hsz
  obtain ⟨fuel, hf⟩ := hd
  obtain ⟨xs, m, -, hx, hl, hn, hel⟩ := DataW.trod_array ht hf
  obtain ⟨l⟩ := cs
  match l, hsz, xs, hn with
  | [u, v], _, [y0, y1], _ =>
    have h0 := hel 0 (by omega)
    have h1 := hel 1 (by omega)
    simp [hce, Value.cells] at h0 h1
    obtain ⟨a0, e0, rfl, w0⟩ := DataW.trod_int he h0
    obtain ⟨a1, e1, rfl, w1⟩ := DataW.trod_int he h1
    simp at e0 e1
    subst e0 e1
    simp only [Prod.mk.injEq] at hx
    exact ⟨a0, a1, rfl, by simpa using hx.1, by simpa using hx.2, w0, w1⟩
end
/-- A list of texts, as an argument. -/
theorem open_texts {H : Type} {enc : TypeId × Value → H} {W : World} {v : Value} {d : DataW H} {ps : List MemPlace} (hval : Value.okWide Tryz.prog W .any 0 22 v)
    (hd : DataW.Trod enc Tryz.prog W 0 (fun _ => true) true 22 v d ps) :
    ∃ xs : List ByteArray, Sl eS W v xs ∧ ∀ s ∈ xs, s.size ≤ maxLen := by
  obtain ⟨a, len, cap, rfl⟩ := okWide_slice Tryz.underlying22 hval
  obtain ⟨fuel, hf⟩ := hd
  rcases open_strings Tryz.underlying22 Tryz.underlying26 (by kernel_rfl) hf with ⟨hcs, hx⟩ | ⟨a', len', cap', ss, hcs, _, hl, hm, hz, hx, hcell, hsz⟩
  · simp [Value.cells] at hcs
    obtain ⟨rfl, rfl, rfl⟩ := hcs
    exact ⟨[], Sl.nil, by simp⟩
  · simp [Value.cells] at hcs
    obtain ⟨rfl, rfl, rfl⟩ := hcs
    simp only [if_true] at hz
    obtain ⟨b, off, spot⟩ := a'
    have hlen : (ss.take len).length = len := by simp; omega
    have hspot : 0 < len → spot = none := fun h0 => by simpa [Addr.add] using World.cell?_spot (hcell 0 (by omega))
    have hadd : 0 < len → ∀ i, (⟨b, off, spot⟩ : Addr).add i = ⟨b, off + i, none⟩ := fun h0 i => by rw [hspot h0]; simp [Addr.add]
    refine ⟨ss.take len, ⟨some ⟨b, off, spot⟩, b, off, cap, by rw [hlen], fun h => ?_, by omega, hm, (fun h => absurd h (by simp)), ⟨fun h => ?_, fun i hi => ?_⟩⟩, fun s hs => hsz s (List.mem_of_mem_take hs)⟩
    · rw [hlen] at h; rw [hspot h]
    · rw [hlen] at h
      have := hcell 0 (by omega)
      rw [hadd h] at this
      exact World.block_lt_of_cell? _ _ this
    · rw [hlen] at hi
      have := hcell i (by omega)
      rw [hadd (by omega)] at this
      rw [this, List.getElem_take]
      simp [eS, List.getD, show i < ss.length by omega]
theorem again_all {H : Type} {enc : TypeId × Value → H} {P : Program} {W W' : World} (hl : laidOutB P = true) (hb : Below W.heap.size W W') :
    ∀ {ts : List TypeId} {vs : List Value} {ds : List (DataW H)} {ps : List MemPlace}, (∀ t ∈ ts, P.readableRec t = true ∧ t < P.types.size) → DataW.TrodAll enc P W 0 (fun _ => true) true ts vs ds ps →
      DataW.TrodAll enc P W' 0 (fun b => decide (b < W.heap.size)) true ts vs ds ps := by
  intro ts
  induction ts with
  | nil => intro vs ds ps _ h; exact match vs, ds, h with | [], [], h => h
  | cons t ts ih =>
    intro vs ds ps ht h
    obtain ⟨v, vs', d, ds', p, q, rfl, rfl, rfl, h1, h2⟩ := trodAll_cons h
    exact trodAll_cons_mk (Below.trod hl (ht t (by simp)).1 (ht t (by simp)).2 h1 hb (by obtain ⟨n, hn⟩ := h1; exact DataW.trod_lt n _ _ _ hn)) (ih (fun t' h' => ht t' (by simp [h'])) h2)
end Go.Proofs.YtajkhbpffakmfaaGreatDoor
