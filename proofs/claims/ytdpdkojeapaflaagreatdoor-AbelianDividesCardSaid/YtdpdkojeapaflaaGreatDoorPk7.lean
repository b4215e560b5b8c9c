/- The walk of the abelian law's awake: the chapter's examples. What the rows' lists of package-level variables give; a world for the witnesses. Arrays of two bytes and lists of texts as arguments: opened; an argument reads as it did behind a call that turns nothing old. -/
import Derived.Test.YtdpdkojeapaflaaGreatDoorPk6
import Derived.WalkSpells
import Derived.Test.YtdpdkojeapaflaaGreatDoorCards
import Derived.Test.YtdpdkojeapaflaaGreatDoorTie
import Derived.Test.YtdpdkojeapaflaaGreatDoorPk1
import Derived.ProofKit
import Derived.OpenShut
import Derived.Deep.DeepHandedRow
import Derived.Deep.DeepWitnessRowRef
import Derived.Lib.LaidTab
import Derived.Stop.LaidErr
import Derived.SliceStrings
import Derived.Carry
import Derived.ChangeOld
namespace Go.Proofs.YtdpdkojeapaflaaGreatDoor
open Go.RowKit
set_option maxRecDepth 100000

abbrev sA (n : UInt8) : ByteArray := ⟨#[n]⟩
theorem lit1 : Good ⟨#[49]⟩ 1 := good_lit (by decide) (by decide)
theorem lit2 : Good ⟨#[50]⟩ 2 := good_lit (by decide) (by decide)
theorem lit3 : Good ⟨#[51]⟩ 3 := good_lit (by decide) (by decide)
theorem lit4 : Good ⟨#[52]⟩ 4 := good_lit (by decide) (by decide)
theorem lit6 : Good ⟨#[54]⟩ 6 := good_lit (by decide) (by decide)
theorem lit12 : Good ⟨#[49, 50]⟩ 12 := good_lit (by decide) (by decide)
theorem res_lit {s : ByteArray} {z : Int} (h : Good s z) : resV z = .tuple #[.string s, .int .i64 0] := by
  rw [resV_eq, resT_ok h.2, resK_ok h.2, h.eq]
theorem Sl.four (w : World) (s t u v : ByteArray) (e : TypeId) : Sl eS (w.alloc (.cells #[.string s, .string t, .string u, .string v] e)) (.slice (some ⟨w.heap.size, 0, none⟩) 4 4) [s, t, u, v] :=
  Sl.ofOwns (n := 4) (base := 0) (e := e) ⟨rfl, .inr ⟨w.heap.size, 4, _, rfl, by omega, heap_alloc_new w _, by omega, by simp [maxLen], rfl, rfl⟩⟩
theorem g26_goods : Goods [sA 50, sA 54] [2, 6] := ⟨lit2, lit6, trivial⟩
theorem g26_two : ∀ z ∈ [(2 : Int), 6], 2 ≤ z := by decide
theorem g26_chk : gchk [sA 50, sA 54] = 0 := by decide +kernel
theorem g26_sz : ∀ s ∈ [sA 50, sA 54], s.size ≤ 1000000 := by decide
theorem g26_pos : Pos [sA 50, sA 54] [2, 6] 6 3 :=
  ⟨by rw [show sA 50 = tx 2 from lit2.eq, show sA 54 = tx 6 from lit6.eq, List.map, List.map, List.map], by decide, by decide, by decide, by decide +kernel, by decide⟩

set_option maxHeartbeats 4000000 in
theorem awake05 (w : World) (he : Env w) : Calls Tryz.prog 16 #[] w (Rets fun v w' => v = .bool true ∧ Below w.heap.size w w') := by
  have HE := Lib.hid he
  clear he
  have b0 := Below.refl w.heap.size w
  have HP := Lib.hid g26_pos
  have R1 := Lib.hid (show resV (prods [2, 6]) = _ from res_lit lit12)
  have R2 := Lib.hid (show lastOf [sA 50, sA 54] = ⟨#[54]⟩ from rfl)
  have R3 := Lib.hid (show tx (lcms (quos [2, 6] [1, 2])) = ⟨#[54]⟩ by rw [show lcms (quos [2, 6] [1, 2]) = 6 by decide +kernel]; exact lit6.eq.symm)
  have R4 := Lib.hid (show tx (lcms (quos [2, 6] [1, 3])) = ⟨#[50]⟩ by rw [show lcms (quos [2, 6] [1, 3]) = 2 by decide +kernel]; exact lit2.eq.symm)
  have R5 := Lib.hid (show resV (prods (gcds [2, 6] 2)) = .tuple #[.string ⟨#[52]⟩, .int .i64 0] by rw [show prods (gcds [2, 6] 2) = 4 by decide +kernel]; exact res_lit lit4)
  have A1 := Lib.hid (show [sA 49, sA 50] = [1, 2].map tx by rw [show sA 49 = tx 1 from lit1.eq, show sA 50 = tx 2 from lit2.eq, List.map, List.map, List.map])
  have A2 := Lib.hid (show [sA 49, sA 51] = [1, 3].map tx by rw [show sA 49 = tx 1 from lit1.eq, show sA 51 = tx 3 from lit3.eq, List.map, List.map, List.map])
  have M1 := Lib.hid (show mchk [sA 50, sA 54] [sA 49, sA 50] = 0 by decide +kernel)
  have M2 := Lib.hid (show mchk [sA 50, sA 54] [sA 49, sA 51] = 0 by decide +kernel)
  have O1 := Lib.hid (show ochk [sA 49, sA 49, sA 50, sA 54] = 0 by decide +kernel)
  have K1 := Lib.hid (show okeep [sA 49, sA 49, sA 50, sA 54] = [sA 50, sA 54] by decide +kernel)
  have O2 := Lib.hid (show ochk [sA 49, sA 48] = 10 by decide +kernel)
  have L1 := Lib.hid (show ∀ i (h : i < [2, 6].length) (h' : i < [1, 2].length), [1, 2][i] < [2, 6][i] by decide)
  have L2 := Lib.hid (show ∀ i (h : i < [2, 6].length) (h' : i < [1, 3].length), [1, 3][i] < [2, 6][i] by decide)
  have S1 := Lib.hid (show ∀ s ∈ [sA 49, sA 50], s.size ≤ 1000000 by decide)
  have S2 := Lib.hid (show ∀ s ∈ [sA 49, sA 51], s.size ≤ 1000000 by decide)
  have S3 := Lib.hid (show ∀ s ∈ [sA 49, sA 49, sA 50, sA 54], s.size ≤ 1000000 by decide)
  have S4 := Lib.hid (show ∀ s ∈ [sA 49, sA 48], s.size ≤ 1000000 by decide)
  go_enter Tryz.func16, Tryz.ntmps16
  go_wp2_with (first
    | (go_at_call 21; (with_reducible refine (Order_ok _ _ [sA 50, sA 54] [2, 6] (Sl.pair w _ _ _) g26_goods g26_two g26_chk g26_sz (HE.out.below (b0.alloc (Nat.le_refl _) _) (Nat.le_refl _))).mono ?_); rintro e w2 ⟨v, rfl, rfl, hb2⟩; rw [R1.out]; have b2 := (b0.alloc (Nat.le_refl _) _).trans (hb2.mono (by simp)); have G2 := Lib.hid ((Sl.pair w (sA 50) (sA 54) _).below hb2 (Nat.le_refl _)))
    | (go_at_call 23; (with_reducible refine (Exponent_ok _ _ [sA 50, sA 54] G2.out g26_chk (by decide) g26_sz (HE.out.below b2 (Nat.le_refl _))).mono ?_); rintro e w3 ⟨v, rfl, rfl, hb3⟩; rw [R2.out]; have b3 := b2.trans (hb3.mono b2.size); have G3 := Lib.hid (G2.out.below hb3 (Nat.le_refl _)))
    | (go_at_call 17; (with_reducible refine (OrderOf_ok _ _ _ [sA 50, sA 54] [sA 49, sA 51] [2, 6] [2, 6] [1, 3] 6 3 (G4.out.below ((Below.refl w4.heap.size w4).alloc (Nat.le_refl _) _) (Nat.le_refl _)) (Sl.pair w4 _ _ _) g26_goods g26_chk M2.out HP.out A2.out L2.out (by decide) rfl g26_sz S2.out (HE.out.below (b4.alloc b4.size _) (Nat.le_refl _))).mono ?_); rintro e w5 ⟨v, rfl, rfl, hb5⟩; rw [R4.out]; have b5 := (b4.alloc b4.size _).trans (hb5.mono (by simp; have := b4.size; omega)); have G5 := Lib.hid ((G4.out.below ((Below.refl w4.heap.size w4).alloc (Nat.le_refl _) _) (Nat.le_refl _)).below hb5 (Nat.le_refl _)))
    | (go_at_call 17; go_must (with_reducible refine (OrderOf_ok _ _ _ [sA 50, sA 54] [sA 49, sA 50] [2, 6] [2, 6] [1, 2] 6 3 (G3.out.below ((Below.refl w3.heap.size w3).alloc (Nat.le_refl _) _) (Nat.le_refl _)) (Sl.pair w3 _ _ _) g26_goods g26_chk M1.out HP.out A1.out L1.out (by decide) rfl g26_sz S1.out (HE.out.below (b3.alloc b3.size _) (Nat.le_refl _))).mono ?_); rintro e w4 ⟨v, rfl, rfl, hb4⟩; rw [R3.out]; have b4 := (b3.alloc b3.size _).trans (hb4.mono (by simp; have := b3.size; omega)); have G4 := Lib.hid ((G3.out.below ((Below.refl w3.heap.size w3).alloc (Nat.le_refl _) _) (Nat.le_refl _)).below hb4 (Nat.le_refl _)))
    | (go_at_call 43; (with_reducible refine (Count_ok _ _ [sA 50, sA 54] [2, 6] _ 2 G5.out g26_goods g26_two g26_chk (by decide) lit2 (by decide) (by decide) g26_sz (HE.out.below b5 (Nat.le_refl _))).mono ?_); rintro e w6 ⟨v, rfl, rfl, hb6⟩; rw [R5.out]; have b6 := b5.trans (hb6.mono b5.size); have G6 := Lib.hid (G5.out.below hb6 (Nat.le_refl _)))
    | (go_at_call 19; (with_reducible refine (AOf_any _ _ [sA 49, sA 48] (Sl.pair w7 _ _ _) (fun _ => S4.out) (HE.out.below (b7.alloc b7.size _) (Nat.le_refl _))).mono ?_); rintro e w8 ⟨v, rfl, r8, rfl, hs8, hb8⟩; rw [O2.out]; clear hs8; have b8 := (b7.alloc b7.size _).trans (hb8.mono (by simp; have := b7.size; omega)); have G8 := Lib.hid ((G7.out.below ((Below.refl w7.heap.size w7).alloc (Nat.le_refl _) _) (Nat.le_refl _)).below hb8 (Nat.le_refl _)); have F8 := Lib.hid ((F7.out.below ((Below.refl w7.heap.size w7).alloc (Nat.le_refl _) _) (Nat.le_refl _)).below hb8 (Nat.le_refl _)))
    | (go_at_call 19; (with_reducible refine (AOf_any _ _ [sA 49, sA 49, sA 50, sA 54] (Sl.four w6 _ _ _ _ _) (fun _ => S3.out) (HE.out.below (b6.alloc b6.size _) (Nat.le_refl _))).mono ?_); rintro e w7 ⟨v, rfl, r7, rfl, hs7, hb7⟩; rw [O1.out]; rw [K1.out] at hs7; have F7 := Lib.hid hs7; clear hs7; have b7 := (b6.alloc b6.size _).trans (hb7.mono (by simp; have := b6.size; omega)); have G7 := Lib.hid ((G6.out.below ((Below.refl w6.heap.size w6).alloc (Nat.le_refl _) _) (Nat.le_refl _)).below hb7 (Nat.le_refl _)))
    | (go_at_call 33; (with_reducible refine (Equal_same _ _ _ [sA 50, sA 54] F8.out G8.out).mono ?_); rintro e w9 ⟨v, rfl, rfl, hb9⟩; have b9 := b8.trans (hb9.mono b8.size)))
  go_ret
  exact ⟨_, rfl, rfl, b9⟩
end Go.Proofs.YtdpdkojeapaflaaGreatDoor

namespace Go.Proofs.YtdpdkojeapaflaaGreatDoor
open Go.RowKit

theorem cOwn : ownKnob Tryz.prog.godebug = none := by kernel_rfl
theorem int_wf {n : Int} (h : (Lit.int .i64 n).wf = true) : -9223372036854775808 ≤ n ∧ n ≤ 9223372036854775807 := by
  have e1 : IntKind.i64.min = -9223372036854775808 := rfl
  have e2 : IntKind.i64.max = 9223372036854775807 := rfl
  simp [Lit.wf, e1, e2] at h; exact h
theorem int32_wf {n : Int} (h : (Lit.int .i32 n).wf = true) : -2147483648 ≤ n ∧ n ≤ 2147483647 := by
  have e1 : IntKind.i32.min = -2147483648 := rfl
  have e2 : IntKind.i32.max = 2147483647 := rfl
  simp [Lit.wf, e1, e2] at h; exact h
theorem u8_wf {n : Int} (h : (Lit.int .u8 n).wf = true) : 0 ≤ n ∧ n ≤ 255 := by
  have e1 : IntKind.u8.min = 0 := rfl
  have e2 : IntKind.u8.max = 255 := rfl
  simp [Lit.wf, e1, e2] at h; exact h
theorem cErrT (u : TypeId) (h : Tryz.prog.typeName? 3 u = some "*errors.errorString") : u = 193 :=
  typeName_ptr_named (nm := "errors.errorString") (by rw [show "*" ++ "errors.errorString" = "*errors.errorString" by decide]; kernel_rfl) (by kernel_rfl) (by decide) u (by rw [show "*" ++ "errors.errorString" = "*errors.errorString" by decide]; exact h)

/-- What the five listed variables hold. -/
def laid5 : List (String × DataW Unit) := [("math/bits.deBruijn32tab", Rows.laid_math_bits_deBruijn32tab), ("math/bits.deBruijn64tab", Rows.laid_math_bits_deBruijn64tab), ("internal/strconv.uint64pow10", Rows.laid_internal_strconv_uint64pow10), ("strconv.ErrRange", Rows.laid_strconv_ErrRange), ("strconv.ErrSyntax", Rows.laid_strconv_ErrSyntax)]
theorem env_of {W : World} (h : laidMetH Tryz.prog laid5 W) : Env W := by
  have h1 : laidMet Tryz.prog laid5 W := h
  have h2 := h1.tail.tail
  obtain ⟨a0, t0, hv0, -, -, -⟩ := laid_sentinel (g := 1) h2.tail (by kernel_rfl) (by kernel_rfl) Tryz.underlying136 cErrT Tryz.underlying193 Tryz.underlying195 rfl rfl Tryz.underlying9 (by kernel_rfl) (by kernel_rfl)
  obtain ⟨a1, t1, hv1, -, -, -⟩ := laid_sentinel (g := 0) h2.tail.tail (by kernel_rfl) (by kernel_rfl) Tryz.underlying136 cErrT Tryz.underlying193 Tryz.underlying195 rfl rfl Tryz.underlying9 (by kernel_rfl) (by kernel_rfl)
  exact ⟨Lib.tabIs_of_head (g := 2) (t := 189) (e := 144) (by kernel_rfl) (by kernel_rfl) Tryz.underlying189 Tryz.underlying144 (by kernel_rfl) (by kernel_rfl) h2, ⟨_, _, hv1⟩, ⟨_, _, hv0⟩⟩

/-- The world of a witness: the listed variables hold what their initialisers lay. -/
noncomputable def laidWorld (os : Os) : World :=
  let N := (World.settled Tryz.prog os).heap.size
  let w0 := World.holding Tryz.prog os ⟨#[.cells #[.string ⟨#[118, 97, 108, 117, 101, 32, 111, 117, 116, 32, 111, 102, 32, 114, 97, 110, 103, 101]⟩] 195, .cells #[.string ⟨#[105, 110, 118, 97, 108, 105, 100, 32, 115, 121, 110, 116, 97, 120]⟩] 195], #[], []⟩
  let put (h : Array Obj) (g : Nat) (cs : Array Value) : Array Obj := h.modify g fun
    | .cells _ t frozen => .cells cs t frozen
    | o => o
  let h1 := put w0.heap 4 (([0, 1, 28, 2, 29, 14, 24, 3, 30, 22, 20, 15, 25, 17, 4, 8, 31, 27, 13, 23, 21, 19, 16, 7, 26, 12, 18, 6, 11, 5, 10, 9] : List Int).map fun z => Value.int .u8 z).toArray
  let h2 := put h1 5 (([0, 1, 56, 2, 57, 49, 28, 3, 61, 58, 42, 50, 38, 29, 17, 4, 62, 47, 59, 36, 45, 43, 51, 22, 53, 39, 33, 30, 24, 18, 12, 5, 63, 55, 48, 27, 60, 41, 37, 16, 46, 35, 44, 21, 52, 32, 23, 11, 54, 26, 40, 15, 34, 20, 31, 10, 25, 14, 19, 9, 13, 8, 7, 6] : List Int).map fun z => Value.int .u8 z).toArray
  let h3 := put h2 2 (Lib.pow10Tab.map fun z => Value.int .u64 z).toArray
  let h4 := put h3 1 #[.iface 193 (.pointer (some ⟨N, 0, none⟩))]
  let h5 := put h4 0 #[.iface 193 (.pointer (some ⟨N + 1, 0, none⟩))]
  { w0 with heap := h5 }
theorem laid_met (os : Os) (args : Array Value) : laidMet Tryz.prog laid5 ((laidWorld os).forCall (fun _ _ => 0) ⟨#[], args, []⟩).memory :=
  laidMet_of_run' 8 (by kernel_rfl) (by kernel_rfl)
end Go.Proofs.YtdpdkojeapaflaaGreatDoor

namespace Go.Proofs.YtdpdkojeapaflaaGreatDoor
open Go.ChangeShapes Go.WideShapes Go.RowKit
set_option maxRecDepth 100000

section
variable {H : Type} {enc : TypeId × Value → H} {P : Program} {W : World} {base : Nat} {spare : Nat → Bool} {held : Bool}
theorem open_arr2 {r : Reach} {b0 : Nat} {t e : TypeId} {v : Value} {d : DataW H} {ps : List MemPlace} (ht : P.underlying t = some (.array 2 e)) (he : P.underlying e = some (.int .u8)) (hct : P.cellsOf t = 2) (hce : P.cellsOf e = 1)
    (hval : Value.okWide P W r b0 t v) (hd : DataW.Trod enc P W base spare held t v d ps) :
    ∃ m n, v = .agg #[.int .u8 m, .int .u8 n] ∧ d = .agg [.lit (.int .u8 m), .lit (.int .u8 n)] ∧ ps = [] ∧ (Lit.int .u8 m).wf = true ∧ (Lit.int .u8 n).wf = true := by
  simp only [Value.okWide, ht] at hval
  obtain ⟨cs, rfl, hsz, -⟩ := hval
  rw [hct] at hsz
  obtain ⟨fuel, hf⟩ := hd
  obtain ⟨xs, m, -, hx, hl, hn, hel⟩ := DataW.trod_array ht hf
  obtain ⟨l⟩ := cs
  match l, hsz, xs, hn with
  | [u, v], _, [y0, y1], _ =>
    have h0 := hel 0 (by omega)
    have h1 := hel 1 (by omega)
    simp [hce, Value.cells] at h0 h1
    obtain ⟨a0, e0, rfl, w0⟩ := DataW.trod_int he h0
    obtain ⟨a1, e1, rfl, w1⟩ := DataW.trod_int he h1
    simp at e0 e1
    subst e0 e1
    simp only [Prod.mk.injEq] at hx
    exact ⟨a0, a1, rfl, by simpa using hx.1, by simpa using hx.2, w0, w1⟩
end
/-- A list of texts, as an argument. -/
theorem open_texts {H : Type} {enc : TypeId × Value → H} {W : World} {v : Value} {d : DataW H} {ps : List MemPlace} (hval : Value.okWide Tryz.prog W .any 0 22 v)
    (hd : DataW.Trod enc Tryz.prog W 0 (fun _ => true) true 22 v d ps) :
    ∃ xs : List ByteArray, Sl eS W v xs ∧ ∀ s ∈ xs, s.size ≤ maxLen := by
  obtain ⟨a, len, cap, rfl⟩ := okWide_slice Tryz.underlying22 hval
  obtain ⟨fuel, hf⟩ := hd
  rcases open_strings Tryz.underlying22 Tryz.underlying27 (by kernel_rfl) hf with ⟨hcs, hx⟩ | ⟨a', len', cap', ss, hcs, _, hl, hm, hz, hx, hcell, hsz⟩
  · simp [Value.cells] at hcs
    obtain ⟨rfl, rfl, rfl⟩ := hcs
    exact ⟨[], Sl.nil, by simp⟩
  · simp [Value.cells] at hcs
    obtain ⟨rfl, rfl, rfl⟩ := hcs
    simp only [if_true] at hz
    obtain ⟨b, off, spot⟩ := a'
    have hlen : (ss.take len).length = len := by simp; omega
    have hspot : 0 < len → spot = none := fun h0 => by simpa [Addr.add] using World.cell?_spot (hcell 0 (by omega))
    have hadd : 0 < len → ∀ i, (⟨b, off, spot⟩ : Addr).add i = ⟨b, off + i, none⟩ := fun h0 i => by rw [hspot h0]; simp [Addr.add]
    refine ⟨ss.take len, ⟨some ⟨b, off, spot⟩, b, off, cap, by rw [hlen], fun h => ?_, by omega, hm, (fun h => absurd h (by simp)), ⟨fun h => ?_, fun i hi => ?_⟩⟩, fun s hs => hsz s (List.mem_of_mem_take hs)⟩
    · rw [hlen] at h; rw [hspot h]
    · rw [hlen] at h
      have := hcell 0 (by omega)
      rw [hadd h] at this
      exact World.block_lt_of_cell? _ _ this
    · rw [hlen] at hi
      have := hcell i (by omega)
      rw [hadd (by omega)] at this
      rw [this, List.getElem_take]
      simp [eS, List.getD, show i < ss.length by omega]
theorem again_all {H : Type} {enc : TypeId × Value → H} {P : Program} {W W' : World} (hl : laidOutB P = true) (hb : Below W.heap.size W W') :
    ∀ {ts : List TypeId} {vs : List Value} {ds : List (DataW H)} {ps : List MemPlace}, (∀ t ∈ ts, P.readableRec t = true ∧ t < P.types.size) → DataW.TrodAll enc P W 0 (fun _ => true) true ts vs ds ps →
      DataW.TrodAll enc P W' 0 (fun b => decide (b < W.heap.size)) true ts vs ds ps := by
  intro ts
  induction ts with
  | nil => intro vs ds ps _ h; exact match vs, ds, h with | [], [], h => h
  | cons t ts ih =>
    intro vs ds ps ht h
    obtain ⟨v, vs', d, ds', p, q, rfl, rfl, rfl, h1, h2⟩ := trodAll_cons h
    exact trodAll_cons_mk (Below.trod hl (ht t (by simp)).1 (ht t (by simp)).2 h1 hb (by obtain ⟨n, hn⟩ := h1; exact DataW.trod_lt n _ _ _ hn)) (ih (fun t' h' => ht t' (by simp [h'])) h2)
end Go.Proofs.YtdpdkojeapaflaaGreatDoor
