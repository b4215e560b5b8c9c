/- What is asked of the package-level variables, and that it stays; the builder's contracts in the program's own numbers. -/
import Derived.Test.YtcjcknncajinpaaGreatDoorKit
import Derived.Test.YtcjcknncajinpaaGreatDoorShelf
import Derived.Lib.AppendIntMem
import Derived.Lib.SmallJoins
namespace Go.Proofs.YtcjcknncajinpaaGreatDoor
open Go.RowKit

/-- The package-level variables that the library reads hold what the program lays. -/
structure Env (w : World) : Prop where
  pow : Lib.TabIs Tryz.prog w "internal/strconv.uint64pow10" .u64 Lib.pow10Tab
  syn : ∃ tp p, w.var? Tryz.prog "strconv.ErrSyntax" = some #[.iface tp p]
  rng : ∃ tp p, w.var? Tryz.prog "strconv.ErrRange" = some #[.iface tp p]

theorem var_below {P : Program} {B : Nat} {w w' : World} {n : String} {cs : Array Value} (hv : w.var? P n = some cs) (hb : Below B w w') (hB : w.heap.size ≤ B) : w'.var? P n = some cs := by
  unfold World.var? at hv ⊢
  cases hg : P.globalNamed n with
  | none => rw [hg] at hv; simp at hv
  | some g =>
    rw [hg] at hv
    simp only [Option.bind_some] at hv ⊢
    have hlt : g < w.heap.size := by
      rcases Nat.lt_or_ge g w.heap.size with h | h
      · exact h
      · rw [Array.getElem?_eq_none h] at hv; simp at hv
    rw [hb.block g (Nat.lt_of_lt_of_le hlt hB)]
    exact hv
theorem Env.below {B : Nat} {w w' : World} (h : Env w) (hb : Below B w w') (hB : w.heap.size ≤ B) : Env w' := by
  obtain ⟨h1, ⟨t2, p2, h2⟩, t3, p3, h3⟩ := h
  exact ⟨var_below h1 hb hB, ⟨t2, p2, var_below h2 hb hB⟩, t3, p3, var_below h3 hb hB⟩

/-- A builder of the call's own that holds the bytes l. -/
def Bld (B b : Nat) (l : List UInt8) (w : World) : Prop := Lib.IsBuilderF 91 5 B b (Lib.byteCells l) w ∧ B ≤ w.heap.size

theorem Bld.fresh (w : World) : Bld w.heap.size w.heap.size [] (w.alloc (.cells #[.pointer none, .slice none 0 0] 91)) :=
  ⟨Lib.IsBuilderF.of (Lib.fresh_isBuilder _ _ w), by simp⟩
theorem ownsRowF_below {w w' : World} {base e sz n B : Nat} {v : Value} {xs : List Value} (h : World.ownsRowF w base e sz v n xs) (hb : Below B w w') (hB : w.heap.size ≤ B) : World.ownsRowF w' base e sz v n xs := by
  refine ⟨h.1, ?_⟩
  rcases h.2 with hn | ⟨g, cap, cur, fz, hv, hg, hh, r⟩
  · exact .inl hn
  · exact .inr ⟨g, cap, cur, fz, hv, hg, by rw [hb.block g (Nat.lt_of_lt_of_le (Array.getElem?_eq_some_iff.1 hh).1 hB)]; exact hh, r⟩
theorem Bld.below {B b C : Nat} {l : List UInt8} {w w' : World} (h : Bld B b l w) (hb : Below C w w') (hC : w.heap.size ≤ C) : Bld B b l w' := by
  refine ⟨?_, Nat.le_trans h.2 hb.size⟩
  rcases h.1 with ⟨h1, v, h2, h3, h4⟩ | ⟨h1, v, h2, h3, h4⟩
  · exact .inl ⟨h1, v, by rw [hb.block b (Nat.lt_of_lt_of_le (Array.getElem?_eq_some_iff.1 h2).1 hC)]; exact h2, ownsRowF_below h3 hb hC, h4⟩
  · exact .inr ⟨h1, v, by rw [hb.block b (Nat.lt_of_lt_of_le (Array.getElem?_eq_some_iff.1 h2).1 hC)]; exact h2, ownsRowF_below h3 hb hC, h4⟩

theorem write_any (B b : Nat) (l : List UInt8) (s : ByteArray) (w : World) (h : Bld B b l w) (hl : l.length + s.size ≤ 140737488355328) :
    Calls Tryz.prog 66 #[.pointer (some ⟨b, 0, none⟩), .string s] w (Rets fun v w' => v = .tuple #[.int .i64 s.size, .nilIface] ∧ Bld B b (l ++ s.data.toList) w' ∧ Below B w w') := by
  have c := Any.Builder_WriteString_f { Tryz.lays105 with } Tryz.Builder_Extra_105 B b (Lib.byteCells l) s w h.1 (by simpa [Lib.byteCells] using hl) h.2
  refine Calls.mono (f := 66) c ?_
  rintro e w' ⟨rfl, hb, hbl⟩
  refine ⟨_, rfl, rfl, ⟨.inr ?_, Nat.le_trans h.2 hbl.size⟩, hbl⟩
  have e : Lib.byteCells (l ++ s.data.toList) = Lib.byteCells l ++ Lib.strCells s := by simp [Lib.byteCells, Lib.strCells]
  rw [e]; exact hb
theorem string_any (B b : Nat) (l : List UInt8) (w : World) (h : Bld B b l w) :
    Calls Tryz.prog 68 #[.pointer (some ⟨b, 0, none⟩)] w (Rets fun v w' => v = .string ⟨l.toArray⟩ ∧ Below B w w') := by
  refine (Tryz.Builder_String_any_f B b l w h.1 h.2).mono ?_
  rintro e w' ⟨rfl, _, hb⟩
  exact ⟨_, rfl, rfl, hb⟩
theorem itoa_any (n : Int) (h0 : -9223372036854775808 ≤ n) (h1 : n ≤ 9223372036854775807) (w : World) (he : Env w) :
    Calls Tryz.prog 65 #[.int .i64 n] w (Rets fun v w' => v = .string ⟨(Lib.itoa n).toArray⟩ ∧ Below w.heap.size w w') := by
  refine (Tryz.strconv_Itoa n h0 h1 w he.pow).mono ?_
  rintro e w' ⟨rfl, k, os, rfl⟩
  exact ⟨_, rfl, rfl, Lib.below_grow _ _ (Nat.le_refl _) _ _⟩
theorem repeat_any (s : ByteArray) (c : Nat) (w : World) (hc : c ≤ 9223372036854775807) (hl : s.size * c ≤ 140737488355328) :
    Calls Tryz.prog 67 #[.string s, .int .i64 c] w (Rets fun v w' => v = .string ⟨(Lib.repeatL s.data.toList c).toArray⟩ ∧ Below w.heap.size w w') := by
  refine (Tryz.strings_Repeat s c w hc hl).mono ?_
  rintro e w' ⟨rfl, hb⟩
  exact ⟨_, rfl, rfl, hb⟩
end Go.Proofs.YtcjcknncajinpaaGreatDoor
