/- Slices of structs of k one-cell fields: read, owned, appended to. The contracts of the library's sort, comparison and copy at this translation: laid by the guide's own tools (lay-shelf, lay-plain), the wanted ones alone. The walks of cmp.Or at two ints, of the comparisons of pairs, and of the small tests of graphs. -/
import Derived.Test.YtlnhocgjgmhfgaaGreatDoorPk1
import Derived.Shelf.Strings.Builder1
import Derived.Shelf.Strings.Builder2
import Derived.Shelf.Small.Bits
import Derived.Shelf.Strings.BuilderF
import Derived.Shelf.Strings.BuilderK
import Derived.Shelf.Strings.Builder2Cap
import Derived.Shelf.Strconv.Itoa0
import Derived.Shelf.Strings.Prefix
import Derived.Shelf.Bits.Mul64
import Derived.Shelf.Slices.Equal
import Derived.Ground.Names2Prog
import Derived.Shelf.Slices.Clone
import Derived.Shelf.Slices.SearchI
import Derived.Shelf.Slices.Empties2
import Derived.Ground.SlgnProg
import Derived.Shelf.SlicesE.Clone
import Derived.Ground.SlgcProg
import Derived.Shelf.SlicesG.Cmp
import Derived.Shelf.SlSortCmp.NoneTotal
import Derived.Ground.SlsfProg
import Derived.Test.YtlnhocgjgmhfgaaGreatDoorProg
namespace Go.Proofs.YtlnhocgjgmhfgaaGreatDoor
open Go.RowKit
set_option maxRecDepth 100000

/-- The cells of a list, k cells an element. -/
def CellsK {α : Type} (enc : α → List Value) (k : Nat) (w : World) (b o : Nat) (xs : List α) : Prop :=
  (0 < xs.length → b < w.heap.size) ∧ ∀ i (h : i < xs.length) j v, (enc xs[i])[j]? = some v → w.cell? ⟨b, o + i * k + j, none⟩ = some v
/-- The slice value v reads as the list xs, each element k cells. -/
def SlK {α : Type} (enc : α → List Value) (k : Nat) (w : World) (v : Value) (xs : List α) : Prop :=
  ∃ (a : Option Addr) (b o c : Nat), v = .slice a xs.length c ∧ (0 < xs.length → a = some ⟨b, o, none⟩) ∧ xs.length ≤ c ∧ c ≤ maxLen ∧ (a = none → c = 0) ∧ CellsK enc k w b o xs
section
variable {α : Type} {enc : α → List Value} {k : Nat} {w w' : World} {v : Value} {xs : List α} {B b o : Nat}
theorem CellsK.below (h : CellsK enc k w b o xs) (hb : Below B w w') (hB : w.heap.size ≤ B) : CellsK enc k w' b o xs :=
  ⟨fun h0 => Nat.lt_of_lt_of_le (h.1 h0) hb.size, fun i hi j u hu => by rw [hb.cell (show b < B from Nat.lt_of_lt_of_le (h.1 (by omega)) hB)]; exact h.2 i hi j u hu⟩
theorem CellsK.at (h : CellsK enc k w b o xs) (hb : Below B w w') (hB : w.heap.size ≤ B) (i : Nat) (hi : i < xs.length) (j : Nat) (u : Value) (hu : (enc xs[i])[j]? = some u) : w'.cell? ⟨b, o + i * k + j, none⟩ = some u := (h.below hb hB).2 i hi j u hu
theorem SlK.below (h : SlK enc k w v xs) (hb : Below B w w') (hB : w.heap.size ≤ B) : SlK enc k w' v xs := by
  obtain ⟨a, b, o, c, rfl, ha, hc, hm, hn, hx⟩ := h
  exact ⟨a, b, o, c, rfl, ha, hc, hm, hn, hx.below hb hB⟩
theorem SlK.nil : SlK enc k w (.slice none 0 0) [] :=
  ⟨none, 0, 0, 0, rfl, fun h => absurd h (by simp), by simp, by simp [maxLen], fun _ => rfl, fun h => absurd h (by simp), fun i hi => absurd hi (by simp)⟩
theorem SlK.form (h : SlK enc k w v xs) : ∃ a c, v = .slice a xs.length c := by
  obtain ⟨a, b, o, c, rfl, -⟩ := h
  exact ⟨a, c, rfl⟩
theorem SlK.len (h : SlK enc k w v xs) : xs.length ≤ maxLen := by
  obtain ⟨a, b, o, c, rfl, ha, hc, hm, hn, hx⟩ := h
  omega
theorem flat_len (hk : ∀ x, (enc x).length = k) : ∀ xs : List α, (xs.flatMap enc).length = xs.length * k
  | [] => by simp
  | x :: xs => by rw [List.flatMap_cons, List.length_append, hk, flat_len hk xs, List.length_cons, Nat.add_mul, Nat.one_mul, Nat.add_comm]
theorem flat_get (hk : ∀ x, (enc x).length = k) : ∀ (xs : List α) (i : Nat) (h : i < xs.length) (j : Nat), j < k → (xs.flatMap enc)[i * k + j]? = (enc xs[i])[j]?
  | x :: xs, 0, _, j, hj => by
    rw [List.flatMap_cons, Nat.zero_mul, Nat.zero_add, List.getElem?_append_left (by rw [hk]; exact hj)]; rfl
  | x :: xs, i + 1, h, j, hj => by
    rw [List.flatMap_cons, List.getElem?_append_right (by rw [hk, Nat.add_mul]; omega), hk, show (i + 1) * k + j - k = i * k + j by rw [Nat.add_mul]; omega]
    rw [flat_get hk xs i (by simpa using h) j hj]
    simp only [List.getElem_cons_succ]
theorem ownsRow_size {base e n size : Nat} {ys : List Value} (h : w.ownsRow base e size v n ys) : ys.length = n * size := h.1
theorem ownK_at {base e n g cap : Nat} (hk : ∀ x, (enc x).length = k) (h : w.ownsRow base e k (.slice (some ⟨g, 0, none⟩) n cap) n (xs.flatMap enc)) (i : Nat) (hi : i < xs.length) (j : Nat) (u : Value) (hu : (enc xs[i])[j]? = some u) : w.cell? ⟨g, i * k + j, none⟩ = some u := by
  have hj : j < k := by rw [← hk xs[i]]; exact (List.getElem?_eq_some_iff.1 hu).1
  have := h.cells (g := g) rfl (i * k + j) u (by rw [flat_get hk xs i hi j hj]; exact hu)
  rwa [addr0] at this
theorem SlK.ofOwns {base e n : Nat} (hk : ∀ x, (enc x).length = k) (h : w.ownsRow base e k v n (xs.flatMap enc)) (hn : n = xs.length) : SlK enc k w v xs := by
  subst hn
  rcases h.2 with ⟨rfl, h0⟩ | ⟨g, cap, cur, rfl, hb, hg, hc, hm, hsz, ht⟩
  · obtain rfl : xs = [] := by
      cases xs with
      | nil => rfl
      | cons x xs =>
        simp at h0
    exact SlK.nil
  · exact ⟨some ⟨g, 0, none⟩, g, 0, cap, rfl, fun _ => rfl, hc, hm, by simp, fun _ => (Array.getElem?_eq_some_iff.1 hg).1, fun i hi j u hu => by rw [Nat.zero_add]; exact ownK_at hk h i hi j u hu⟩
theorem idxK {P : Program} (t : TypeId) {a : Option Addr} {b o n c k : Nat} (ht : P.underlying t = some (.slice (P.elem t))) (hs : ∀ W : World, (sizeOf (P.elem t)).run P W = .ok k W) (ha : 0 < n → a = some ⟨b, o, none⟩) :
    ∀ (m : Nat) (i : Int) (W : World), (Instr.indexAt t (.slice a m c) (.int .i64 i)).run P W = if 0 ≤ i ∧ i < m ∧ m ≤ n then .ok (.pointer (some ⟨b, o + i.toNat * k, none⟩)) W else oob P t (.slice a m c) i W := by
  intro m i W
  split
  · rename_i h
    rw [ha (by omega), run_indexAt_slice W t _ _ _ _ _ ht, if_pos ⟨h.1, h.2.1⟩, hs W]
    simp only [Result.andThen_ok, Addr.add]
    split
    · rename_i h0; rw [h0, Nat.add_zero]
    · rfl
  · rfl
/-- A slice of elements of k cells, opened: its value, the rule for its elements' addresses, its cells. -/
theorem SlK.open {P : Program} {t e : TypeId} {z : Value} {bytes : Nat} (hE : ElemOk P t e z k bytes) (h : SlK enc k w v xs) :
    ∃ (a : Option Addr) (b o c : Nat), v = .slice a xs.length c ∧
      (∀ (m : Nat) (i : Int) (W : World), (Instr.indexAt t (.slice a m c) (.int .i64 i)).run P W = if 0 ≤ i ∧ i < m ∧ m ≤ xs.length then .ok (.pointer (some ⟨b, o + i.toNat * k, none⟩)) W else oob P t (.slice a m c) i W) ∧
      CellsK enc k w b o xs ∧ xs.length ≤ c ∧ c ≤ maxLen := by
  obtain ⟨a, b, o, c, rfl, ha, hc, hm, hn, hx⟩ := h
  exact ⟨a, b, o, c, rfl, idxK t (by rw [hE.elem]; exact hE.und) (by rw [hE.elem]; exact hE.sz) ha, hx, hc, hm⟩
end

section
variable {P : Program} {t e : TypeId} {z : Value} {size bytes : Nat} {ops : Array Oper} {rest : List Oper} {o : Oper} {a : Act} {Q : Exit → Act → World → Prop} {K : Act → World → Prop} {E : Prop}
/-- 'append(out, x, ..)' as one operation: m elements that were just laid in a new block; what turned is the own row alone. -/
theorem appMw (hE : ElemOk P t e z size bytes) (s x : Operand) (ho : o.op = .call { callee := .builtin .append, args := #[s, x], argTypes := #[t, t] })
    {v : Value} {n m c base B : Nat} {xs news : List Value} {w0 W : World} (hs : a.eval s = v) (hx : a.eval x = .slice (some ⟨w0.heap.size, 0, none⟩) m c)
    (hown : w0.ownsRow base e size v n xs) (hb : Below B W w0) (hB : B ≤ base) (hbase : base ≤ w0.heap.size) (hl : news.length = m * size) (h1 : ∀ u ∈ news, u.oneCell' = true)
    (hn : (n + m) * bytes ≤ 140737488355328) (hn' : n + m ≤ maxLen)
    (h : ∀ v' w', w'.ownsRow base e size v' (n + m) (xs ++ news) → Below B W w' → K (a.put o.dst v') w') :
    Oper.wp P o a (w0.alloc (.cells news.toArray e)) K Q := by
  obtain ⟨i, hi, hz, hsz, hby⟩ := hE.info
  refine wp_append_own _ s x t ho base e i z size bytes hE.und hi hz hsz hby hE.cells hE.pos v n xs hs (hown.alloc _) ⟨w0.heap.size, 0, none⟩ m c news hx (by rw [hl]) ?_ h1 hn' hn (by simp; omega) ?_
  · intro j u hj
    rw [addr0]
    rw [cell_of_row _ w0.heap.size j news.toArray e (0, 0) (heap_alloc_new w0 _)]
    simpa using hj
  · intro v' w' ho' hg _
    exact h v' w' ho' ((hb.alloc (by omega) _).grown hg (by simp; omega) (fun j hj => by have := (hown.lt j hj).1; omega))
theorem appM_step (hE : ElemOk P t e z size bytes) (hgd : o.guard = none) (s x : Operand) (ho : o.op = .call { callee := .builtin .append, args := #[s, x], argTypes := #[t, t] })
    {v : Value} {n m c base B : Nat} {xs news : List Value} {w0 W : World} (hs : a.eval s = v) (hx : a.eval x = .slice (some ⟨w0.heap.size, 0, none⟩) m c)
    (hown : w0.ownsRow base e size v n xs) (hb : Below B W w0) (hB : B ≤ base) (hbase : base ≤ w0.heap.size) (hl : news.length = m * size) (h1 : ∀ u ∈ news, u.oneCell' = true)
    (hn : (n + m) * bytes ≤ 140737488355328) (hn' : n + m ≤ maxLen)
    (h : ∀ v' w', w'.ownsRow base e size v' (n + m) (xs ++ news) → Below B W w' → K (a.put o.dst v') w') :
    if Region.wanted o (yielded ops a.tmps) = true then Oper.wp P o a (w0.alloc (.cells news.toArray e)) K Q else E := by
  rw [if_pos (by simp [Region.wanted, hgd])]
  exact appMw hE s x ho hs hx hown hb hB hbase hl h1 hn hn' h
theorem appM (hE : ElemOk P t e z size bytes) (hgd : o.guard = none) (s x : Operand) (ho : o.op = .call { callee := .builtin .append, args := #[s, x], argTypes := #[t, t] })
    {v : Value} {n m c base B : Nat} {xs news : List Value} {w0 W : World} (hs : a.eval s = v) (hx : a.eval x = .slice (some ⟨w0.heap.size, 0, none⟩) m c)
    (hown : w0.ownsRow base e size v n xs) (hb : Below B W w0) (hB : B ≤ base) (hbase : base ≤ w0.heap.size) (hl : news.length = m * size) (h1 : ∀ u ∈ news, u.oneCell' = true)
    (hn : (n + m) * bytes ≤ 140737488355328) (hn' : n + m ≤ maxLen)
    (h : ∀ v' w', w'.ownsRow base e size v' (n + m) (xs ++ news) → Below B W w' → wpList P ops Q rest (a.put o.dst v') w') :
    wpList P ops Q (o :: rest) a (w0.alloc (.cells news.toArray e)) := by
  obtain ⟨i, hi, hz, hsz, hby⟩ := hE.info
  refine wpList_append_own _ hgd s x t ho base e i z size bytes hE.und hi hz hsz hby hE.cells hE.pos v n xs hs (hown.alloc _) ⟨w0.heap.size, 0, none⟩ m c news hx (by rw [hl]) ?_ h1 hn' hn (by simp; omega) ?_
  · intro j u hj
    rw [addr0]
    rw [cell_of_row _ w0.heap.size j news.toArray e (0, 0) (heap_alloc_new w0 _)]
    simpa using hj
  · intro v' w' ho' hg _
    exact h v' w' ho' ((hb.alloc (by omega) _).grown hg (by simp; omega) (fun j hj => by have := (hown.lt j hj).1; omega))
end

/-- Three ints, two ints. -/
def e3 (x : Int × Int × Int) : List Value := [.int .i64 x.1, .int .i64 x.2.1, .int .i64 x.2.2]
def e2 (x : Int × Int) : List Value := [.int .i64 x.1, .int .i64 x.2]
theorem e3_len (x : Int × Int × Int) : (e3 x).length = 3 := rfl
theorem e2_len (x : Int × Int) : (e2 x).length = 2 := rfl
theorem e3_one (x : Int × Int × Int) : ∀ u ∈ e3 x, u.oneCell' = true := by intro u hu; simp [e3] at hu; rcases hu with rfl | rfl | rfl <;> rfl
theorem e2_one (x : Int × Int) : ∀ u ∈ e2 x, u.oneCell' = true := by intro u hu; simp [e2] at hu; rcases hu with rfl | rfl <;> rfl
theorem elemEdge : ElemOk Tryz.prog 22 81 (.agg #[.int .i64 0, .int .i64 0, .int .i64 0]) 3 24 :=
  ⟨Tryz.underlying22, info_parts (by kernel_rfl : (Tryz.prog.info? 81).map (fun i => (i.zero, i.size, i.bytes)) = some (some (.agg #[.int .i64 0, .int .i64 0, .int .i64 0]), 3, 24)), rfl, by decide, by kernel_rfl, fun _ => by kernel_rfl⟩
theorem elemArc : ElemOk Tryz.prog 26 83 (.agg #[.int .i64 0, .int .i64 0, .int .i64 0]) 3 24 :=
  ⟨Tryz.underlying26, info_parts (by kernel_rfl : (Tryz.prog.info? 83).map (fun i => (i.zero, i.size, i.bytes)) = some (some (.agg #[.int .i64 0, .int .i64 0, .int .i64 0]), 3, 24)), rfl, by decide, by kernel_rfl, fun _ => by kernel_rfl⟩
theorem elemEnds : ElemOk Tryz.prog 54 60 (.agg #[.int .i64 0, .int .i64 0]) 2 16 :=
  ⟨Tryz.underlying54, info_parts (by kernel_rfl : (Tryz.prog.info? 60).map (fun i => (i.zero, i.size, i.bytes)) = some (some (.agg #[.int .i64 0, .int .i64 0]), 2, 16)), rfl, by decide, by kernel_rfl, fun _ => by kernel_rfl⟩
theorem elemI : ElemOk Tryz.prog 36 3 (.int .i64 0) 1 8 :=
  ⟨Tryz.underlying36, info_parts (by kernel_rfl : (Tryz.prog.info? 3).map (fun i => (i.zero, i.size, i.bytes)) = some (some (.int .i64 0), 1, 8)), rfl, by decide, by kernel_rfl, fun _ => by kernel_rfl⟩
theorem elemII : ElemOk Tryz.prog 88 36 (.slice none 0 0) 1 24 :=
  ⟨Tryz.underlying88, info_parts (by kernel_rfl : (Tryz.prog.info? 36).map (fun i => (i.zero, i.size, i.bytes)) = some (some (.slice none 0 0), 1, 24)), rfl, by decide, by kernel_rfl, fun _ => by kernel_rfl⟩
theorem elemB : ElemOk Tryz.prog 102 4 (.bool false) 1 1 :=
  ⟨Tryz.underlying102, info_parts (by kernel_rfl : (Tryz.prog.info? 4).map (fun i => (i.zero, i.size, i.bytes)) = some (some (.bool false), 1, 1)), rfl, by decide, by kernel_rfl, fun _ => by kernel_rfl⟩
end Go.Proofs.YtlnhocgjgmhfgaaGreatDoor

namespace Go.Proofs
open Go.Shelf
def Tryz.laysNm215_ren : Go.Shelf.Ren := ⟨fun | 15 => 44 | n => n, fun | 22 => 36 | 3 => 3 | 4 => 4 | n => n, fun | n => n⟩
theorem Tryz.laysNm215 : Go.Proofs.Lays2.n15 Tryz.prog Tryz.laysNm215_ren := {
  mixed := by kernel_rfl
  f15 := Tryz.func44.trans (congrArg some (by kernel_rfl))
  t3 := Tryz.underlying3
  a3 := Tryz.isAgg3
  z3 := Tryz.sizeOf3
  v3 := Tryz.zeroValue3
  t4 := Tryz.underlying4
  a4 := Tryz.isAgg4
  z4 := Tryz.sizeOf4
  v4 := Tryz.zeroValue4
  t22 := Tryz.underlying36
  a22 := Tryz.isAgg36
  z22 := Tryz.sizeOf36
  v22 := Tryz.zeroValue36
  i3 := by kernel_rfl }
open Go.RowKit Go.Lib in
theorem Tryz.slices_Clone_int (b off n c : Nat) (zs : List Int) (w : World) (hz : n ≤ zs.length) (hbig : n * 8 ≤ 140737488355328) (hc : ∀ j, j < zs.length → w.cell? ⟨b, off + j, none⟩ = some (.int .i64 (zs.getD j 0))) :
    Calls Tryz.prog 44 #[.slice (some ⟨b, off, none⟩) n c] w fun e w' => ∃ v', e = .returned v' ∧ w'.ownsRow w.heap.size 3 1 v' n ((zs.take n).map (Value.int .i64)) ∧ v' ≠ .slice none 0 0 ∧ Below w.heap.size w w' := Any.slices_Clone_int Tryz.laysNm215 b off n c zs w hz hbig hc
open Go.RowKit Go.Lib in
theorem Tryz.slices_Clone_int_nil (n c : Nat) (w : World) :
    Calls Tryz.prog 44 #[.slice none n c] w fun e w' => e = .returned (.slice none 0 0) ∧ w' = w := Any.slices_Clone_int_nil Tryz.laysNm215 n c w
open Go.RowKit Go.Lib in
theorem Tryz.slices_Clone_int_zero (a : Addr) (c : Nat) (w : World) :
    Calls Tryz.prog 44 #[.slice (some a) 0 c] w fun e w' => ∃ v', e = .returned v' ∧ w'.ownsRow w.heap.size 3 1 v' 0 [] ∧ v' ≠ .slice none 0 0 ∧ Below w.heap.size w w' := Any.slices_Clone_int_zero Tryz.laysNm215 a c w
def Tryz.laysSlE041_f44_ren : Go.Shelf.Ren := ⟨fun | 41 => 44 | n => n, fun | 22 => 36 | 23 => 3 | 4 => 4 | n => n, fun | n => n⟩
theorem Tryz.laysSlE041_f44 : Go.Proofs.SlLaysE0.n41 Tryz.prog Tryz.laysSlE041_f44_ren := {
  mixed := by kernel_rfl
  f41 := ⟨Tryz.f44.name, by decide, Tryz.func44.trans (congrArg some (by kernel_rfl))⟩
  t4 := Tryz.underlying4
  a4 := Tryz.isAgg4
  z4 := Tryz.sizeOf4
  v4 := Tryz.zeroValue4
  t22 := Tryz.underlying36
  a22 := Tryz.isAgg36
  z22 := Tryz.sizeOf36
  v22 := Tryz.zeroValue36 }
open Go.RowKit Go.Lib in
theorem Tryz.slices_Clone (i0 : TypeInfo) (z : Value) (size bytes : Nat) (hi : Tryz.prog.info? 3 = some i0) (hz0 : i0.zero = some z) (hz1 : i0.size = size) (hz2 : i0.bytes = bytes) (hzs : z.cells.size = size) (hsz : 0 < size) (z23 : ∀ w, (Go.sizeOf 3).run Tryz.prog w = .ok size w) (b off n c : Nat) (news : List Value) (w : World) (hl : news.length = n * size) (hn : n ≤ maxLen) (hbig : n * bytes ≤ 140737488355328) (hc : ∀ j u, news[j]? = some u → w.cell? ⟨b, off + j, none⟩ = some u) (h1 : ∀ u ∈ news, u.oneCell' = true) :
    Calls Tryz.prog 44 #[.slice (some ⟨b, off, none⟩) n c] w fun e w' => ∃ v', e = .returned v' ∧ w'.ownsRow w.heap.size 3 size v' n news ∧ v' ≠ .slice none 0 0 ∧ Below w.heap.size w w' := AnyE.slices_Clone Tryz.laysSlE041_f44 i0 z size bytes hi hz0 hz1 hz2 hzs hsz z23 b off n c news w hl hn hbig hc h1
open Go.RowKit Go.Lib in
theorem Tryz.slices_Clone_nil (n c : Nat) (w : World) :
    Calls Tryz.prog 44 #[.slice none n c] w fun e w' => e = .returned (.slice none 0 0) ∧ w' = w := AnyE.slices_Clone_nil Tryz.laysSlE041_f44 n c w
def Tryz.laysSlC25_f81_ren : Go.Shelf.Ren := ⟨fun | 5 => 81 | 7 => 107 | n => n, fun | 22 => 3 | 3 => 3 | 4 => 4 | n => n, fun | n => n⟩
theorem Tryz.laysSlC25_f81 : Go.Proofs.SlLaysC2.n5 Tryz.prog Tryz.laysSlC25_f81_ren := {
  mixed := by kernel_rfl
  f5 := ⟨Tryz.f81.name, by decide, Tryz.func81.trans (congrArg some (by kernel_rfl))⟩
  f7 := ⟨Tryz.f107.name, by decide, Tryz.func107.trans (congrArg some (by kernel_rfl))⟩
  t3 := Tryz.underlying3
  a3 := Tryz.isAgg3
  z3 := Tryz.sizeOf3
  v3 := Tryz.zeroValue3
  t4 := Tryz.underlying4
  a4 := Tryz.isAgg4
  z4 := Tryz.sizeOf4
  v4 := Tryz.zeroValue4
  t22 := Tryz.underlying3
  a22 := Tryz.isAgg3
  z22 := Tryz.sizeOf3
  v22 := Tryz.zeroValue3 }
open Go.Lib in
theorem Tryz.cmp_Compare_int (x y : Int) (w : World) :
    Calls Tryz.prog 81 #[.int .i64 x, .int .i64 y] w fun e w' => e = .returned (.int .i64 (Lib.compareInt x y)) ∧ w' = w := AnyG.cmp_Compare_int Tryz.laysSlC25_f81 x y w
def Tryz.sort_Arc_ren : Go.Shelf.Ren := ⟨fun | 6 => 38 | 15 => 65 | 14 => 64 | 28 => 90 | 29 => 91 | 20 => 82 | 21 => 83 | 22 => 84 | 23 => 85 | 24 => 86 | 25 => 87 | 26 => 88 | 27 => 89 | 46 => 108 | 47 => 109 | 48 => 110 | 49 => 111 | 50 => 112 | 57 => 124 | n => n, fun | 22 => 26 | 24 => 83 | 25 => 85 | 3 => 3 | 39 => 115 | 0 => 0 | 53 => 150 | 55 => 152 | 4 => 4 | 46 => 144 | 45 => 143 | 50 => 96 | 5 => 5 | 9 => 9 | 66 => 170 | 70 => 174 | 76 => 190 | 77 => 191 | n => n, fun | n => n⟩
theorem Tryz.sort_Arc : Go.Proofs.SlLaysF0.n6 Tryz.prog Tryz.sort_Arc_ren := {
  mixed := by kernel_rfl
  f6 := ⟨Tryz.f38.name, by decide, Tryz.func38.trans (congrArg some (by kernel_rfl))⟩
  f14 := ⟨Tryz.f64.name, by decide, Tryz.func64.trans (congrArg some (by kernel_rfl))⟩
  f15 := Tryz.func65.trans (congrArg some (by kernel_rfl))
  f20 := ⟨Tryz.f82.name, by decide, Tryz.func82.trans (congrArg some (by kernel_rfl))⟩
  f21 := ⟨Tryz.f83.name, by decide, Tryz.func83.trans (congrArg some (by kernel_rfl))⟩
  f22 := ⟨Tryz.f84.name, by decide, Tryz.func84.trans (congrArg some (by kernel_rfl))⟩
  f23 := ⟨Tryz.f85.name, by decide, Tryz.func85.trans (congrArg some (by kernel_rfl))⟩
  f24 := ⟨Tryz.f86.name, by decide, Tryz.func86.trans (congrArg some (by kernel_rfl))⟩
  f25 := ⟨Tryz.f87.name, by decide, Tryz.func87.trans (congrArg some (by kernel_rfl))⟩
  f26 := ⟨Tryz.f88.name, by decide, Tryz.func88.trans (congrArg some (by kernel_rfl))⟩
  f27 := ⟨Tryz.f89.name, by decide, Tryz.func89.trans (congrArg some (by kernel_rfl))⟩
  f28 := Tryz.func90.trans (congrArg some (by kernel_rfl))
  f29 := Tryz.func91.trans (congrArg some (by kernel_rfl))
  f46 := ⟨Tryz.f108.name, by decide, Tryz.func108.trans (congrArg some (by kernel_rfl))⟩
  f47 := Tryz.func109.trans (congrArg some (by kernel_rfl))
  f48 := Tryz.func110.trans (congrArg some (by kernel_rfl))
  f49 := ⟨Tryz.f111.name, by decide, Tryz.func111.trans (congrArg some (by kernel_rfl))⟩
  f50 := ⟨Tryz.f112.name, by decide, Tryz.func112.trans (congrArg some (by kernel_rfl))⟩
  f57 := ⟨Tryz.f124.name, by decide, Tryz.func124.trans (congrArg some (by kernel_rfl))⟩
  t0 := Tryz.underlying0
  a0 := Tryz.isAgg0
  z0 := Tryz.sizeOf0
  v0 := Tryz.zeroValue0
  t3 := Tryz.underlying3
  a3 := Tryz.isAgg3
  z3 := Tryz.sizeOf3
  v3 := Tryz.zeroValue3
  t4 := Tryz.underlying4
  a4 := Tryz.isAgg4
  z4 := Tryz.sizeOf4
  v4 := Tryz.zeroValue4
  t5 := Tryz.underlying5
  a5 := Tryz.isAgg5
  z5 := Tryz.sizeOf5
  v5 := Tryz.zeroValue5
  t9 := Tryz.underlying9
  a9 := Tryz.isAgg9
  z9 := Tryz.sizeOf9
  v9 := Tryz.zeroValue9
  t22 := Tryz.underlying26
  a22 := Tryz.isAgg26
  z22 := Tryz.sizeOf26
  v22 := Tryz.zeroValue26
  t25 := Tryz.underlying85
  a25 := Tryz.isAgg85
  z25 := Tryz.sizeOf85
  v25 := Tryz.zeroValue85
  t39 := Tryz.underlying115
  a39 := Tryz.isAgg115
  z39 := Tryz.sizeOf115
  v39 := Tryz.zeroValue115
  t45 := Tryz.underlying143
  a45 := Tryz.isAgg143
  z45 := Tryz.sizeOf143
  v45 := Tryz.zeroValue143
  t46 := Tryz.underlying144
  a46 := Tryz.isAgg144
  z46 := Tryz.sizeOf144
  v46 := Tryz.zeroValue144
  t50 := Tryz.underlying96
  a50 := Tryz.isAgg96
  z50 := Tryz.sizeOf96
  v50 := Tryz.zeroValue96
  t53 := Tryz.underlying150
  a53 := Tryz.isAgg150
  z53 := Tryz.sizeOf150
  v53 := Tryz.zeroValue150
  t55 := Tryz.underlying152
  a55 := Tryz.isAgg152
  z55 := Tryz.sizeOf152
  v55 := Tryz.zeroValue152
  t66 := Tryz.underlying170
  a66 := Tryz.isAgg170
  z66 := Tryz.sizeOf170
  v66 := Tryz.zeroValue170
  t70 := Tryz.underlying174
  a70 := Tryz.isAgg174
  z70 := Tryz.sizeOf174
  v70 := Tryz.zeroValue174
  t76 := Tryz.underlying190
  a76 := Tryz.isAgg190
  z76 := Tryz.sizeOf190
  v76 := Tryz.zeroValue190
  t77 := Tryz.underlying191
  a77 := Tryz.isAgg191
  z77 := Tryz.sizeOf191
  v77 := Tryz.zeroValue191 }
end Go.Proofs

namespace Go.Proofs.YtlnhocgjgmhfgaaGreatDoor
open Go.RowKit
set_option maxRecDepth 100000

/-- The first of two ints that is not 0. -/
def orI (x y : Int) : Int := if x = 0 then y else x
theorem cmpI_cases (x y : Int) : (x < y → Lib.compareInt x y = -1) ∧ (x = y → Lib.compareInt x y = 0) ∧ (y < x → Lib.compareInt x y = 1) := by
  unfold Lib.compareInt
  refine ⟨fun h => by simp [h], fun h => by subst h; simp, fun h => by rw [if_neg (by omega), if_pos h]⟩
set_option maxHeartbeats 400000 in
theorem Or_two (W : World) (g : Nat) (x y : Int) (hk : Blk W g [.int .i64 x, .int .i64 y] 3) :
    Calls Tryz.prog 80 #[.slice (some ⟨g, 0, none⟩) 2 2] W fun e w' => e = .returned (.int .i64 (orI x y)) ∧ w' = W := by
  have c0 := hk.cell 0 _ rfl
  have c1 := hk.cell 1 _ rfl
  have hi := idx (P := Tryz.prog) 36 (a := some ⟨g, 0, none⟩) (b := g) (o := 0) (n := 2) (c := 2) elemI.und elemI.sz (fun _ => rfl)
  clear hk
  by_cases hx : x = 0
  · have H : Hid (orI x y = y) := Lib.hid (by simp [orI, hx])
    subst hx
    have e0 : ((0 : Int) != 0) = false := by decide
    by_cases hy : y = 0
    · subst hy
      go_enter Tryz.func80, Tryz.ntmps80
      go_wp2
      refine wp_loop_rounds 3 ?_
      rw [rounds_succ]
      go_wp2
      rw [rounds_succ]
      go_wp2
      rw [rounds_succ]
      go_wp2
      go_ret
      exact ⟨by rw [H.out]; rfl, rfl⟩
    · have hy2 : (y != 0) = true := by simp [hy]
      go_enter Tryz.func80, Tryz.ntmps80
      go_wp2
      refine wp_loop_rounds 2 ?_
      rw [rounds_succ]
      go_wp2
      rw [rounds_succ]
      go_wp2
      go_ret
      exact ⟨by rw [H.out]; rfl, rfl⟩
  · have H : Hid (orI x y = x) := Lib.hid (by simp [orI, hx])
    have hx2 : (x != 0) = true := by simp [hx]
    go_enter Tryz.func80, Tryz.ntmps80
    go_wp2
    refine wp_loop_rounds 1 ?_
    rw [rounds_succ]
    go_wp2
    go_ret
    exact ⟨by rw [H.out]; rfl, rfl⟩
/-- Pairs compared, the first places first. -/
def cmpP (a b c d : Int) : Int := orI (Lib.compareInt a c) (Lib.compareInt b d)
theorem cmpP_nonneg (a b c d : Int) : 0 ≤ cmpP a b c d ↔ ¬ (a < c ∨ (a = c ∧ b < d)) := by
  unfold cmpP orI
  obtain ⟨h1, h2, h3⟩ := cmpI_cases a c
  obtain ⟨g1, g2, g3⟩ := cmpI_cases b d
  rcases Int.lt_trichotomy a c with h | h | h
  · rw [h1 h]; simp; omega
  · rw [h2 h]
    rcases Int.lt_trichotomy b d with g | g | g
    · rw [g1 g]; simp; omega
    · rw [g2 g]; simp; omega
    · rw [g3 g]; simp; omega
  · rw [h3 h]; simp; omega
set_option maxHeartbeats 1000000 in
theorem pairCmp_any (w : World) (a b c d : Int) :
    Calls Tryz.prog 63 #[.agg #[.int .i64 a, .int .i64 b], .agg #[.int .i64 c, .int .i64 d]] w (Rets fun v w' => v = .int .i64 (cmpP a b c d) ∧ Below w.heap.size w w') := by
  obtain ⟨x, hx⟩ : ∃ x, Lib.compareInt a c = x := ⟨_, rfl⟩
  obtain ⟨y, hy⟩ : ∃ y, Lib.compareInt b d = y := ⟨_, rfl⟩
  have HX := Lib.hid hx; have HY := Lib.hid hy
  have H : Hid (cmpP a b c d = orI x y) := Lib.hid (by unfold cmpP; rw [hx, hy])
  have hb := ((Below.refl w.heap.size w).alloc (Nat.le_refl _) (.cells #[.int .i64 a, .int .i64 b] 110)).alloc (by simp) (.cells #[.int .i64 c, .int .i64 d] 110)
  have k1 := (Blk.new w [.int .i64 a, .int .i64 b] 110).alloc (.cells #[.int .i64 c, .int .i64 d] 110)
  have k2 := Blk.new (w.alloc (.cells #[.int .i64 a, .int .i64 b] 110)) [.int .i64 c, .int .i64 d] 110
  rw [World.size_alloc] at k2
  clear hx hy
  go_enter Tryz.func63, Tryz.ntmps63
  go_wp2_with fail
  have hd := hb.trans ((Below.refl _ _).drew)
  obtain ⟨W, hW⟩ : ∃ W, (w.alloc (.cells #[.int .i64 a, .int .i64 b] 110)).alloc (.cells #[.int .i64 c, .int .i64 d] 110) = W := ⟨_, rfl⟩
  rw [show [Value.int .i64 a, Value.int .i64 b].toArray = #[Value.int .i64 a, Value.int .i64 b] from rfl] at *
  rw [hW] at hb k1 k2 ⊢
  have HB := Lib.hid hb
  have c1 := k1.cell 0 _ rfl; have c2 := k1.cell 1 _ rfl; have c3 := k2.cell 0 _ rfl; have c4 := k2.cell 1 _ rfl
  clear hd hb k1 k2 hW
  go_region_held3 (fun w' => w'.cell? ⟨w.heap.size, 0, none⟩ = some (.int .i64 a) ∧ w'.cell? ⟨w.heap.size, 1, none⟩ = some (.int .i64 b) ∧ w'.cell? ⟨w.heap.size + 1, 0, none⟩ = some (.int .i64 c) ∧ w'.cell? ⟨w.heap.size + 1, 1, none⟩ = some (.int .i64 d)) (go_keep)
    (first
      | (go_at_call_of 81 (Value.int .i64 a); refine (Tryz.cmp_Compare_int _ _ _).mono ?_; rintro e w' ⟨rfl, rfl⟩; rw [HX.out])
      | (go_at_call_of 81 (Value.int .i64 b); refine (Tryz.cmp_Compare_int _ _ _).mono ?_; rintro e w' ⟨rfl, rfl⟩; rw [HY.out])
      | (go_at_call 80; refine (Or_two _ _ x y (show Blk (W.alloc (.cells #[.int .i64 x, .int .i64 y] 3)).drew W.heap.size [.int .i64 x, .int .i64 y] 3 from Blk.new W [.int .i64 x, .int .i64 y] 3)).mono ?_; rintro e w' ⟨rfl, rfl⟩))
  all_goals
    go_wp2
    go_ret
    exact ⟨_, rfl, by rw [H.out]; rfl, (HB.out.alloc HB.out.size _).trans (Below.refl _ _).drew⟩
set_option maxHeartbeats 1000000 in
theorem arrCmp_any (w : World) (a b c d : Int) :
    Calls Tryz.prog 69 #[.agg #[.int .i64 a, .int .i64 b], .agg #[.int .i64 c, .int .i64 d]] w (Rets fun v w' => v = .int .i64 (cmpP a b c d) ∧ Below w.heap.size w w') := by
  obtain ⟨x, hx⟩ : ∃ x, Lib.compareInt a c = x := ⟨_, rfl⟩
  obtain ⟨y, hy⟩ : ∃ y, Lib.compareInt b d = y := ⟨_, rfl⟩
  have HX := Lib.hid hx; have HY := Lib.hid hy
  have H : Hid (cmpP a b c d = orI x y) := Lib.hid (by unfold cmpP; rw [hx, hy])
  have hb := ((Below.refl w.heap.size w).alloc (Nat.le_refl _) (.cells #[.int .i64 a, .int .i64 b] 60)).alloc (by simp) (.cells #[.int .i64 c, .int .i64 d] 60)
  have k1 := (Blk.new w [.int .i64 a, .int .i64 b] 60).alloc (.cells #[.int .i64 c, .int .i64 d] 60)
  have k2 := Blk.new (w.alloc (.cells #[.int .i64 a, .int .i64 b] 60)) [.int .i64 c, .int .i64 d] 60
  rw [World.size_alloc] at k2
  clear hx hy
  go_enter Tryz.func69, Tryz.ntmps69
  go_wp2_with fail
  have hd := hb.trans ((Below.refl _ _).drew)
  obtain ⟨W, hW⟩ : ∃ W, (w.alloc (.cells #[.int .i64 a, .int .i64 b] 60)).alloc (.cells #[.int .i64 c, .int .i64 d] 60) = W := ⟨_, rfl⟩
  rw [show [Value.int .i64 a, Value.int .i64 b].toArray = #[Value.int .i64 a, Value.int .i64 b] from rfl] at *
  rw [hW] at hb k1 k2 ⊢
  have HB := Lib.hid hb
  have c1 := k1.cell 0 _ rfl; have c2 := k1.cell 1 _ rfl; have c3 := k2.cell 0 _ rfl; have c4 := k2.cell 1 _ rfl
  clear hd hb k1 k2 hW
  go_region_held3 (fun w' => w'.cell? ⟨w.heap.size, 0, none⟩ = some (.int .i64 a) ∧ w'.cell? ⟨w.heap.size, 1, none⟩ = some (.int .i64 b) ∧ w'.cell? ⟨w.heap.size + 1, 0, none⟩ = some (.int .i64 c) ∧ w'.cell? ⟨w.heap.size + 1, 1, none⟩ = some (.int .i64 d)) (go_keep)
    (first
      | (go_at_call_of 81 (Value.int .i64 a); refine (Tryz.cmp_Compare_int _ _ _).mono ?_; rintro e w' ⟨rfl, rfl⟩; rw [HX.out])
      | (go_at_call_of 81 (Value.int .i64 b); refine (Tryz.cmp_Compare_int _ _ _).mono ?_; rintro e w' ⟨rfl, rfl⟩; rw [HY.out])
      | (go_at_call 80; refine (Or_two _ _ x y (show Blk (W.alloc (.cells #[.int .i64 x, .int .i64 y] 3)).drew W.heap.size [.int .i64 x, .int .i64 y] 3 from Blk.new W [.int .i64 x, .int .i64 y] 3)).mono ?_; rintro e w' ⟨rfl, rfl⟩))
  all_goals
    go_wp2
    go_ret
    exact ⟨_, rfl, by rw [H.out]; rfl, (HB.out.alloc HB.out.size _).trans (Below.refl _ _).drew⟩
end Go.Proofs.YtlnhocgjgmhfgaaGreatDoor
