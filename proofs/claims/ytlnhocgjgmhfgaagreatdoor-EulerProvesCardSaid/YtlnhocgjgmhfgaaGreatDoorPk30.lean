/- The walks of slices.Clone, DeleteFunc and Equal over texts, and of abelian's Of. The walk of slices.AppendSeq over an iterator whose values lie in memory. The walks of matrix's closures and of checks. The walks of matrix's Make, Unit, Get, Add, Product, Transpose and Minor. Plain law: the rank of a matrix is unique; that of the transposed matrix is the same, that of a product is at most that of each factor. The walks of matrix's rows and eliminate. A region inside a round of a range over a function, by the plain calculus of regions that draw their order. -/
import Derived.Test.YtlnhocgjgmhfgaaGreatDoorPk29
import Derived.Laws.AppendOwnNone
import Derived.Lib.SliceRun
import Derived.Sort.QuietIn
import Derived.Sort.LoopGhostIn
import Derived.Test.YtlnhocgjgmhfgaaGreatDoorPk27
import Derived.Test.YtlnhocgjgmhfgaaGreatDoorPk28
import Derived.Test.YtlnhocgjgmhfgaaGreatDoorPk26
import Derived.Test.YtlnhocgjgmhfgaaGreatDoorPk25
import Derived.Laws.EntriesVeiled
import Derived.OrdersIn
namespace Go.Proofs.YtlnhocgjgmhfgaaGreatDoor
open Go.RowKit
set_option maxRecDepth 100000

section
variable {P : Program} {t e : TypeId} {z : Value} {bytes : Nat} {ops : Array Oper} {rest : List Oper} {o : Oper} {a : Act} {Q : Exit → Act → World → Prop}
/-- 'append([]T{}, xs...)', xs not nil. -/
theorem appC {α : Type} {enc : α → Value} (hE : ElemOk P t e z 1 bytes) (hgd : o.guard = none) (s x : Operand) (ho : o.op = .call { callee := .builtin .append, args := #[s, x], argTypes := #[t, t] })
    {xs : List α} {B : Nat} {w0 w1 W : World} {v : Value} {ad : Addr} {c : Nat} (hown : w1.ownsRow w0.heap.size e 1 v 0 []) (hb1 : Below B W w1) (hs0 : w0.heap.size ≤ w1.heap.size) (hBw : B ≤ w0.heap.size) (hs : a.eval s = v) (hx : a.eval x = .slice (some ad) xs.length c) (hv : Sl enc w1 (.slice (some ad) xs.length c) xs)
    (h2 : ∀ y, (enc y).oneCell' = true) (hn : xs.length * bytes ≤ 140737488355328) (hn' : xs.length ≤ maxLen)
    (h : ∀ v' w', w'.ownsRow w0.heap.size e 1 v' xs.length (xs.map enc) → Below B W w' → wpList P ops Q rest (a.put o.dst v') w') :
    wpList P ops Q (o :: rest) a w1 := by
  obtain ⟨i, hi, hz, hsz, hby⟩ := hE.info
  obtain ⟨ad', b, off, c', he, ha, hc, hm, hnn, hcell⟩ := hv
  cases he
  have hnews : ∀ j y, (xs.map enc)[j]? = some y → w1.cell? (ad.add j) = some y := by
    intro j y hj
    have hj' : j < xs.length := by have := (List.getElem?_eq_some_iff.1 hj).1; simpa using this
    have := ha (by omega)
    cases this
    have h3 := hcell.2 j hj'
    simp [hj'] at hj
    rw [show (⟨b, off, none⟩ : Addr).add j = ⟨b, off + j, none⟩ by simp [Addr.add], h3, hj]
  refine wpList_append_own _ hgd s x t ho w0.heap.size e i z 1 bytes hE.und hi hz hsz hby hE.cells hE.pos _ 0 [] hs hown ad xs.length c (xs.map enc) hx (by simp) hnews (by intro y hy; obtain ⟨y', _, rfl⟩ := List.mem_map.1 hy; exact h2 y') (by rw [Nat.zero_add]; exact hn') (by rw [Nat.zero_add]; exact hn) hs0 ?_
  intro v' w' ho' hg _
  rw [Nat.zero_add, List.nil_append] at ho'
  exact h v' w' ho' (hb1.grown hg (by omega) (fun j hj => by have := (hown.lt j hj).1; omega))
end

theorem nil_no (a : Addr) (n c : Nat) (w : World) : (binOp BinOp.eql 126 (.slice (some a) n c) (.slice none 0 0)).run Tryz.prog w = .ok (.bool false) w := by kernel_rfl
theorem nil_yes (w : World) : (binOp BinOp.eql 126 (.slice none 0 0) (.slice none 0 0)).run Tryz.prog w = .ok (.bool true) w := by kernel_rfl
set_option maxHeartbeats 1000000 in
theorem clone_any (w : World) (v : Value) (xs : List ByteArray) (hv : Sl eS w v xs) (hl : xs.length ≤ 1000000) :
    Calls Tryz.prog 127 #[v] w (Rets fun v' w' => w'.ownsRow w.heap.size 74 1 v' xs.length (xs.map eS) ∧ Below w.heap.size w w') := by
  have HV := Lib.hid hv
  have hn1 := nil_no
  have hn2 := nil_yes
  obtain ⟨a, b, o, c, rfl, ha, hc, hm, hn0, hp⟩ := hv
  cases a with
  | none =>
    have hc0 := hn0 rfl
    have hl0 : xs.length = 0 := by omega
    obtain rfl : xs = [] := List.length_eq_zero_iff.1 hl0
    subst hc0
    clear HV ha hp hn0
    go_enter Tryz.func127, Tryz.ntmps127
    go_wp2
    go_ret
    exact ⟨_, rfl, World.ownsRow_nil _ _ _ _, Below.refl _ _⟩
  | some a =>
    clear ha hp hn0
    have HO : Hid ((w.alloc (.cells #[] 74)).ownsRow w.heap.size 74 1 (.slice (some ⟨w.heap.size, 0, none⟩) 0 0) 0 []) := Lib.hid ⟨rfl, .inr ⟨w.heap.size, 0, #[], rfl, by omega, heap_alloc_new w _, by omega, by simp [maxLen], rfl, rfl⟩⟩
    have HB0 := Lib.hid ((Below.refl w.heap.size w).alloc (Nat.le_refl _) (.cells #[] 74))
    go_enter Tryz.func127, Tryz.ntmps127
    go_wp2_with (at_builtin; refine appC elemStr rfl _ _ rfl (w0 := w) HO.out HB0.out (by simp) (Nat.le_refl _) rfl rfl (HV.out.below HB0.out (Nat.le_refl _)) (fun y => by simp [eS, Value.oneCell']) (by omega) (by unfold maxLen; omega) ?_; intro v' w2 hown' hb'; have HO2 := Lib.hid hown'; clear hown')
    go_ret
    exact ⟨_, rfl, HO2.out, hb'⟩

theorem size_sc (b : Nat) : ∀ (vs : List Value) (o : Nat) (w : World), (w.setCells b o vs).heap.size = w.heap.size
  | [], _, _ => rfl
  | _ :: r, o, _ => by rw [World.setCells, size_sc b r]; simp
theorem below_sc {B b : Nat} {a : World} (hb : B ≤ b) : ∀ (vs : List Value) (o : Nat) (w : World), Below B a w → Below B a (w.setCells b o vs)
  | [], _, _, h => h
  | v :: r, o, _, h => below_sc hb r (o + 1) _ (h.setCell hb v)
theorem take_filter (p : ByteArray → Bool) (xs : List ByteArray) (j : Nat) (h : j < xs.length) : (xs.take (j + 1)).filter p = (xs.take j).filter p ++ (if p xs[j] then [xs[j]] else []) := by
  rw [List.take_succ_eq_append_getElem h, List.filter_append]
  congr 1
  by_cases hp : p xs[j] <;> simp [hp]
end Go.Proofs.YtlnhocgjgmhfgaaGreatDoor

namespace Go.Proofs.YtlnhocgjgmhfgaaGreatDoor
open Go.RowKit Go.Shelf
set_option maxRecDepth 100000

attribute [local go_sem] Oper.semAt_some

/-- All below B stands, and so do all blocks of texts. -/
def KpR (B : Nat) (W W' : World) : Prop := Below B W W' ∧ ∀ (b : Nat) (cs : Array Value) (m : Nat × Nat), W.heap[b]? = some (Obj.cells cs 74 m) → W'.heap[b]? = some (Obj.cells cs 74 m)
theorem KpR.tr {B : Nat} {X Y Z : World} (h : KpR B X Y) (h' : KpR B Y Z) : KpR B X Z := ⟨h.1.trans h'.1, fun b cs m e => h'.2 b cs m (h.2 b cs m e)⟩
theorem KpR.put {B : Nat} (W : World) (l : Nat) (o o' : Obj) (hB : B ≤ l) (ho : W.heap[l]? = some o) (hc : o.isCells = false) : KpR B W (W.putObj l o') := by
  refine ⟨(Below.refl B W).grown (grownBy_putObj' W l o') (by have := (Array.getElem?_eq_some_iff.1 ho).1; omega) (fun k e => by cases e; omega), fun b cs m e => ?_⟩
  have hne : b ≠ l := fun e2 => by subst e2; rw [ho] at e; cases e; exact absurd hc (by simp [Obj.isCells])
  exact (World.putObj_heap_other hne).trans e
theorem KpR.below {B K : Nat} {W W' : World} (h : Below K W W') (hB : W.heap.size ≤ K) (hBK : B ≤ K) : KpR B W W' := ⟨h.mono hBK, fun b _ _ e => (h.block b (Nat.lt_of_lt_of_le (Array.getElem?_eq_some_iff.1 e).1 hB)).trans e⟩
theorem KpR.own {B : Nat} {W W' : World} (h : KpR B W W') {b n : Nat} {v : Value} {ys : List Value} (ho : W.ownsRow b 74 1 v n ys) : W'.ownsRow b 74 1 v n ys :=
  ⟨ho.1, ho.2.imp_right fun ⟨g, cap, cur, h1, h2, h3, r⟩ => ⟨g, cap, cur, h1, h2, h.2 _ _ _ h3, r⟩⟩
theorem own_low {w : World} {b b' e s n : Nat} {v : Value} {ys : List Value} (h : w.ownsRow b e s v n ys) (hb : b' ≤ b) : w.ownsRow b' e s v n ys :=
  ⟨h.1, h.2.imp_right fun ⟨g, cap, cur, h1, h2, r⟩ => ⟨g, cap, cur, h1, Nat.le_trans hb h2, r⟩⟩
/-- Blocks of texts stand behind 'rows = append(rows, row)'. -/
theorem texts_appended {W w1 : World} {B n₀ k : Nat} {v v' : Value} {xs : List Value} {tmp : Obj} (hv : Boxed w1 B 161 v) (hrow : W.ownsRow n₀ 126 1 v k xs) (hgrow : (W.alloc tmp).grownBy w1 v.ownBlock) :
    ∀ (b : Nat) (cs : Array Value) (q : Nat × Nat), W.heap[b]? = some (Obj.cells cs 74 q) → (w1.setCell ⟨B, 0, none⟩ v').heap[b]? = some (Obj.cells cs 74 q) := by
  intro b cs m e
  have hlt : b < W.heap.size := (Array.getElem?_eq_some_iff.1 e).1
  have e1 : (W.alloc tmp).heap[b]? = some (Obj.cells cs 74 m) := (Below.heap_alloc _ _ _ hlt).trans e
  have hne : some b ≠ v.ownBlock := by
    rcases hrow.2 with ⟨rfl, _⟩ | ⟨g, cap, cur, rfl, _, hgb, _⟩
    · simp [Value.ownBlock]
    · intro e2
      obtain rfl : b = g := by simpa [Value.ownBlock] using e2
      rw [e] at hgb; cases hgb
  have e2 : w1.heap[b]? = some (Obj.cells cs 74 m) := (hgrow.block b (by simp; omega) hne).trans e1
  refine (Below.heap_setCell _ _ _ _ (show b ≠ B from fun e3 => ?_)).trans e2
  subst e3
  rw [show w1.heap[b]? = _ from hv] at e2
  cases e2

set_option maxHeartbeats 2000000 in
theorem appendSeq_in {α : Type} (va : α → Option Addr) (vn vc : α → Nat) {Gd : Nat → α → World → Prop} {S : List α → World → Prop} {N : Nat} (hN : N ≤ 1000000) (w : World) (lb : Array Value)
    (hseq : ∀ n, 1 ≤ n → SeqG Fence.wide n Tryz.prog 126 lb (fun x => #[.slice (va x) (vn x) (vc x)]) (KpR w.heap.size) Gd S N w)
    (hGs : ∀ s x (W : World), Gd s x W → s ≤ W.heap.size) (hGb : ∀ s x (W : World) (l : Nat) (o o' : Obj), Gd s x W → W.heap[l]? = some o → o.isCells = false → Gd s x (W.putObj l o'))
    (hSb : ∀ xs (W : World) (l : Nat) (o o' : Obj), S xs W → W.heap[l]? = some o → o.isCells = false → S xs (W.putObj l o')) :
    CallsIn Fence.wide 4 Tryz.prog 125 #[.slice none 0 0, .func (.func 126) #[] lb] w (Rets fun v w' => ∃ xs : List α, S xs w' ∧ w'.ownsRow w.heap.size 126 1 v xs.length (xs.map fun x => .slice (va x) (vn x) (vc x)) ∧ Below w.heap.size w w') := by
  have HSQ := Lib.hid hseq; have HGB := Lib.hid hGb; have HSB := Lib.hid hSb; have HGS := Lib.hid hGs
  clear hseq hGb hSb hGs
  refine callsIn_of_wp_marks Tryz.func125 rfl trivial ?_ rfl
  simp only [Tryz.ntmps125, List.size_toArray, List.length_cons, List.length_nil, Nat.reduceAdd, Nat.reduceSub, Array.replicate_succ, Array.replicate_zero, List.push_toArray, List.append_toArray, List.nil_append, List.cons_append]
  gi_wp2
  obtain ⟨i0, hi, hz0, hz1, hz2⟩ := info_parts (by kernel_rfl : (Tryz.prog.info? 126).map (fun i => (i.zero, i.size, i.bytes)) = some (some (.slice none 0 0), 1, 24))
  have bL := Boxed.new w 161 (.slice none 0 0)
  have hB0 : Below w.heap.size w (w.alloc (.cells #[.slice none 0 0] 161)) := (Below.refl _ _).alloc (Nat.le_refl _) _
  have hB1 : w.heap.size ≤ (w.alloc (.cells #[.slice none 0 0] 161)).heap.size := by simp
  refine wpIn_rangeG rfl (by omega) (gf := 126) (lb := lb) rfl trivial (enters_of Tryz.func126 (by kernel_rfl) rfl)
    (encs := fun x => #[.slice (va x) (vn x) (vc x)]) (HSQ.out _ (by omega)) KpR.tr (fun W l o o' hl ho hc => KpR.put W l o o' (by have := hl; simp at this; omega) ho hc) HGB.out HSB.out hB0 (fun _ => rfl)
    (fun pre W => (∃ v, Boxed W w.heap.size 161 v ∧ W.ownsRow (w.heap.size + 4) 126 1 v pre.length (pre.map fun x => .slice (va x) (vn x) (vc x)) ∧ True) ∧ Below w.heap.size w W)
    (OwnFrom.and (Own.from (holdsRow_own (w.heap.size + 4) w.heap.size 161 126 1 (fun pre : List α => pre.length) (fun pre => pre.map fun x => .slice (va x) (vn x) (vc x)) (fun _ _ => True)) _) (ownFrom_below (Nat.le_refl _) hB1))
    (fun pre W1 j u hI => by
      obtain ⟨⟨v, hv, hrow, -⟩, hB⟩ := hI
      refine ⟨⟨v, (Below.heap_setCell _ _ _ _ (by simp; omega)).trans hv, own_off hrow (by simp), trivial⟩, hB.setCell (by simp; omega) _⟩)
    ⟨⟨_, bL, World.ownsRow_nil _ _ _ _, trivial⟩, hB0⟩
    (fun x => { tmps := #[.slice none 0 0, .func (.func 126) #[] lb, .pointer (some ⟨w.heap.size, 0, none⟩), undef, .slice none 0 0, .slice (va x) (vn x) (vc x), .func (.func 126) #[] lb, .slice (va x) (vn x) (vc x), undef, undef, undef, undef, undef], defers := [] }) ?assign ?body ?done
  case assign =>
    intro l x W K hK
    gi_wp2
    exact hK
  case body =>
    rintro l pre x W ⟨⟨v, hv, hrow, -⟩, hB⟩ hgd hlt
    have hs := HGS.out _ _ _ hgd
    have hc := hv.cell
    have hBs : w.heap.size + 3 ≤ W.heap.size := by have := hs; simp at this; omega
    gi_wp2_with (gi_at_builtin; go_loud (refine wpListIn_append_own _ rfl _ _ 161 rfl (w.heap.size + 4) 126 i0 (.slice none 0 0) 1 24 Tryz.underlying161 hi hz0 hz1 hz2 rfl (by decide) _ _ _ rfl (hrow.alloc _) ⟨W.heap.size, 0, none⟩ 1 1 [.slice (va x) (vn x) (vc x)] rfl rfl (cell_one_new _ _ _) (by simp [Value.oneCell']) (by unfold maxLen; omega) (by omega) (by first | (simp; done) | (simp; omega)) ?_; intro v' w1 hown' hgrow _; obtain ⟨g', cap', rfl⟩ := ownsRow_succ hown'; obtain ⟨hv1, hv2, -, hk2, hb2⟩ := hv.appended (by decide) (own_low hrow (by omega)) (by omega) (Nat.le_refl _) (own_low hown' (by omega)) hgrow; have hr2 := hown'.kept (grownBy_setCell' w1 w.heap.size (.slice (some ⟨g', 0, none⟩) (pre.length + 1) cap')) (.inr (hv1.not_row (by decide) hown').symm); have hc1 := hv1.cell; have hf1 := hv1.frozen))
    exact ⟨hk2, ⟨hb2, texts_appended hv1 hrow hgrow⟩, ⟨_, hv2, by simpa using hr2, trivial⟩, hB.trans hb2⟩
  case done =>
    rintro D xs W hD hS ⟨⟨v, hv, hrow, -⟩, hB⟩ hK
    have hc := hv.cell
    have hDg : w.heap.size + 1 ≤ D := by simpa using hD
    gi_wp2
    refine ⟨by simp, .inl ⟨_, _, rfl, run_takeDeferred hK, ?_⟩⟩
    exact ⟨v, by simp [results, Tryz.results125, go_sem], _, rfl, xs, HSB.out _ _ _ _ _ hS hK rfl, ownsRow_putObj (own_low hrow (by omega)) _ hK rfl, hB.trans (belowK_b (w := w) (Nat.le_refl _) W D _ _ (by omega) hK rfl rfl)⟩
end Go.Proofs.YtlnhocgjgmhfgaaGreatDoor

namespace Go.Proofs.YtlnhocgjgmhfgaaGreatDoor
open Go.RowKit
set_option maxRecDepth 100000

/-- A list of texts stands where a block without texts is written. -/
theorem Sl.off {w : World} {g : Nat} {cs : List Value} {T : TypeId} {v : Value} {xs : List ByteArray} (h : Sl eS w v xs) (hk : Blk w g cs T) (hc : ∀ (j : Nat) (s : ByteArray), cs[j]? ≠ some (.string s)) (j : Nat) (u : Value) : Sl eS (w.setCell ⟨g, j, none⟩ u) v xs := by
  obtain ⟨a, b, o, c, rfl, ha, hcc, hm, hn, hx⟩ := h
  refine ⟨a, b, o, c, rfl, ha, hcc, hm, hn, fun h0 => by simpa using hx.1 h0, fun i hi => ?_⟩
  have h1 := hx.2 i hi
  have hne : b ≠ g := fun e => by
    subst e
    have hb : w.heap[b]? = _ := hk
    have : (cs.toArray)[o + i]? = some (.string xs[i]) := by
      have h2 := h1
      simp only [World.cell?, hb] at h2
      simpa [eS] using h2
    exact hc _ _ (by simpa using this)
  exact (World.cell?_of_block (Below.heap_setCell _ _ _ _ hne)).trans h1
/-- The result's cell takes a matrix. -/
theorem res_done {w wr : World} {g : Nat} {R C : Int} {u : Value} {os : List ByteArray} (hB : Below w.heap.size w wr) (hg : w.heap.size ≤ g) (hr : Blk wr g [.int .i64 0, .int .i64 0, .slice none 0 0] 128) (hs : Sl eS wr u os) :
    Blk (((wr.setCell ⟨g, 0, none⟩ (.int .i64 R)).setCell ⟨g, 1, none⟩ (.int .i64 C)).setCell ⟨g, 2, none⟩ u) g [.int .i64 R, .int .i64 C, u] 128 ∧
    Sl eS (((wr.setCell ⟨g, 0, none⟩ (.int .i64 R)).setCell ⟨g, 1, none⟩ (.int .i64 C)).setCell ⟨g, 2, none⟩ u) u os ∧
    Below w.heap.size w (((wr.setCell ⟨g, 0, none⟩ (.int .i64 R)).setCell ⟨g, 1, none⟩ (.int .i64 C)).setCell ⟨g, 2, none⟩ u) := by
  have no : ∀ (a b : Int) (sl : Value), (∀ s, sl ≠ .string s) → ∀ (j : Nat) (s : ByteArray), [Value.int .i64 a, .int .i64 b, sl][j]? ≠ some (.string s) := by
    intro a b sl hsl j s
    match j with
    | 0 => simp
    | 1 => simp
    | 2 => simp [hsl s]
    | j + 3 => simp
  have r1 := hr.set 0 (.int .i64 R)
  have r2 := r1.set 1 (.int .i64 C)
  refine ⟨by simpa using r2.set 2 u, ?_, ((hB.setCell hg _).setCell hg _).setCell hg _⟩
  exact ((hs.off hr (no 0 0 _ (by simp)) 0 _).off r1 (no R 0 _ (by simp)) 1 _).off r2 (no R C _ (by simp)) 2 _
theorem sl_form {α : Type} {enc : α → Value} {w : World} {v : Value} {xs : List α} (h : Sl enc w v xs) : ∃ a c, v = .slice a xs.length c := by
  obtain ⟨a, b, o, c, rfl, -⟩ := h; exact ⟨a, c, rfl⟩
theorem Up.start (w : World) : Up w.heap.size w w := ⟨Nat.le_refl _, Below.refl _ _⟩
theorem Up.bel {h : Nat} {W w : World} (H : Up h W w) : Below h W w := H.2
/-- Three cells of two blocks. -/
theorem held_two {h g1 g2 : Nat} {W : World} {a b c d e f : Value} {T T' : TypeId} (h1 : Blk W g1 [a, b, c] T) (h2 : Blk W g2 [d, e, f] T') (hg1 : g1 < h) (hg2 : g2 < h) : ∀ w', Up h W w' → Up h W w' ∧ (w'.cell? ⟨g1, 0, none⟩ = some a ∧ w'.cell? ⟨g1, 1, none⟩ = some b ∧ w'.cell? ⟨g1, 2, none⟩ = some c) ∧ w'.cell? ⟨g2, 0, none⟩ = some d ∧ w'.cell? ⟨g2, 1, none⟩ = some e ∧ w'.cell? ⟨g2, 2, none⟩ = some f :=
  fun _ H => ⟨H, ⟨(H.box h1 hg1).cell 0 _ rfl, (H.box h1 hg1).cell 1 _ rfl, (H.box h1 hg1).cell 2 _ rfl⟩, (H.box h2 hg2).cell 0 _ rfl, (H.box h2 hg2).cell 1 _ rfl, (H.box h2 hg2).cell 2 _ rfl⟩

set_option maxHeartbeats 1000000 in
theorem Make1_any (w : World) (gL gC : Nat) (v : Value) (ls : List Int) (c i k : Nat) (z : Int) (hL : Blk w gL [v] 36) (hC : Blk w gC [.int .i64 (c : Nat)] 3) (hv : Sl eZ w v ls) (_hl : ls.length ≤ 256) (hz : ls[i * c + k]? = some z) (h0 : -9223372036854775808 ≤ z) (h1 : z ≤ 9223372036854775807) (he : Env w) :
    Calls Tryz.prog 97 #[.int .i64 i, .int .i64 k, .pointer (some ⟨gL, 0, none⟩), .pointer (some ⟨gC, 0, none⟩)] w (Rets fun v w' => v = .tuple #[.string (txt z), .int .i64 0] ∧ Below w.heap.size w w') := by
  have HE := Lib.hid he; have H0 := Lib.hid h0; have H1 := Lib.hid h1
  obtain ⟨ad, b, o, cap, rfl, hx, hp, hcc, hm⟩ := hv.open elemInt
  unfold maxLen at hm
  obtain ⟨h, hs⟩ := List.getElem?_eq_some_iff.1 hz
  have h1 : w.cell? ⟨b, o + (i * c + k), none⟩ = some (eZ ls[i * c + k]) := hp.2 _ h
  obtain ⟨j, hj⟩ : ∃ j : Nat, i * c + k = j := ⟨_, rfl⟩
  obtain ⟨m, hmm⟩ : ∃ m : Nat, i * c = m := ⟨_, rfl⟩
  have hmi : (i : Int) * (c : Int) = (m : Int) := by rw [← Int.natCast_mul, hmm]
  simp only [hj] at h1 h hs
  have hji : (m : Int) + (k : Int) = (j : Int) := by omega
  rw [hs] at h1
  unfold eZ at h1
  have c0 := hL.cell 0 _ rfl; have c1 := hC.cell 0 _ rfl
  clear hv hj hmm hs hz h0 he hL hC
  go_enter Tryz.func97, Tryz.ntmps97
  go_wp2_with (go_at_call 61; (with_reducible refine (Of_any _ z H0.out H1.out HE.out).mono ?_); rintro e w1 ⟨v, rfl, rfl, hb1⟩)
  go_ret2
  exact ⟨_, rfl, rfl, hb1⟩
theorem goodsT : ∀ zs : List Int, (∀ z ∈ zs, big z = false) → Goods (zs.map txt) zs ∧ chks (zs.map txt) = 0
  | [], _ => ⟨trivial, rfl⟩
  | z :: l, h => by
    obtain ⟨h1, h2⟩ := goodsT l fun x hx => h x (List.mem_cons_of_mem _ hx)
    have hg : Good (txt z) z := .of (h z (by simp))
    exact ⟨⟨hg, h1⟩, by rw [List.map_cons, chks, if_pos hg.chk, h2]⟩
/-- The terms of an entry of a product. -/
def terms (A B : Mat) (i k q : Nat) : List Int := (List.range q).map fun j => A i j * B j k
theorem terms_len (A B : Mat) (i k q : Nat) : (terms A B i k q).length = q := by simp [terms]
theorem terms_succ (A B : Mat) (i k q : Nat) : terms A B i k (q + 1) = terms A B i k q ++ [A i q * B q k] := by simp [terms, List.range_succ]
theorem terms_sum (A B : Mat) (i k : Nat) : ∀ n, (terms A B i k n).sum = mulM n A B i k
  | 0 => rfl
  | n + 1 => by rw [terms_succ, List.sum_append, terms_sum A B i k n]; simp [mulM, sm]
/-- A matrix, the function that leaves out a number, a row and a column. -/
theorem held_min {h g1 g2 g3 g4 : Nat} {W : World} {a b c d e f : Value} {T T1 T2 T3 : TypeId} (h1 : Blk W g1 [a, b, c] T) (h2 : Blk W g2 [d] T1) (h3 : Blk W g3 [e] T2) (h4 : Blk W g4 [f] T3) (hg1 : g1 < h) (hg2 : g2 < h) (hg3 : g3 < h) (hg4 : g4 < h) :
    ∀ w', Up h W w' → Up h W w' ∧ (w'.cell? ⟨g1, 0, none⟩ = some a ∧ w'.cell? ⟨g1, 1, none⟩ = some b ∧ w'.cell? ⟨g1, 2, none⟩ = some c) ∧ w'.cell? ⟨g2, 0, none⟩ = some d ∧ w'.cell? ⟨g3, 0, none⟩ = some e ∧ w'.cell? ⟨g4, 0, none⟩ = some f :=
  fun _ H => ⟨H, ⟨(H.box h1 hg1).cell 0 _ rfl, (H.box h1 hg1).cell 1 _ rfl, (H.box h1 hg1).cell 2 _ rfl⟩, (H.box h2 hg2).cell 0 _ rfl, (H.box h3 hg3).cell 0 _ rfl, (H.box h4 hg4).cell 0 _ rfl⟩
/-- The first error of two matrices. -/
def twoM (R C : Int) (xs : List ByteArray) (R' C' : Int) (ys : List ByteArray) : Int := if mchkM R C xs = 0 then mchkM R' C' ys else mchkM R C xs
end Go.Proofs.YtlnhocgjgmhfgaaGreatDoor

namespace Go.Proofs.YtlnhocgjgmhfgaaGreatDoor
open Go.RowKit
set_option maxRecDepth 100000

theorem filledA_make (w : World) (r c : Nat) (q0 q1 : Value) (A : Mat) (hr : r ≤ 16) (hc : c ≤ 16)
    (hF : ∀ i k w', i < r → k < c → Below w.heap.size w w' → Calls Tryz.prog 97 #[.int .i64 i, .int .i64 k, q0, q1] w' (Rets fun v w'' => v = .tuple #[.string (txt (A i k)), .int .i64 0] ∧ Below w'.heap.size w' w'')) :
    Calls Tryz.prog 96 #[.int .i64 r, .int .i64 c, .func (.func 97) #[] #[q0, q1]] w (Rets fun v' w' => ∃ u, v' = .tuple #[.agg #[.int .i64 r, .int .i64 c, u], .int .i64 0] ∧ Sl eS w' u (cellsF r c A) ∧ Below w.heap.size w w') :=
  filled_make w r c q0 q1 _ (cellsF_len _ _ _) hr hc fun i k h w' hi hk hb => by rw [cellsF_get A hk h]; exact hF i k w' hi hk hb
/-- A matrix or an error. -/
structure MR where
  R : Int
  C : Int
  xs : List ByteArray
  k : Int
def MR.bad (k : Int) : MR := ⟨0, 0, [], k⟩
def RetM (w : World) (R C : Int) (xs : List ByteArray) (k : Int) : Ending → World → Prop := Rets fun v w' => ∃ u, v = .tuple #[.agg #[.int .i64 R, .int .i64 C, u], .int .i64 k] ∧ Sl eS w' u xs ∧ Below w.heap.size w w'
def RetMR (w : World) (m : MR) : Ending → World → Prop := RetM w m.R m.C m.xs m.k
theorem Sl.nil' {α : Type} (enc : α → Value) (w : World) : Sl enc w (.slice none 0 0) [] := Sl.ofOwns (base := 0) (e := 0) (World.ownsRow_nil _ _ _ _)
theorem Blk.at1 (w : World) (o : Obj) (cs : List Value) (T : TypeId) : Blk ((w.alloc o).alloc (.cells cs.toArray T)) (w.heap.size + 1) cs T := by
  have := Blk.new (w.alloc o) cs T; rwa [World.size_alloc] at this
theorem Blk.at2 (w : World) (o o' : Obj) (cs : List Value) (T : TypeId) : Blk (((w.alloc o).alloc o').alloc (.cells cs.toArray T)) (w.heap.size + 1 + 1) cs T := by
  have := Blk.at1 (w.alloc o) o' cs T; rwa [World.size_alloc] at this
theorem Blk.at3 (w : World) (o o' o'' : Obj) (cs : List Value) (T : TypeId) : Blk ((((w.alloc o).alloc o').alloc o'').alloc (.cells cs.toArray T)) (w.heap.size + 1 + 1 + 1) cs T := by
  have := Blk.at2 (w.alloc o) o' o'' cs T; rwa [World.size_alloc] at this

/-- What Transpose answers. -/
def trS (R C : Int) (xs : List ByteArray) : MR := if mchkM R C xs = 0 then ⟨C, R, cellsF C.toNat R.toNat (tr (matF C.toNat xs)), 0⟩ else .bad (mchkM R C xs)
theorem RM.get {R C : Int} {xs : List ByteArray} {r c i k : Nat} (h : RM R C xs r c) (hi : i < r) (hk : k < c) : xs[i * c + k]? = some (txt (matF c xs i k)) := by
  have hp := h.place hi hk
  rw [List.getElem?_eq_getElem hp, (h.good hi hk).eq]
/-- What Unit answers. -/
def unitS (n : Int) : MR := if sideB n = true then ⟨n, n, cellsF n.toNat n.toNat one, 0⟩ else .bad 2
/-- What Get answers. -/
def getS (R C : Int) (xs : List ByteArray) (i k : Int) : ByteArray × Int := if MthereS R C xs i k = 0 then (txt (matF C.toNat xs i.toNat k.toNat), 0) else (⟨#[]⟩, MthereS R C xs i k)
theorem there_of {R C : Int} {xs : List ByteArray} {i k : Int} (h : MthereS R C xs i k = 0) : ∃ r c a b : Nat, RM R C xs r c ∧ i = (a : Int) ∧ k = (b : Int) ∧ a < r ∧ b < c := by
  unfold MthereS at h
  by_cases hm : mchkM R C xs = 0
  · rw [if_pos hm] at h
    obtain ⟨r, c, hrm⟩ := rm_of hm
    have h1 := hrm.rows; have h2 := hrm.cols
    by_cases hh : i < 0 ∨ R ≤ i ∨ k < 0 ∨ C ≤ k
    · rw [if_pos hh] at h; omega
    · exact ⟨r, c, i.toNat, k.toNat, hrm, by omega, by omega, by omega, by omega⟩
  · rw [if_neg hm] at h; exact absurd h hm
/-- What Make answers. -/
def makeS (R C : Int) (ls : List Int) : MR := if sideB R = true then (if sideB C = true then (if (ls.length : Int) = R * C then ⟨R, C, ls.map txt, 0⟩ else .bad 8) else .bad 2) else .bad 2
def listM (c : Nat) (ls : List Int) : Mat := fun i k => ls.getD (i * c + k) 0
theorem cells_list {r c : Nat} {ls : List Int} (h : ls.length = r * c) : ls.map txt = cellsF r c (listM c ls) := by
  refine List.ext_getElem (by rw [List.length_map, cellsF_len, h]) fun t h1 h2 => ?_
  simp only [cellsF, listM, List.getElem_map, List.getElem_range]
  have hl : t < ls.length := by simpa using h1
  rw [show t / c * c + t % c = t by rw [Nat.mul_comm]; exact Nat.div_add_mod t c, List.getD_eq_getElem?_getD, List.getElem?_eq_getElem hl]; rfl
theorem make_at {v : Value} (ls : List Int) (r c i k gL gC : Nat) (w : World) (hl : ls.length = r * c) (hl2 : ls.length ≤ 256) (hi : i < r) (hk : k < c) (hL : Blk w gL [v] 36) (hC : Blk w gC [.int .i64 (c : Nat)] 3) (hv : Sl eZ w v ls) (hz : ∀ z ∈ ls, -9223372036854775808 ≤ z ∧ z ≤ 9223372036854775807) (he : Env w) :
    Calls Tryz.prog 97 #[.int .i64 i, .int .i64 k, .pointer (some ⟨gL, 0, none⟩), .pointer (some ⟨gC, 0, none⟩)] w (Rets fun v w' => v = .tuple #[.string (txt (listM c ls i k)), .int .i64 0] ∧ Below w.heap.size w w') := by
  have h : i * c + k < ls.length := by rw [hl]; exact mul_lt hi hk
  have e : listM c ls i k = ls[i * c + k] := by unfold listM; rw [List.getD_eq_getElem?_getD, List.getElem?_eq_getElem h]; rfl
  have hz := hz _ (List.getElem_mem h)
  rw [e]
  exact Make1_any w gL gC v ls c i k _ hL hC hv hl2 (List.getElem?_eq_getElem h) hz.1 hz.2 he
set_option maxHeartbeats 4000000 in
theorem Make_any (w : World) (R C : Int) (v : Value) (ls : List Int) (hv : Sl eZ w v ls) (hz : ∀ z ∈ ls, -9223372036854775808 ≤ z ∧ z ≤ 9223372036854775807) (he : Env w) :
    Calls Tryz.prog 75 #[.int .i64 R, .int .i64 C, v] w (RetMR w (makeS R C ls)) := by
  have HV := Lib.hid hv; have HZ := Lib.hid hz; have HE := Lib.hid he
  obtain ⟨ad, cap, rfl⟩ := sl_form hv
  clear hv hz he
  by_cases hR : sideB R = true
  · by_cases hC : sideB C = true
    · have hm2 := side_mul hR hC
      obtain ⟨p, hRC⟩ : ∃ p, R * C = p := ⟨_, rfl⟩
      rw [hRC] at hm2
      have H1 := Lib.hid hR; have H2 := Lib.hid hC
      by_cases hl : (ls.length : Int) = p
      · have hne : ((ls.length : Int) != p) = false := by simp [hl]
        obtain ⟨h0, h1⟩ := (sideB_iff R).1 hR
        obtain ⟨h2, h3⟩ := (sideB_iff C).1 hC
        obtain ⟨r, rfl⟩ : ∃ r : Nat, R = (r : Int) := ⟨R.toNat, by omega⟩
        obtain ⟨c, rfl⟩ : ∃ c : Nat, C = (c : Int) := ⟨C.toNat, by omega⟩
        have hr : r ≤ 16 := by omega
        have hc : c ≤ 16 := by omega
        have hln : ls.length = r * c := by
          have : ((r * c : Nat) : Int) = (r : Int) * (c : Int) := Int.natCast_mul _ _
          omega
        have HLN := Lib.hid hln
        have hl256 : ls.length ≤ 256 := by omega
        show Calls _ _ _ _ (RetM w (makeS r c ls).R (makeS r c ls).C (makeS r c ls).xs (makeS r c ls).k)
        rw [show makeS r c ls = ⟨r, c, cellsF r c (listM c ls), 0⟩ by unfold makeS; rw [if_pos hR, if_pos hC, if_pos (by rw [hRC]; exact hl), cells_list hln]]
        have HB := Lib.hid ((((Below.refl w.heap.size w).alloc (Nat.le_refl _) (.cells #[.int .i64 c] 3)).alloc (by simp) (.cells #[.slice ad ls.length cap] 36)).alloc (by simp; omega) (.cells #[.int .i64 0, .int .i64 0, .slice none 0 0] 128))
        have q0 := HB.out
        have HKC := Lib.hid (((Blk.new w [.int .i64 c] 3).alloc (.cells #[.slice ad ls.length cap] 36)).alloc (.cells #[.int .i64 0, .int .i64 0, .slice none 0 0] 128))
        have HKL := Lib.hid ((Blk.at1 w (.cells #[.int .i64 c] 3) [.slice ad ls.length cap] 36).alloc (.cells #[.int .i64 0, .int .i64 0, .slice none 0 0] 128))
        have HR := Lib.hid (Blk.at2 w (.cells #[.int .i64 c] 3) (.cells #[.slice ad ls.length cap] 36) [.int .i64 0, .int .i64 0, .slice none 0 0] 128)
        have HV := Lib.hid (HV.out.below HB.out (Nat.le_refl _))
        have HE := Lib.hid (HE.out.below HB.out (Nat.le_refl _))
        have g0 := HKC.out.cell 0 _ rfl; have g1 := HKL.out.cell 0 _ rfl
        clear hR hC hl hln h0 h1 h2 h3
        go_enter Tryz.func75, Tryz.ntmps75
        go_wp2_with (first
          | (go_at_call 96; (with_reducible refine (filledA_make _ r c (.pointer (some ⟨w.heap.size + 1, 0, none⟩)) (.pointer (some ⟨w.heap.size, 0, none⟩)) (listM c ls) hr hc fun i k w' hi hk hb => make_at ls r c i k _ _ w' HLN.out hl256 hi hk (HKL.out.below hb (Nat.le_refl _)) (HKC.out.below hb (Nat.le_refl _)) (HV.out.below hb (Nat.le_refl _)) HZ.out (HE.out.below hb (Nat.le_refl _))).mono ?_); rintro e w3 ⟨v, rfl, x3, rfl, s3, h3⟩; have HS := Lib.hid s3; obtain ⟨a3, k3, rfl⟩ := sl_form s3; clear s3; have HR := Lib.hid (HR.out.below h3 (Nat.le_refl _)); have f3_HR_0 := HR.out.free 0; have f3_HR_1 := HR.out.free 1; have f3_HR_2 := HR.out.free 2; have c3_HR_0 := HR.out.cell 0 _ rfl; have c3_HR_1 := HR.out.cell 1 _ rfl; have c3_HR_2 := HR.out.cell 2 _ rfl; have q3 := q2.trans (h3.mono q2.size))
          | (go_at_call_of 95 (Value.int .i64 c); (with_reducible refine (Mside_any _ c).mono ?_); rintro e w' ⟨v, rfl, rfl, rfl⟩; rw [H2.out]; have q2 := q1)
          | (go_at_call_of 95 (Value.int .i64 r); (with_reducible refine (Mside_any _ r).mono ?_); rintro e w' ⟨v, rfl, rfl, rfl⟩; rw [H1.out]; have q1 := q0))
        obtain ⟨hR, hS, hW⟩ := res_done (R := r) (C := c) q3 (by omega) HR.out HS.out
        have z0 := hR.cell 0 _ rfl; have z1 := hR.cell 1 _ rfl; have z2 := hR.cell 2 _ rfl
        exact bodyPost_ret (v := .tuple #[.agg #[.int .i64 r, .int .i64 c, .slice a3 (cellsF r c (listM c ls)).length k3], .int .i64 0]) (by simp [results, Tryz.results75, go_sem, z0, z1, z2]) rfl ⟨_, rfl, _, rfl, hS, hW⟩
      · have hne : ((ls.length : Int) != p) = true := by simp [hl]
        show Calls _ _ _ _ (RetM w (makeS R C ls).R (makeS R C ls).C (makeS R C ls).xs (makeS R C ls).k)
        rw [show makeS R C ls = .bad 8 by unfold makeS; rw [if_pos hR, if_pos hC, if_neg (by rw [hRC]; exact hl)]]
        have HB := Lib.hid ((((Below.refl w.heap.size w).alloc (Nat.le_refl _) (.cells #[.int .i64 C] 3)).alloc (by simp) (.cells #[.slice ad ls.length cap] 36)).alloc (by simp; omega) (.cells #[.int .i64 0, .int .i64 0, .slice none 0 0] 128))
        have q0 := HB.out
        have HKC := Lib.hid (((Blk.new w [.int .i64 C] 3).alloc (.cells #[.slice ad ls.length cap] 36)).alloc (.cells #[.int .i64 0, .int .i64 0, .slice none 0 0] 128))
        have HKL := Lib.hid ((Blk.at1 w (.cells #[.int .i64 C] 3) [.slice ad ls.length cap] 36).alloc (.cells #[.int .i64 0, .int .i64 0, .slice none 0 0] 128))
        have HR := Lib.hid (Blk.at2 w (.cells #[.int .i64 C] 3) (.cells #[.slice ad ls.length cap] 36) [.int .i64 0, .int .i64 0, .slice none 0 0] 128)
        have HV := Lib.hid (HV.out.below HB.out (Nat.le_refl _))
        have HE := Lib.hid (HE.out.below HB.out (Nat.le_refl _))
        have g0 := HKC.out.cell 0 _ rfl; have g1 := HKL.out.cell 0 _ rfl
        clear hR hC hl
        go_enter Tryz.func75, Tryz.ntmps75
        go_wp2_with (first
          | (go_at_call_of 95 (Value.int .i64 C); (with_reducible refine (Mside_any _ C).mono ?_); rintro e w' ⟨v, rfl, rfl, rfl⟩; rw [H2.out]; have q2 := q1)
          | (go_at_call_of 95 (Value.int .i64 R); (with_reducible refine (Mside_any _ R).mono ?_); rintro e w' ⟨v, rfl, rfl, rfl⟩; rw [H1.out]; have q1 := q0))
        exact bodyPost_ret (v := .tuple #[.agg #[.int .i64 0, .int .i64 0, .slice none 0 0], .int .i64 8]) (by simp [results, Tryz.results75, go_sem]) rfl ⟨_, rfl, _, rfl, Sl.nil' _ _, HB.out⟩
    · have H1 := Lib.hid hR; have H2 := Lib.hid (show sideB C = false by simpa using hC)
      show Calls _ _ _ _ (RetM w (makeS R C ls).R (makeS R C ls).C (makeS R C ls).xs (makeS R C ls).k)
      rw [show makeS R C ls = .bad 2 by unfold makeS; rw [if_pos hR, if_neg hC]]
      have HB := Lib.hid ((((Below.refl w.heap.size w).alloc (Nat.le_refl _) (.cells #[.int .i64 C] 3)).alloc (by simp) (.cells #[.slice ad ls.length cap] 36)).alloc (by simp; omega) (.cells #[.int .i64 0, .int .i64 0, .slice none 0 0] 128))
      have q0 := HB.out
      have HKC := Lib.hid (((Blk.new w [.int .i64 C] 3).alloc (.cells #[.slice ad ls.length cap] 36)).alloc (.cells #[.int .i64 0, .int .i64 0, .slice none 0 0] 128))
      have HKL := Lib.hid ((Blk.at1 w (.cells #[.int .i64 C] 3) [.slice ad ls.length cap] 36).alloc (.cells #[.int .i64 0, .int .i64 0, .slice none 0 0] 128))
      have HR := Lib.hid (Blk.at2 w (.cells #[.int .i64 C] 3) (.cells #[.slice ad ls.length cap] 36) [.int .i64 0, .int .i64 0, .slice none 0 0] 128)
      have HV := Lib.hid (HV.out.below HB.out (Nat.le_refl _))
      have HE := Lib.hid (HE.out.below HB.out (Nat.le_refl _))
      have g0 := HKC.out.cell 0 _ rfl; have g1 := HKL.out.cell 0 _ rfl
      clear hR hC
      go_enter Tryz.func75, Tryz.ntmps75
      go_wp2_with (first
        | (go_at_call_of 95 (Value.int .i64 C); (with_reducible refine (Mside_any _ C).mono ?_); rintro e w' ⟨v, rfl, rfl, rfl⟩; rw [H2.out]; have q2 := q1)
        | (go_at_call_of 95 (Value.int .i64 R); (with_reducible refine (Mside_any _ R).mono ?_); rintro e w' ⟨v, rfl, rfl, rfl⟩; rw [H1.out]; have q1 := q0))
      exact bodyPost_ret (v := .tuple #[.agg #[.int .i64 0, .int .i64 0, .slice none 0 0], .int .i64 2]) (by simp [results, Tryz.results75, go_sem]) rfl ⟨_, rfl, _, rfl, Sl.nil' _ _, HB.out⟩
  · have H1 := Lib.hid (show sideB R = false by simpa using hR)
    show Calls _ _ _ _ (RetM w (makeS R C ls).R (makeS R C ls).C (makeS R C ls).xs (makeS R C ls).k)
    rw [show makeS R C ls = .bad 2 by unfold makeS; rw [if_neg hR]]
    have HB := Lib.hid ((((Below.refl w.heap.size w).alloc (Nat.le_refl _) (.cells #[.int .i64 C] 3)).alloc (by simp) (.cells #[.slice ad ls.length cap] 36)).alloc (by simp; omega) (.cells #[.int .i64 0, .int .i64 0, .slice none 0 0] 128))
    have q0 := HB.out
    have HKC := Lib.hid (((Blk.new w [.int .i64 C] 3).alloc (.cells #[.slice ad ls.length cap] 36)).alloc (.cells #[.int .i64 0, .int .i64 0, .slice none 0 0] 128))
    have HKL := Lib.hid ((Blk.at1 w (.cells #[.int .i64 C] 3) [.slice ad ls.length cap] 36).alloc (.cells #[.int .i64 0, .int .i64 0, .slice none 0 0] 128))
    have HR := Lib.hid (Blk.at2 w (.cells #[.int .i64 C] 3) (.cells #[.slice ad ls.length cap] 36) [.int .i64 0, .int .i64 0, .slice none 0 0] 128)
    have HV := Lib.hid (HV.out.below HB.out (Nat.le_refl _))
    have HE := Lib.hid (HE.out.below HB.out (Nat.le_refl _))
    have g0 := HKC.out.cell 0 _ rfl; have g1 := HKL.out.cell 0 _ rfl
    clear hR
    go_enter Tryz.func75, Tryz.ntmps75
    go_wp2_with (first
      | (go_at_call_of 95 (Value.int .i64 R); (with_reducible refine (Mside_any _ R).mono ?_); rintro e w' ⟨v, rfl, rfl, rfl⟩; rw [H1.out]; have q1 := q0))
    exact bodyPost_ret (v := .tuple #[.agg #[.int .i64 0, .int .i64 0, .slice none 0 0], .int .i64 2]) (by simp [results, Tryz.results75, go_sem]) rfl ⟨_, rfl, _, rfl, Sl.nil' _ _, HB.out⟩

/-- What Minor answers. -/
def minS (R C : Int) (xs : List ByteArray) (i k : Int) : MR := if MthereS R C xs i k = 0 then ⟨R - 1, C - 1, cellsF (R.toNat - 1) (C.toNat - 1) (mnr (matF C.toNat xs) i.toNat k.toNat), 0⟩ else .bad (MthereS R C xs i k)
end Go.Proofs.YtlnhocgjgmhfgaaGreatDoor

namespace Go.Proofs.YtlnhocgjgmhfgaaGreatDoor
set_option maxRecDepth 100000

theorem rank_rows {m n : Nat} {A : Mat} {s : Est} (h : Kept m n n A s) : ∃ B : Mat, ∀ i, i < m → ∃ (Q : Int) (w : Nat → Int), Q ≠ 0 ∧ ∀ j, j < n → Q * A i j = sm s.rank (fun t => w t * B t j) := by
  obtain ⟨B, c, hI, -, σ, hσ, hσ2⟩ := h.ex
  refine ⟨B, fun i hi => ?_⟩
  obtain ⟨i', hi', he⟩ := hσ2 i hi
  have hB : ∀ j, A i j = B i' j := fun j => by rw [(hσ i' hi').2 j, he]
  by_cases hlt : i' < s.rank
  · refine ⟨1, fun t => if t = i' then 1 else 0, by omega, fun j _ => ?_⟩
    rw [sm_one _ i' hlt fun t _ ht => by simp [ht], hB]; simp
  · obtain ⟨q, w, hq, hrel⟩ := hI.rel i' (by omega) hi'
    refine ⟨q * s.last, fun t => -w t, Int.mul_ne_zero hq hI.d0, fun j hj => ?_⟩
    have h1 := hrel j hj
    rw [hI.zero i' (by omega) hi' j hj, Int.mul_zero] at h1
    rw [hB]
    have : sm s.rank (fun t => -w t * B t j) = -sm s.rank (fun t => w t * B t j) := by
      rw [← sm_neg]; exact sm_congr fun t _ => by rw [Int.neg_mul]
    rw [this]; omega
/-- The rank of an m × n matrix: some minor of that size is not 0, and all greater ones are. -/
structure Rk (m n : Nat) (A : Mat) (r : Nat) : Prop where
  some : ∃ R C : List Nat, R.length = r ∧ C.length = r ∧ Asc m R ∧ Asc n C ∧ det r (fun i j => A (R.getD i 0) (C.getD j 0)) ≠ 0
  none : ∀ (k : Nat) (ρ γ : Nat → Nat), r < k → (∀ i, i < k → ρ i < m) → (∀ j, j < k → γ j < n) → det k (fun i j => A (ρ i) (γ j)) = 0
theorem Kept.rk {m n : Nat} {A : Mat} {s : Est} (h : Kept m n n A s) : Rk m n A s.rank := ⟨(rank_spec h).1, (rank_spec h).2⟩
theorem asc_at {m : Nat} {R : List Nat} (h : Asc m R) (i : Nat) (hi : i < R.length) : R.getD i 0 < m := by
  rw [List.getD_eq_getElem?_getD, List.getElem?_eq_getElem hi]
  exact h.2 _ (List.getElem_mem hi)
theorem Rk.le {m n r r' : Nat} {A : Mat} (h : Rk m n A r) (h' : Rk m n A r') : r' ≤ r := by
  obtain ⟨R, C, hR, hC, aR, aC, hd⟩ := h'.some
  rcases Nat.lt_or_ge r r' with hl | hl
  · exact absurd (h.none r' _ _ hl (fun i hi => asc_at aR i (by omega)) (fun j hj => asc_at aC j (by omega))) hd
  · exact hl
theorem Rk.uniq {m n r r' : Nat} {A : Mat} (h : Rk m n A r) (h' : Rk m n A r') : r = r' := Nat.le_antisymm (h'.le h) (h.le h')
theorem Rk.tr {m n r : Nat} {A : Mat} (h : Rk m n A r) : Rk n m (tr A) r := by
  refine ⟨?_, fun k ρ γ hk hρ hγ => ?_⟩
  · obtain ⟨R, C, hR, hC, aR, aC, hd⟩ := h.some
    refine ⟨C, R, hC, hR, aC, aR, ?_⟩
    rw [← det_tr] at hd
    exact hd
  · rw [← det_tr]
    exact h.none k γ ρ hk hγ hρ
theorem rk_congr {m n r : Nat} {A B : Mat} (h : Rk m n A r) (he : ∀ i j, i < m → j < n → A i j = B i j) : Rk m n B r := by
  refine ⟨?_, fun k ρ γ hk hρ hγ => ?_⟩
  · obtain ⟨R, C, hR, hC, aR, aC, hd⟩ := h.some
    refine ⟨R, C, hR, hC, aR, aC, ?_⟩
    rw [← det_congr fun i j hi hj => he _ _ (asc_at aR i (by omega)) (asc_at aC j (by omega))]
    exact hd
  · rw [← h.none k ρ γ hk hρ hγ]
    exact (det_congr fun i j hi hj => he _ _ (hρ i hi) (hγ j hj)).symm
theorem sm_swap_mul (n r : Nat) (w : Nat → Int) (B : Mat) (u : Nat → Int) : sm n (fun k => sm r (fun t => w t * B t k) * u k) = sm r (fun t => w t * sm n (fun k => B t k * u k)) := by
  have e : ∀ k, sm r (fun t => w t * B t k) * u k = sm r (fun t => w t * (B t k * u k)) := fun k => by
    rw [Int.mul_comm, ← sm_mul]
    exact sm_congr fun t _ => by rw [Int.mul_comm, Int.mul_assoc]
  rw [sm_congr (g := fun k => sm r (fun t => w t * (B t k * u k))) fun k _ => e k, sm_comm]
  exact sm_congr fun t _ => by rw [sm_mul]
/-- The rank of a product is at most that of the first factor. -/
theorem rank_left {m n p z : Nat} {A B : Mat} {s : Est} (h : Kept m n n A s) (hz : Rk m p (mulM n A B) z) : z ≤ s.rank := by
  rcases Nat.lt_or_ge s.rank z with hl | hl
  · obtain ⟨R, C, hR, hC, aR, aC, hd⟩ := hz.some
    obtain ⟨Y, hY⟩ := rank_rows h
    have H : ∀ i, i < z → ∃ (Q : Int) (w : Nat → Int), Q ≠ 0 ∧ ∀ j, j < n → Q * A (R.getD i 0) j = sm s.rank (fun t => w t * Y t j) := fun i hi => hY _ (asc_at aR i (by omega))
    refine absurd (det_comb hl _ (fun t j => sm n (fun k => Y t k * B k (C.getD j 0))) (fun i => if h : i < z then (H i h).choose else 1) (fun i => if h : i < z then (H i h).choose_spec.choose else fun _ => 0) (fun i hi => ?_) (fun i j hi hj => ?_)) hd
    · simp only [dif_pos hi]; exact (H i hi).choose_spec.choose_spec.1
    · simp only [dif_pos hi]
      have h2 := (H i hi).choose_spec.choose_spec.2
      obtain ⟨Q, hQ⟩ : ∃ Q, (H i hi).choose = Q := ⟨_, rfl⟩
      obtain ⟨w, hw⟩ : ∃ w, (H i hi).choose_spec.choose = w := ⟨_, rfl⟩
      rw [hw] at h2 ⊢
      rw [hQ] at h2
      show (H i hi).choose * mulM n A B (R.getD i 0) (C.getD j 0) = _
      rw [hQ, mulM, ← sm_mul, ← sm_swap_mul]
      exact sm_congr fun k hk => by rw [← h2 k hk, Int.mul_assoc]
  · exact hl
theorem tr_mul (n : Nat) (A B : Mat) : tr (mulM n A B) = mulM n (tr B) (tr A) := by
  funext i j
  exact sm_congr fun k _ => Int.mul_comm _ _
/-- The rank of a product is at most that of the second factor. -/
theorem rank_right {m n p z y : Nat} {A B : Mat} (hy : Rk n p B y) (hz : Rk m p (mulM n A B) z) : z ≤ y := by
  have h1 := Kept.cols (m := p) (n := n) (tr B) n (Nat.le_refl _)
  have h2 := hz.tr
  rw [tr_mul] at h2
  have h3 := rank_left h1 h2
  rwa [← hy.tr.uniq h1.rk] at h3
theorem Kept.rank_le {m n : Nat} {A : Mat} {s : Est} (h : Kept m n n A s) : s.rank ≤ m ∧ s.rank ≤ n := by
  refine ⟨by obtain ⟨B, c, hI, -⟩ := h.ex; exact hI.rk, ?_⟩
  have h1 := Kept.cols (m := n) (n := m) (tr A) m (Nat.le_refl _)
  rw [h.rk.tr.uniq h1.rk]
  obtain ⟨B, c, hI, -⟩ := h1.ex; exact hI.rk
/-- A square matrix has full rank exactly if its determinant is not 0. -/
theorem full_iff {n : Nat} {A : Mat} {s : Est} (h : Kept n n n A s) : det n A ≠ 0 ↔ s.rank = n := by
  have h1 := elim_det A h
  have hr := h.rank_le.1
  obtain ⟨B, c, hI, -⟩ := h.ex
  by_cases e : s.rank < n
  · rw [h1, if_pos e]; omega
  · rw [h1, if_neg e]
    have h2 : sgB s.neg ≠ 0 := by cases s.neg <;> simp [sgB]
    exact ⟨fun _ => by omega, fun _ => Int.mul_ne_zero h2 hI.d0⟩
end Go.Proofs.YtlnhocgjgmhfgaaGreatDoor

namespace Go.Proofs.YtlnhocgjgmhfgaaGreatDoor
open Go.RowKit Go.Shelf
set_option maxRecDepth 100000

attribute [local go_sem] Oper.semAt_some

theorem grown_below {w w' : World} (h : Below w.heap.size w w') : w.grownBy w' none := ⟨h.1, h.2, h.3, h.4, fun k hk _ => h.5 k hk⟩
/-- The rows that an iterator has handed out: each its own block. -/
structure RowsAt (base : Nat) (c : Nat) (A : Mat) (bs : List (Nat × Nat)) (W : World) : Prop where
  row : ∀ i (h : i < bs.length), W.ownsRow base 74 1 (rowV c bs[i]) c (rowL c A i)
  nod : (bs.map Prod.fst).Nodup
  lt : ∀ b ∈ bs.map Prod.fst, b < W.heap.size
theorem RowsAt.nil (base c : Nat) (A : Mat) (W : World) : RowsAt base c A [] W := ⟨fun i h => by simp at h, by simp, fun b h => by simp at h⟩
theorem RowsAt.kp {base c B : Nat} {A : Mat} {bs : List (Nat × Nat)} {W W' : World} (h : RowsAt base c A bs W) (hk : KpR B W W') (hs : W.heap.size ≤ W'.heap.size) : RowsAt base c A bs W' :=
  ⟨fun i hi => hk.own (h.row i hi), h.nod, fun b hb => Nat.lt_of_lt_of_le (h.lt b hb) hs⟩
theorem RowsAt.snoc {base c g cap : Nat} {A : Mat} {bs : List (Nat × Nat)} {W W1 : World} (h : RowsAt base c A bs W) (hb : Below W.heap.size W W1) (hB : base ≤ W.heap.size) (hr : W1.ownsRow W.heap.size 74 1 (rowV c (g, cap)) c (rowL c A bs.length)) (hg : W.heap.size ≤ g) (hg2 : g < W1.heap.size) : RowsAt base c A (bs ++ [(g, cap)]) W1 := by
  refine ⟨fun i hi => ?_, ?_, fun b hm => ?_⟩
  · by_cases e : i < bs.length
    · rw [List.getElem_append_left e]
      exact own_below (h.row i e) hb (Nat.le_refl _)
    · obtain rfl : i = bs.length := by simp at hi; omega
      simp only [List.getElem_append_right (Nat.le_refl _), Nat.sub_self, List.getElem_cons_zero]
      exact own_low hr hB
  · rw [List.map_append, List.nodup_append]
    refine ⟨h.nod, by simp, fun a ha b hb e => ?_⟩
    have h1 := h.lt a ha
    simp at hb
    omega
  · rw [List.map_append, List.mem_append] at hm
    rcases hm with hm | hm
    · exact Nat.lt_of_lt_of_le (h.lt b hm) hb.size
    · simp at hm; omega
theorem own_block {w : World} {b e s n : Nat} {v : Value} {ys : List Value} (h : w.ownsRow b e s v (n + 1) ys) : ∃ g cap, v = .slice (some ⟨g, 0, none⟩) (n + 1) cap ∧ b ≤ g ∧ g < w.heap.size := by
  rcases h.2 with ⟨_, h0⟩ | ⟨g, cap, cur, rfl, hb, hg, _⟩
  · omega
  · exact ⟨g, cap, rfl, hb, (Array.getElem?_eq_some_iff.1 hg).1⟩

theorem row_list {r c q m : Nat} {xs : List ByteArray} {A : Mat} (hx : xs = cellsF r (c + 1) A) (hm : q * (c + 1) = m) (hl : m + (c + 1) ≤ xs.length) : ((xs.drop m).take (c + 1)).map eS = rowL (c + 1) A q := by
  refine List.ext_getElem (by rw [List.length_map, List.length_take, List.length_drop, rowL_len]; omega) fun j h1 h2 => ?_
  have hj : j < c + 1 := by rw [rowL_len] at h2; exact h2
  simp only [List.getElem_map, List.getElem_take, List.getElem_drop, rowL, List.getElem_range, eS]
  subst hx
  have hjl : q * (c + 1) + j < (cellsF r (c + 1) A).length := by omega
  have e := cellsF_get (r := r) A hj hjl
  simp only [hm] at e
  rw [e]
theorem row_sl {r c q m b o cap k : Nat} {xs : List ByteArray} {A : Mat} {w : World} (hp : Cells eS w b o xs) (_hx : xs = cellsF r (c + 1) A) (_hm : q * (c + 1) = m) (hl : m + (c + 1) ≤ xs.length) (hc : xs.length ≤ cap) (hcm : cap ≤ maxLen) (hk : k = c + 1) :
    Sl eS w (.slice (some ⟨b, o + m, none⟩) k (cap - m)) ((xs.drop m).take (c + 1)) := by
  have hlen : ((xs.drop m).take (c + 1)).length = c + 1 := by rw [List.length_take, List.length_drop]; omega
  refine ⟨some ⟨b, o + m, none⟩, b, o + m, cap - m, by rw [hlen, hk], fun _ => rfl, by omega, by omega, by simp, fun _ => hp.1 (by omega), fun i hi => ?_⟩
  have h := hp.2 (m + i) (by omega)
  rw [show o + (m + i) = o + m + i by omega] at h
  rw [h]
  simp
set_option maxHeartbeats 4000000 in
theorem rows1_seq {w : World} {B r c : Nat} {v : Value} {xs : List ByteArray} (A : Mat) (hk : Blk w B [.int .i64 r, .int .i64 (c + 1 : Nat), v] 128) (hv : Sl eS w v xs) (hx : xs = cellsF r (c + 1) A) (hr : r ≤ 16) (hc : c + 1 ≤ 16) (n : Nat) (hn : 1 ≤ n) :
    SeqG Fence.wide n Tryz.prog 126 #[.pointer (some ⟨B, 0, none⟩)] (fun x : Nat × Nat => #[rowV (c + 1) x]) (KpR w.heap.size) (fun s _ W => s ≤ W.heap.size) (fun bs W => bs.length = r ∧ RowsAt w.heap.size (c + 1) A bs W) r w := by
  intro l J W hbW hJ hJc hY h0
  have hkW := hk.below hbW (Nat.le_refl _)
  have HB0 := Lib.hid hbW
  have hBw : B < w.heap.size := hk.lt
  have HY := Lib.hid hY; have HJ := Lib.hid hJ; have HX := Lib.hid hx; have HKW := Lib.hid hkW
  have hwW := hbW.size
  obtain ⟨ad, b, o, cap, rfl, ha, hcc, hm, hn0, hp⟩ := hv
  have HP := Lib.hid hp; have HA := Lib.hid ha
  unfold maxLen at hm
  clear hY hJ hJc hk hx hbW hp ha hn0
  have k0 := hkW.cell 0 _ rfl
  clear hkW
  refine callsIn_of_wp Tryz.func126 rfl trivial ?_ rfl
  simp only [Tryz.ntmps126, List.size_toArray, List.length_cons, List.length_nil, Nat.reduceAdd, Nat.reduceSub, Array.replicate_succ, Array.replicate_zero, List.push_toArray, List.append_toArray, List.nil_append, List.cons_append]
  gi_wp2
  gi_loopw [6] (fun i wr => ∃ q : Nat, q ≤ r ∧ i = .int .i64 q ∧ ∃ bs : List (Nat × Nat), bs.length = q ∧ Hid (J bs wr) ∧ Hid (RowsAt w.heap.size (c + 1) A bs wr) ∧ Below w.heap.size W wr ∧ W.heap.size ≤ wr.heap.size) (fun i _ => r - (intOf i).toNat)
  case atStart => exact ⟨0, Nat.zero_le _, rfl, [], rfl, Lib.hid h0, Lib.hid (RowsAt.nil _ _ _ _), Below.refl _ _, Nat.le_refl _⟩
  case round =>
    clear k0
    obtain ⟨q, hq, rfl, bs, hbs, hJs, hR, hbl, hsz⟩ := hrel
    have hKr := (hbl.block B hBw).trans HKW.out
    have hKr : Blk wr B _ _ := hKr
    have k0 := hKr.cell 0 _ rfl; have k1 := hKr.cell 1 _ rfl; have k2 := hKr.cell 2 _ rfl
    clear hKr
    by_cases hqr : q < r
    · obtain ⟨m, hm1⟩ : ∃ m, q * (c + 1) = m := ⟨_, rfl⟩
      have hxl : xs.length = r * (c + 1) := by rw [HX.out, cellsF_len]
      have hm2 : m + (c + 1) ≤ xs.length := by
        rw [hxl, ← hm1]
        calc q * (c + 1) + (c + 1) = (q + 1) * (c + 1) := by rw [Nat.add_mul, Nat.one_mul]
          _ ≤ r * (c + 1) := Nat.mul_le_mul_right _ hqr
      have hm3 : xs.length ≤ 256 := by rw [hxl]; exact Nat.mul_le_mul hr hc
      have e1 : (q : Int) * ((c : Int) + 1) = (m : Int) := by rw [← hm1]; simp
      have e2 : ((q : Int) + 1) * ((c : Int) + 1) = ((m + (c + 1) : Nat) : Int) := by rw [Int.add_mul, e1]; simp
      obtain ⟨m2, hmm⟩ : ∃ m2, m + (c + 1) = m2 := ⟨_, rfl⟩
      rw [hmm] at e2 hm2
      have ha := HA.out (by omega)
      subst ha
      have HS := Lib.hid (row_sl (A := A) (HP.out.below (HB0.out.trans hbl) (Nat.le_refl _)) HX.out hm1 (show m + (c + 1) ≤ xs.length by omega) hcc (by unfold maxLen; omega) (show m2 - m = c + 1 by omega))
      have HRL := Lib.hid (row_list (r := r) (A := A) HX.out hm1 (show m + (c + 1) ≤ xs.length by omega))
      obtain ⟨ys, hys⟩ : ∃ ys, (xs.drop m).take (c + 1) = ys := ⟨_, rfl⟩
      rw [hys] at HS HRL
      have HYL := Lib.hid (show ys.length = c + 1 by rw [← hys, List.length_take, List.length_drop]; omega)
      clear hys
      gi_wp2
      refine ⟨trivial, callsIn_wide.2 ((clone_any _ _ ys HS.out (by rw [HYL.out]; omega)).mono ?_)⟩
      rintro e w1 ⟨v1, rfl, ho, hb1⟩
      rw [HYL.out, HRL.out] at ho
      obtain ⟨g, gc, rfl, hg1, hg2⟩ := own_block ho
      have hR1 := hR.out.snoc (g := g) (cap := gc) hb1 (by omega) (by rw [hbs]; exact ho) hg1 hg2
      have hJ1 := HJ.out _ _ _ none hJs.out (grown_below hb1) (fun _ h => by cases h)
      have hlen : bs.length < r := by omega
      obtain ⟨fn, tmps, assign, body, hy, hRd⟩ := HY.out bs (g, gc) w1 hJ1 (by have := hb1.size; omega) hlen
      have HR1 := Lib.hid hR1
      clear hR1 hJ1 ho
      unfold rowV at hy
      gi_wp2
      refine hRd.mono ?_
      rintro e W3 ⟨rfl, hJ3, hk3⟩
      have HJ3 := Lib.hid hJ3
      have hs3 := hk3.1.size
      have HR3 := Lib.hid (HR1.out.kp hk3 hs3)
      have hb3 := hk3.1
      clear hJ3 hk3
      gi_wp2
      go_roundw
      case rel => exact ⟨q + 1, by omega, by go_num, bs ++ [(g, gc)], by simp [hbs], HJ3, HR3, (hbl.trans (hb1.mono (by omega))).trans hb3, by have := hb1.size; omega⟩
      case measure => simp [intOf]; omega
    · obtain rfl : q = r := by omega
      gi_wp2
      go_end0
      exact ⟨⟨_, rfl⟩, bs, ⟨hbs, hR.out⟩, hJs.out⟩
set_option maxHeartbeats 4000000 in
theorem rows0_seq {w : World} {B r : Nat} {v : Value} (hk : Blk w B [.int .i64 r, .int .i64 0, v] 128) (hv : Sl eS w v []) (hr : r ≤ 16) (n : Nat) (hn : 1 ≤ n) :
    SeqG Fence.wide n Tryz.prog 126 #[.pointer (some ⟨B, 0, none⟩)] (fun x : Option Addr × Nat => #[.slice x.1 0 x.2]) (KpR w.heap.size) (fun s _ W => s ≤ W.heap.size) (fun bs _ => bs.length = r) r w := by
  intro l J W hbW hJ hJc hY h0
  have hkW := hk.below hbW (Nat.le_refl _)
  have HB0 := Lib.hid hbW
  have hBw : B < w.heap.size := hk.lt
  have HY := Lib.hid hY; have HJ := Lib.hid hJ; have HKW := Lib.hid hkW
  have hwW := hbW.size
  obtain ⟨ad, b, o, cap, rfl, ha, hcc, hm, hn0, hp⟩ := hv
  unfold maxLen at hm
  have HS := Lib.hid (fun wr => show Sl eS wr (.slice ad 0 cap) [] from ⟨ad, 0, 0, cap, rfl, fun h => absurd h (by simp), by simp, by unfold maxLen; omega, hn0, fun h => absurd h (by simp), fun i h => absurd h (by simp)⟩)
  clear hY hJ hJc hk hbW hp ha hn0
  have k0 := hkW.cell 0 _ rfl
  clear hkW
  refine callsIn_of_wp Tryz.func126 rfl trivial ?_ rfl
  simp only [Tryz.ntmps126, List.size_toArray, List.length_cons, List.length_nil, Nat.reduceAdd, Nat.reduceSub, Array.replicate_succ, Array.replicate_zero, List.push_toArray, List.append_toArray, List.nil_append, List.cons_append]
  gi_wp2
  gi_loopw [6] (fun i wr => ∃ q : Nat, q ≤ r ∧ i = .int .i64 q ∧ ∃ bs : List (Option Addr × Nat), bs.length = q ∧ Hid (J bs wr) ∧ Below w.heap.size W wr ∧ W.heap.size ≤ wr.heap.size) (fun i _ => r - (intOf i).toNat)
  case atStart => exact ⟨0, Nat.zero_le _, rfl, [], rfl, Lib.hid h0, Below.refl _ _, Nat.le_refl _⟩
  case round =>
    clear k0
    obtain ⟨q, hq, rfl, bs, hbs, hJs, hbl, hsz⟩ := hrel
    have hKr : Blk wr B _ _ := (hbl.block B hBw).trans HKW.out
    have k0 := hKr.cell 0 _ rfl; have k1 := hKr.cell 1 _ rfl; have k2 := hKr.cell 2 _ rfl
    clear hKr
    by_cases hqr : q < r
    · gi_wp2
      refine ⟨trivial, callsIn_wide.2 ((clone_any _ _ [] (HS.out _) (by simp)).mono ?_)⟩
      rintro e w1 ⟨v1, rfl, ho, hb1⟩
      obtain ⟨va, vc, rfl⟩ := own_form ho
      have hJ1 := HJ.out _ _ _ none hJs.out (grown_below hb1) (fun _ h => by cases h)
      have hlen : bs.length < r := by omega
      obtain ⟨fn, tmps, assign, body, hy, hRd⟩ := HY.out bs (va, vc) w1 hJ1 (by have := hb1.size; omega) hlen
      clear hJ1 ho
      gi_wp2
      refine hRd.mono ?_
      rintro e W3 ⟨rfl, hJ3, hk3⟩
      have HJ3 := Lib.hid hJ3
      have hs3 := hk3.1.size
      have hb3 := hk3.1
      clear hJ3 hk3
      gi_wp2
      go_roundw
      case rel => exact ⟨q + 1, by omega, by go_num, bs ++ [(va, vc)], by simp [hbs], HJ3, (hbl.trans (hb1.mono (by omega))).trans hb3, by have := hb1.size; omega⟩
      case measure => simp [intOf]; omega
    · obtain rfl : q = r := by omega
      gi_wp2
      go_end0
      exact ⟨⟨_, rfl⟩, bs, hbs, hJs.out⟩
set_option maxHeartbeats 1000000 in
theorem rows_any (w : World) (R C : Int) (a : Option Addr) (n c : Nat) : Calls Tryz.prog 115 #[.agg #[.int .i64 R, .int .i64 C, .slice a n c]] w fun e w' => e = .returned (.func (.func 126) #[] #[.pointer (some ⟨w.heap.size, 0, none⟩)]) ∧ w' = w.alloc (.cells #[.int .i64 R, .int .i64 C, .slice a n c] 128) := by
  go_enter Tryz.func115, Tryz.ntmps115
  go_wp2
  go_ret
  exact ⟨rfl, rfl⟩
theorem RowsAt.put {base c : Nat} {A : Mat} {bs : List (Nat × Nat)} {W : World} {l : Nat} {o : Obj} (o' : Obj) (h : RowsAt base c A bs W) (hl : W.heap[l]? = some o) (ho : o.isCells = false) : RowsAt base c A bs (W.putObj l o') :=
  ⟨fun i hi => ownsRow_putObj (h.row i hi) o' hl ho, h.nod, fun b hb => Nat.lt_of_lt_of_le (h.lt b hb) (grownBy_putObj' W l o').size⟩
theorem appendRows_any {w : World} {B r c : Nat} {v : Value} {xs : List ByteArray} (A : Mat) (hk : Blk w B [.int .i64 r, .int .i64 (c + 1 : Nat), v] 128) (hv : Sl eS w v xs) (hx : xs = cellsF r (c + 1) A) (hr : r ≤ 16) (hc : c + 1 ≤ 16) :
    Calls Tryz.prog 125 #[.slice none 0 0, .func (.func 126) #[] #[.pointer (some ⟨B, 0, none⟩)]] w (Rets fun x w' => ∃ bs : List (Nat × Nat), (bs.length = r ∧ RowsAt w.heap.size (c + 1) A bs w') ∧ w'.ownsRow w.heap.size 126 1 x bs.length (bs.map fun b => .slice (some ⟨b.1, 0, none⟩) (c + 1) b.2) ∧ Below w.heap.size w w') :=
  callsIn_wide.1 (appendSeq_in (fun b : Nat × Nat => some ⟨b.1, 0, none⟩) (fun _ => c + 1) (fun b => b.2) (Gd := fun s _ W => s ≤ W.heap.size) (S := fun bs W => bs.length = r ∧ RowsAt w.heap.size (c + 1) A bs W) (N := r) (by omega) w _
    (fun n hn => rows1_seq A hk hv hx hr hc n hn) (fun _ _ _ h => h) (fun _ _ _ l _ o' h _ _ => Nat.le_trans h (grownBy_putObj' _ l o').size) (fun _ _ _ _ o' h hl ho => ⟨h.1, h.2.put o' hl ho⟩))
theorem appendRows0_any {w : World} {B r : Nat} {v : Value} (hk : Blk w B [.int .i64 r, .int .i64 0, v] 128) (hv : Sl eS w v []) (hr : r ≤ 16) :
    Calls Tryz.prog 125 #[.slice none 0 0, .func (.func 126) #[] #[.pointer (some ⟨B, 0, none⟩)]] w (Rets fun x w' => ∃ bs : List (Option Addr × Nat), bs.length = r ∧ w'.ownsRow w.heap.size 126 1 x bs.length (bs.map fun b => .slice b.1 0 b.2) ∧ Below w.heap.size w w') :=
  callsIn_wide.1 (appendSeq_in (fun b : Option Addr × Nat => b.1) (fun _ => 0) (fun b => b.2) (Gd := fun s _ W => s ≤ W.heap.size) (S := fun bs _ => bs.length = r) (N := r) (by omega) w _
    (fun n hn => rows0_seq hk hv hr n hn) (fun _ _ _ h => h) (fun _ _ _ l _ o' h _ _ => Nat.le_trans h (grownBy_putObj' _ l o').size) (fun _ _ _ _ _ h _ _ => h))
set_option maxHeartbeats 1000000 in
theorem collect_any {w : World} {B r c : Nat} {v : Value} {xs : List ByteArray} (A : Mat) (hk : Blk w B [.int .i64 r, .int .i64 (c + 1 : Nat), v] 128) (hv : Sl eS w v xs) (hx : xs = cellsF r (c + 1) A) (hr : r ≤ 16) (hc : c + 1 ≤ 16) :
    Calls Tryz.prog 114 #[.func (.func 126) #[] #[.pointer (some ⟨B, 0, none⟩)]] w (Rets fun x w' => ∃ bs : List (Nat × Nat), (bs.length = r ∧ RowsAt w.heap.size (c + 1) A bs w') ∧ w'.ownsRow w.heap.size 126 1 x bs.length (bs.map fun b => .slice (some ⟨b.1, 0, none⟩) (c + 1) b.2) ∧ Below w.heap.size w w') := by
  have H := Lib.hid (appendRows_any A hk hv hx hr hc)
  clear hk hv hx
  go_enter Tryz.func114, Tryz.ntmps114
  go_wp2_with (go_at_call 125; (with_reducible refine H.out.mono ?_); rintro e w1 ⟨x, rfl, bs, h1, h2, h3⟩; have H1 := Lib.hid h1; have H2 := Lib.hid h2; clear h1 h2)
  go_ret
  exact ⟨_, rfl, bs, H1.out, H2.out, h3⟩
set_option maxHeartbeats 1000000 in
theorem collect0_any {w : World} {B r : Nat} {v : Value} (hk : Blk w B [.int .i64 r, .int .i64 0, v] 128) (hv : Sl eS w v []) (hr : r ≤ 16) :
    Calls Tryz.prog 114 #[.func (.func 126) #[] #[.pointer (some ⟨B, 0, none⟩)]] w (Rets fun x w' => ∃ bs : List (Option Addr × Nat), bs.length = r ∧ w'.ownsRow w.heap.size 126 1 x bs.length (bs.map fun b => .slice b.1 0 b.2) ∧ Below w.heap.size w w') := by
  have H := Lib.hid (appendRows0_any hk hv hr)
  clear hk hv
  go_enter Tryz.func114, Tryz.ntmps114
  go_wp2_with (go_at_call 125; (with_reducible refine H.out.mono ?_); rintro e w1 ⟨x, rfl, bs, h1, h2, h3⟩; have H2 := Lib.hid h2; clear h2)
  go_ret
  exact ⟨_, rfl, bs, h1, H2.out, h3⟩
end Go.Proofs.YtlnhocgjgmhfgaaGreatDoor

namespace Go.Proofs.YtlnhocgjgmhfgaaGreatDoor
open Go.RowKit
set_option maxRecDepth 100000

section
variable {P : Program} {ops : Array Oper} {Q : Exit → Act → World → Prop} {md : Region.Mode} {n l : Nat}

def noDefer (ops : Array Oper) : Bool := ops.all fun o => match o.op with | .defer _ => false | _ => true
theorem noDefer_at {i : Nat} {o : Oper} (h : noDefer ops = true) (ho : ops[i]? = some o) : ∀ c, o.op ≠ .defer c := by
  intro c hc
  have h1 := Array.all_eq_true.1 h i (Array.getElem?_eq_some_iff.1 ho).1
  rw [(Array.getElem?_eq_some_iff.1 ho).2, hc] at h1
  cases h1
theorem rowsIn_wide {row : String} {args : Array Value} {w : World} {R : Value → World → Prop} (h : Rows P row args w R) : RowsIn (Fence.wide.inRound l) n P row args w R :=
  fun c cs _ => let ⟨v, w', r, s⟩ := h c cs; ⟨v, w', r, stepsIn_wide.2 s⟩
theorem operIn_of {o : Oper} {a : Act} {w : World} {K : Act → World → Prop} (hd : ∀ c, o.op ≠ .defer c) (h : o.wp P a w K Q) : o.wpIn (Fence.wide.inRound l) n P a w K Q := by
  unfold Oper.wp at h
  unfold Oper.wpIn
  refine ⟨fun _ _ => trivial, ?_⟩
  rw [Oper.semAt_eq _ _ _ hd]
  generalize (execOp a.eval o).run P w = r at *
  cases r with
  | ok x w' =>
    cases x <;> simp only [Oper.upon, Oper.uponIn] at h ⊢ <;>
      first
        | exact h
        | exact ⟨fun h => by simp [Fence.wide] at h, (callsIn_wide.2 h : CallsIn Fence.wide (n - 1) P _ _ _ _)⟩
        | exact ⟨fun h => by simp [Fence.wide] at h, rowsIn_wide h⟩
  | halt x w' => cases x <;> simp only [Oper.upon, Oper.uponIn] at h ⊢ <;> exact h
theorem opIn_of (hn : noDefer ops = true) (hL : ¬ LetsOut Q) {i : Nat} {K K' : Act → World → Prop} (hK : ∀ a w, K a w → K' a w) {a : Act} {w : World} (h : wpOp P ops Q i K a w) :
    wpOpIn (Fence.wide.inRound l) n P ops Q i K' a w := by
  unfold wpOp at h
  unfold wpOpIn
  split
  · rename_i hi; rw [hi] at h; exact hK _ _ h
  · rename_i o ho
    rw [ho] at h
    simp only at h
    split
    · rename_i hw
      rw [if_pos hw] at h
      rcases h with h | ⟨-, h⟩
      · exact operIn_of (noDefer_at hn ho) (Oper.wp_mono hK h)
      · exact absurd h hL
    · rename_i hw
      rw [if_neg hw] at h
      exact ⟨fun _ _ => trivial, hK _ _ h⟩
theorem anyIn_of (hn : noDefer ops = true) (hL : ¬ LetsOut Q) : ∀ (fuel : Nat) (listed : Array Bool) (a : Act) (w : World), wpAny P md ops Q fuel listed a w → wpAnyIn (Fence.wide.inRound l) n P md ops Q fuel listed a w
  | 0, _, _, _, h => h
  | fuel + 1, _, _, _, h => ⟨h.1, fun i hi => opIn_of hn hL (fun a w h' => anyIn_of hn hL fuel _ a w h') (h.2 i hi)⟩
theorem wpIn_region_plain {id : Nat} {a : Act} {w : World} (hm : P.follows .mixedOrders = true) (hn : noDefer ops = true) (hL : ¬ LetsOut Q)
    (h : wpAny P .any ops Q ops.size (Array.replicate ops.size false) a w.drew) : (Code.region id ops true).wpIn (Fence.wide.inRound l) n P Q a w :=
  wpIn_region_any hm (anyIn_of hn hL _ _ _ _ h)
end
end Go.Proofs.YtlnhocgjgmhfgaaGreatDoor
