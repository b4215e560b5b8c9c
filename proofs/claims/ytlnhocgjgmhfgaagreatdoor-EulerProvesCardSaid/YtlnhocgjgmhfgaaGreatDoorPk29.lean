/- The walk of matrix's column: one column of the elimination. A range over a function whose values lie in memory: what the iterator says of the world at each value and behind the last one goes through to the caller; the body never leaves the loop. The walks of the reference's Few and of the law's pair. The walks of abelian's order, divides and Check. The walks of slices.IndexFunc and slices.ContainsFunc, for the closures that they are handed; the law's few; the reference's Few of groups. The walk of the reference's division of digits. The walk of the reference's division of digits: the loops. -/
import Derived.Test.YtlnhocgjgmhfgaaGreatDoorPk28
import Derived.Test.YtlnhocgjgmhfgaaGreatDoorPk24
import Derived.Test.YtlnhocgjgmhfgaaGreatDoorPk26
import Derived.Test.YtlnhocgjgmhfgaaGreatDoorPk25
import Derived.Laws.AppendOwnNone
namespace Go.Proofs.YtlnhocgjgmhfgaaGreatDoor
open Go.RowKit
set_option maxRecDepth 100000

theorem bigD {z : Int} (h : dn z ≤ 1024) : big z = false := by
  rw [big_digs, decide_eq_false_iff_not]; unfold dn at h; omega
/-- Not too long for elimination. -/
def sml (z : Int) : Prop := dn z ≤ 400
theorem dn_fdiv (x y : Int) (h : y ≠ 0) : dn (Int.fdiv x y) ≤ max (dn x) (dn y) + 1 := by
  unfold dn
  exact Nat.le_trans (digs_len_mono _ (by omega) (fdiv_abs x y h)) (digs_len_add _ _ _ (by omega))
theorem redOk {a d b c l : Int} (ha : sml a) (hd : sml d) (hb : sml b) (hc : sml c) (hl : sml l) (h0 : l ≠ 0) : RedOk a d b c l := by
  unfold sml at *
  have h1 := dn_mul a d
  have h2 := dn_mul b c
  have h3 := dn_sub (a * d) (b * c)
  have h4 := dn_fdiv (a * d - b * c) l h0
  exact ⟨bigD (by omega), bigD (by omega), bigD (by omega), bigD (by omega), bigD (by omega), h0, bigD (by omega), bigD (by omega), bigD (by omega), bigD (by omega)⟩
def rowV (n : Nat) (b : Nat × Nat) : Value := .slice (some ⟨b.1, 0, none⟩) n b.2
def rowL (n : Nat) (M : Mat) (i : Nat) : List Value := (List.range n).map fun j => .string (txt (M i j))
theorem rowL_len (n : Nat) (M : Mat) (i : Nat) : (rowL n M i).length = n := by simp [rowL]
theorem rowL_get {n : Nat} (M : Mat) (i j : Nat) (h : j < n) : (rowL n M i)[j]? = some (.string (txt (M i j))) := by simp [rowL, h]
/-- One entry is set. -/
def upd (M : Mat) (i j : Nat) (z : Int) : Mat := fun x y => if x = i ∧ y = j then z else M x y
theorem rowL_upd (n : Nat) (M : Mat) (i j : Nat) (z : Int) : (rowL n M i).set j (.string (txt z)) = rowL n (upd M i j z) i := by
  refine List.ext_getElem (by simp [rowL]) fun y h1 h2 => ?_
  rw [List.getElem_set]
  simp only [rowL, List.getElem_map, List.getElem_range, upd, true_and]
  by_cases e : j = y
  · subst e; simp
  · rw [if_neg e, if_neg (fun h => e h.symm)]
theorem rowL_congr {n : Nat} {M M' : Mat} {i i' : Nat} (h : ∀ j, j < n → M i j = M' i' j) : rowL n M i = rowL n M' i' := by
  unfold rowL; exact List.map_congr_left fun j hj => by rw [h j (by simpa using hj)]
/-- The elimination's record g, its row of rows, the rows. -/
structure Grid (w0 : World) (w : World) (g : Nat) (rv : Value) (bs : List (Nat × Nat)) (m n : Nat) (s : Est) : Prop where
  box : Blk w g [rv, .string (txt s.last), .int .i64 (sgB s.neg), .int .i64 s.rank, .int .i64 0] 163
  rows : w.ownsRow w0.heap.size 126 1 rv m (bs.map (rowV n))
  row : ∀ i (h : i < bs.length), w.ownsRow w0.heap.size 74 1 (rowV n bs[i]) n (rowL n s.M i)
  nod : (bs.map Prod.fst).Nodup
  gB : w0.heap.size ≤ g
  bel : Below w0.heap.size w0 w
section
variable {w0 w : World} {g : Nat} {rv : Value} {bs : List (Nat × Nat)} {m n : Nat} {s : Est}
theorem Grid.len (h : Grid w0 w g rv bs m n s) : bs.length = m := by have := h.rows.1; simpa using this
theorem Grid.keep {w' : World} (h : Grid w0 w g rv bs m n s) (hb : Below w.heap.size w w') : Grid w0 w' g rv bs m n s :=
  ⟨h.box.below hb (Nat.le_refl _), own_below h.rows hb (Nat.le_refl _), fun i hi => own_below (h.row i hi) hb (Nat.le_refl _), h.nod, h.gB, h.bel.trans (hb.mono h.bel.size)⟩
theorem Grid.drew (h : Grid w0 w g rv bs m n s) : Grid w0 w.drew g rv bs m n s := h.keep (Below.refl _ _).drew
theorem Grid.drewN (h : Grid w0 w g rv bs m n s) (k : Nat) : Grid w0 (w.drewN k) g rv bs m n s := h.keep (below_drewN (Below.refl _ _) k)
theorem Grid.congr {M : Mat} (h : Grid w0 w g rv bs m n s) (hM : ∀ i j, i < m → j < n → s.M i j = M i j) : Grid w0 w g rv bs m n { s with M := M } :=
  ⟨h.box, h.rows, fun i hi => by
    have e : rowL n s.M i = rowL n M i := rowL_congr fun j hj => hM i j (by rw [← h.len]; exact hi) hj
    show w.ownsRow _ _ _ _ _ (rowL n M i)
    rw [← e]; exact h.row i hi, h.nod, h.gB, h.bel⟩
/-- The row of rows, opened. -/
theorem Grid.rb (h : Grid w0 w g rv bs m n s) (hm : 0 < m) : ∃ rb cap, rv = .slice (some ⟨rb, 0, none⟩) m cap ∧ m ≤ cap ∧ cap ≤ maxLen := by
  rcases h.rows.2 with ⟨-, e⟩ | ⟨rb, cap, cur, e, -, -, h1, h2, -⟩
  · omega
  · exact ⟨rb, cap, e, h1, h2⟩
theorem own_type {b e sz k c n : Nat} {te : TypeId} {ys : List Value} (h : w.ownsRow b te sz (.slice (some ⟨e, 0, none⟩) n c) k ys) : ∃ cur, w.heap[e]? = some (.cells cur te (0, 0)) := by
  rcases h.2 with ⟨e, _⟩ | ⟨g, cap, cur, e, _, hg, _⟩
  · cases e
  · cases e; exact ⟨cur, hg⟩
theorem Grid.ne_row (h : Grid w0 w g rv bs m n s) (i : Nat) (hi : i < bs.length) : bs[i].1 ≠ g := by
  obtain ⟨cur, hc⟩ := own_type (h.row i hi)
  intro e
  have hb := h.box
  unfold Blk at hb
  rw [e, hb] at hc
  injection hc with hc; injection hc with _ hc _; exact absurd hc (by decide)
theorem Grid.ne_rb {rb cap : Nat} (h : Grid w0 w g (.slice (some ⟨rb, 0, none⟩) m cap) bs m n s) : rb ≠ g := by
  obtain ⟨cur, hc⟩ := own_type h.rows
  intro e
  have hb := h.box
  unfold Blk at hb
  rw [e, hb] at hc
  injection hc with hc; injection hc with _ hc _; exact absurd hc (by decide)
theorem Grid.ne_rows {rb cap : Nat} (h : Grid w0 w g (.slice (some ⟨rb, 0, none⟩) m cap) bs m n s) (i : Nat) (hi : i < bs.length) : bs[i].1 ≠ rb := by
  obtain ⟨cur, hc⟩ := own_type (h.row i hi)
  obtain ⟨cur', hc'⟩ := own_type h.rows
  intro e
  rw [e, hc'] at hc
  injection hc with hc; injection hc with _ hc _; exact absurd hc (by decide)
theorem own_else {b sz k j n : Nat} {te : TypeId} {u v : Value} {ys : List Value} (h : w.ownsRow b te sz v n ys) (hne : ∀ o c, v ≠ .slice (some ⟨k, o, none⟩) n c) : (w.setCell ⟨k, j, none⟩ u).ownsRow b te sz v n ys :=
  ⟨h.1, h.2.imp_right fun ⟨g', cap, cur, h1, h2, h3, r⟩ => ⟨g', cap, cur, h1, h2, (Below.heap_setCell _ _ _ _ (show g' ≠ k from fun e => by subst e; exact hne _ _ h1)).trans h3, r⟩⟩
theorem nod_ne (hn : (bs.map Prod.fst).Nodup) {i j : Nat} (hi : i < bs.length) (hj : j < bs.length) (h : i ≠ j) : bs[i].1 ≠ bs[j].1 := by
  have hp := List.pairwise_iff_getElem.1 hn
  rcases Nat.lt_or_gt_of_ne h with h | h
  · have := hp i j (by simpa using hi) (by simpa using hj) h; simpa using this
  · have := hp j i (by simpa using hj) (by simpa using hi) h; exact fun e => this (by simpa using e.symm)
/-- An entry is written. -/
theorem Grid.put (h : Grid w0 w g rv bs m n s) (hm : 0 < m) (i j : Nat) (z : Int) (hi : i < bs.length) : Grid w0 (w.setCell ⟨bs[i].1, j, none⟩ (.string (txt z))) g rv bs m n { s with M := upd s.M i j z } := by
  obtain ⟨rb, cap, rfl, -, -⟩ := h.rb hm
  have h1 := h.ne_row i hi
  have h2 := h.ne_rows i hi
  have hB : w0.heap.size ≤ bs[i].1 := by
    rcases (h.row i hi).2 with ⟨e, _⟩ | ⟨g, cap, cur, e, hb, _⟩
    · cases e
    · simp only [rowV] at e; cases e; exact hb
  refine ⟨h.box.setCell (Ne.symm h1) _, own_else h.rows fun o c e => by cases e; exact h2 rfl, fun x hx => ?_, h.nod, h.gB, h.bel.setCell hB _⟩
  by_cases e : x = i
  · subst e
    have := ((h.row x hx).stored j (.string (txt z))).1
    rw [rowL_upd] at this
    exact this
  · have e2 : rowL n (upd s.M i j z) x = rowL n s.M x := rowL_congr fun y hy => by simp only [upd]; rw [if_neg (fun h => e h.1)]
    show (w.setCell _ _).ownsRow _ _ _ _ _ (rowL n (upd s.M i j z) x)
    rw [e2]
    exact own_else (h.row x hx) fun o c e3 => by
      have := congrArg Value.ownBlock e3
      simp only [rowV, Value.ownBlock, Option.some.injEq] at this
      exact nod_ne h.nod hx hi e this
/-- Two rows change their places. -/
theorem Grid.swap {rb cap : Nat} (h : Grid w0 w g (.slice (some ⟨rb, 0, none⟩) m cap) bs m n s) (t r : Nat) (ht : t < bs.length) (hr : r < bs.length) (hne : t ≠ r) :
    Grid w0 ((w.setCell ⟨rb, t, none⟩ (rowV n bs[r])).setCell ⟨rb, r, none⟩ (rowV n bs[t])) g (.slice (some ⟨rb, 0, none⟩) m cap) ((bs.set t bs[r]).set r bs[t]) m n { s with M := swr s.M t r } := by
  have h1 := h.ne_rb
  have hB : w0.heap.size ≤ rb := by
    rcases h.rows.2 with ⟨e, _⟩ | ⟨g, cap, cur, e, hb, _⟩
    · cases e
    · cases e; exact hb
  refine ⟨(h.box.setCell (Ne.symm h1) _).setCell (Ne.symm h1) _, ?_, fun x hx => ?_, ?_, h.gB, (h.bel.setCell hB _).setCell hB _⟩
  · have := (((h.rows.stored t (rowV n bs[r])).1).stored r (rowV n bs[t])).1
    simpa [List.map_set] using this
  · have hx' : x < bs.length := by simpa using hx
    have key : ∀ i (hi : i < bs.length), ((w.setCell ⟨rb, t, none⟩ (rowV n bs[r])).setCell ⟨rb, r, none⟩ (rowV n bs[t])).ownsRow w0.heap.size 74 1 (rowV n bs[i]) n (rowL n s.M i) := fun i hi =>
      own_else (own_else (h.row i hi) fun o c e => by simp only [rowV] at e; cases e; exact h.ne_rows i hi rfl) fun o c e => by simp only [rowV] at e; cases e; exact h.ne_rows i hi rfl
    show World.ownsRow _ _ _ _ _ _ (rowL n (swr s.M t r) x)
    by_cases e1 : x = r
    · subst e1
      have e3 : ((bs.set t bs[x]).set x bs[t])[x] = bs[t] := by simp
      have e4 : rowL n (swr s.M t x) x = rowL n s.M t := rowL_congr fun j _ => by simp [swr, Ne.symm hne]
      rw [e3, e4]; exact key t ht
    · by_cases e2 : x = t
      · subst e2
        have e3 : ((bs.set x bs[r]).set r bs[x])[x] = bs[r] := by rw [List.getElem_set_ne (Ne.symm hne)]; simp
        have e4 : rowL n (swr s.M x r) x = rowL n s.M r := rowL_congr fun j _ => by simp [swr]
        rw [e3, e4]; exact key r hr
      · have e3 : ((bs.set t bs[r]).set r bs[t])[x] = bs[x] := by rw [List.getElem_set_ne (Ne.symm e1), List.getElem_set_ne (Ne.symm e2)]
        have e4 : rowL n (swr s.M t r) x = rowL n s.M x := rowL_congr fun j _ => by simp only [swr]; rw [if_neg e2, if_neg e1]
        rw [e3, e4]; exact key x hx'
  · have hperm : (((bs.set t bs[r]).set r bs[t]).map Prod.fst).Perm (bs.map Prod.fst) := (List.set_set_perm ht hr).map Prod.fst
    exact hperm.nodup_iff.2 h.nod
/-- The record's numbers are written. -/
theorem Grid.recd (h : Grid w0 w g rv bs m n s) (s' : Est) (hM : s'.M = s.M) {w' : World} (hbox : Blk w' g [rv, .string (txt s'.last), .int .i64 (sgB s'.neg), .int .i64 s'.rank, .int .i64 0] 163)
    (hw : ∀ b, b ≠ g → w'.heap[b]? = w.heap[b]?) (hb : Below w0.heap.size w0 w') : Grid w0 w' g rv bs m n s' := by
  have own : ∀ {b sz k : Nat} {te : TypeId} {v : Value} {ys : List Value}, te ≠ 163 → w.ownsRow b te sz v k ys → w'.ownsRow b te sz v k ys := by
    intro b sz k te v ys hte ho
    refine ⟨ho.1, ho.2.imp_right fun ⟨g', cap, cur, h1, h2, h3, r⟩ => ⟨g', cap, cur, h1, h2, ?_, r⟩⟩
    rw [hw g' ?_]; exact h3
    intro e; subst e
    have hx := h.box
    unfold Blk at hx
    rw [hx] at h3
    injection h3 with h3; injection h3 with _ h3 _; exact hte h3.symm
  exact ⟨hbox, own (by decide) h.rows, fun i hi => by rw [hM]; exact own (by decide) (h.row i hi), h.nod, h.gB, hb⟩
end
theorem Grid.cells {w0 w : World} {g rb cap : Nat} {bs : List (Nat × Nat)} {m n : Nat} {s : Est} (h : Grid w0 w g (.slice (some ⟨rb, 0, none⟩) m cap) bs m n s) (i : Nat) (hi : i < bs.length) :
    (w.cell? ⟨rb, i, none⟩ = some (.slice (some ⟨bs[i].1, 0, none⟩) n bs[i].2) ∧ w.frozen? ⟨rb, i, none⟩ = false) ∧ ∀ j, j < n → w.cell? ⟨bs[i].1, j, none⟩ = some (.string (txt (s.M i j))) ∧ w.frozen? ⟨bs[i].1, j, none⟩ = false := by
  refine ⟨?_, fun j hj => ?_⟩
  · obtain ⟨u, h1, h2, h3⟩ := own_at h.rows (show i < m by rw [← h.len]; exact hi)
    simp only [List.getElem?_map, List.getElem?_eq_getElem hi, Option.map_some, Option.some.injEq] at h1
    rw [h2, ← h1]; exact ⟨rfl, h3⟩
  · obtain ⟨u, h1, h2, h3⟩ := own_at (h.row i hi) hj
    rw [rowL_get _ _ _ hj] at h1
    rw [h2, ← h1]; exact ⟨rfl, h3⟩
theorem Grid.cellsE {w0 w : World} {g rb cap : Nat} {bs : List (Nat × Nat)} {m n : Nat} {s : Est} (h : Grid w0 w g (.slice (some ⟨rb, 0, none⟩) m cap) bs m n s) (i : Nat) (hi : i < m) : ∃ b c, bs[i]? = some (b, c) ∧
    w.cell? ⟨rb, i, none⟩ = some (.slice (some ⟨b, 0, none⟩) n c) ∧ w.frozen? ⟨rb, i, none⟩ = false ∧ ∀ j, j < n → w.cell? ⟨b, j, none⟩ = some (.string (txt (s.M i j))) ∧ w.frozen? ⟨b, j, none⟩ = false := by
  have hi' : i < bs.length := by rw [h.len]; exact hi
  obtain ⟨⟨h1, h2⟩, h3⟩ := h.cells i hi'
  exact ⟨bs[i].1, bs[i].2, List.getElem?_eq_getElem hi', h1, h2, h3⟩
theorem Grid.putE {w0 w : World} {g : Nat} {rv : Value} {bs : List (Nat × Nat)} {m n : Nat} {s : Est} (h : Grid w0 w g rv bs m n s) (hm : 0 < m) {i b c : Nat} (j : Nat) (z : Int) (hb : bs[i]? = some (b, c)) : Grid w0 (w.setCell ⟨b, j, none⟩ (.string (txt z))) g rv bs m n { s with M := upd s.M i j z } := by
  obtain ⟨hi, e⟩ := List.getElem?_eq_some_iff.1 hb
  have := h.put hm i j z hi
  rwa [e] at this
theorem Grid.swapE {w0 w : World} {g rb cap : Nat} {bs : List (Nat × Nat)} {m n : Nat} {s : Est} (h : Grid w0 w g (.slice (some ⟨rb, 0, none⟩) m cap) bs m n s) {t r bt ct br cr : Nat} (ht : bs[t]? = some (bt, ct)) (hr : bs[r]? = some (br, cr)) (hne : t ≠ r) :
    Grid w0 ((w.setCell ⟨rb, t, none⟩ (.slice (some ⟨br, 0, none⟩) n cr)).setCell ⟨rb, r, none⟩ (.slice (some ⟨bt, 0, none⟩) n ct)) g (.slice (some ⟨rb, 0, none⟩) m cap) ((bs.set t (br, cr)).set r (bt, ct)) m n { s with M := swr s.M t r } := by
  obtain ⟨h1, e1⟩ := List.getElem?_eq_some_iff.1 ht
  obtain ⟨h2, e2⟩ := List.getElem?_eq_some_iff.1 hr
  have := h.swap t r h1 h2 hne
  rwa [e1, e2] at this
theorem ftop_eq {M : Mat} {k m : Nat} : ∀ (d r t : Nat), r + d = t → t ≤ m → (∀ i, r ≤ i → i < t → M i k = 0) → (t < m → M t k ≠ 0) → ftop M k m r = t
  | 0, r, t, h, ht, _, hn => by
    obtain rfl : r = t := by omega
    rw [ftop]
    by_cases e : r < m
    · rw [if_pos e, if_neg (hn e)]
    · rw [if_neg e]; omega
  | d + 1, r, t, h, ht, hz, hn => by
    rw [ftop, if_pos (by omega), if_pos (hz r (Nat.le_refl _) (by omega))]
    exact ftop_eq d (r + 1) t (by omega) ht (fun i h1 h2 => hz i (by omega) h2) hn
theorem col_stop {m k : Nat} {s : Est} (h : ftop s.M k m s.rank = m) : s.col m k = s := by unfold Est.col; simp only [h, if_true]
theorem col_go {m k t : Nat} {s : Est} (h : ftop s.M k m s.rank = t) (ht : t < m) : s.col m k = ⟨below s.rank k s.last (swr s.M t s.rank), swr s.M t s.rank s.rank k, if t = s.rank then s.neg else !s.neg, s.rank + 1⟩ := by
  unfold Est.col; simp only [h]; rw [if_neg (by omega)]
/-- T up to the place i, j, and M from there on. -/
def part (T M : Mat) (i j : Nat) : Mat := fun x y => if x < i ∨ (x = i ∧ y < j) then T x y else M x y
theorem part_upd (T M : Mat) (i j : Nat) : ∀ x y, upd (part T M i j) i j (T i j) x y = part T M i (j + 1) x y := by
  intro x y
  unfold upd part
  by_cases h : x = i ∧ y = j
  · obtain ⟨rfl, rfl⟩ := h; rw [if_pos ⟨rfl, rfl⟩, if_pos (by omega)]
  · rw [if_neg h]
    by_cases h2 : x < i ∨ (x = i ∧ y < j)
    · rw [if_pos h2, if_pos (by omega)]
    · rw [if_neg h2, if_neg (by omega)]
theorem part_row {T M : Mat} {i n : Nat} : ∀ x y, y < n → part T M i n x y = part T M (i + 1) 0 x y := by
  intro x y hy
  unfold part
  by_cases h : x < i ∨ (x = i ∧ y < n)
  · rw [if_pos h, if_pos (by omega)]
  · rw [if_neg h, if_neg (by omega)]
theorem part_start (r k : Nat) (d : Int) (M : Mat) : ∀ x y, part (below r k d M) M (r + 1) 0 x y = M x y := by
  intro x y
  unfold part below
  by_cases h : x < r + 1 ∨ (x = r + 1 ∧ y < 0)
  · rw [if_pos h, if_neg (by omega)]
  · rw [if_neg h]
theorem part_end {T M : Mat} {m : Nat} : ∀ x y, x < m → part T M m 0 x y = T x y := by
  intro x y hx; unfold part; rw [if_pos (.inl hx)]
theorem part_old {T M : Mat} {i j x y : Nat} (h : i ≤ x) (h2 : x = i → j ≤ y) : part T M i j x y = M x y := by
  unfold part; rw [if_neg (by omega)]
theorem part_piv {r k i j y : Nat} {d : Int} {M : Mat} (h : r < i) : part (below r k d M) M i j r y = M r y := by
  unfold part below
  rw [if_pos (.inl h), if_neg (by omega)]
theorem swr_sml {M : Mat} {t r m n : Nat} (ht : r ≤ t) (htm : t < m) (h : ∀ i j, r ≤ i → i < m → j < n → sml (M i j)) : ∀ i j, r ≤ i → i < m → j < n → sml (swr M t r i j) := by
  intro i j h1 h2 h3
  unfold swr
  by_cases e1 : i = t
  · rw [if_pos e1]; exact h r j (Nat.le_refl _) (by omega) h3
  · rw [if_neg e1]
    by_cases e2 : i = r
    · rw [if_pos e2]; exact h t j ht htm h3
    · rw [if_neg e2]; exact h i j h1 h2 h3
theorem neg_sgB (b : Bool) : -sgB b = sgB (!b) := by cases b <;> rfl
/-- The sign turns. -/
theorem Grid.flip {w0 w : World} {g : Nat} {rv : Value} {bs : List (Nat × Nat)} {m n : Nat} {s : Est} (h : Grid w0 w g rv bs m n s) : Grid w0 (w.setCell ⟨g, 2, none⟩ (.int .i64 (-sgB s.neg))) g rv bs m n { s with neg := !s.neg } := by
  refine h.recd { s with neg := !s.neg } rfl ?_ (fun b hb => Below.heap_setCell _ _ _ _ hb) (h.bel.setCell (p := ⟨g, 2, none⟩) h.gB _)
  have := h.box.set 2 (.int .i64 (-sgB s.neg))
  simpa [neg_sgB] using this
/-- The pivot becomes the last one, the rank grows. -/
theorem Grid.bump {w0 w : World} {g : Nat} {rv : Value} {bs : List (Nat × Nat)} {m n : Nat} {s : Est} (h : Grid w0 w g rv bs m n s) (l : Int) : Grid w0 ((w.setCell ⟨g, 1, none⟩ (.string (txt l))).setCell ⟨g, 3, none⟩ (.int .i64 ((s.rank : Int) + 1))) g rv bs m n { s with last := l, rank := s.rank + 1 } := by
  refine h.recd { s with last := l, rank := s.rank + 1 } rfl ?_ (fun b hb => (Below.heap_setCell _ _ _ _ hb).trans (Below.heap_setCell _ _ _ _ hb)) ((h.bel.setCell (p := ⟨g, 1, none⟩) h.gB _).setCell (p := ⟨g, 3, none⟩) h.gB _)
  have := (h.box.set 1 (.string (txt l))).set 3 (.int .i64 ((s.rank : Int) + 1))
  simpa using this
end Go.Proofs.YtlnhocgjgmhfgaaGreatDoor

namespace Go.Proofs.YtlnhocgjgmhfgaaGreatDoor
open Go.RowKit Go.Shelf
set_option maxRecDepth 100000

/-- The iterator g hands out values x of which Gd holds when they come; behind the last one S holds of all of them. Between two rounds it wants Kp. It may write the block that it makes first. -/
def SeqG {α : Type} (F : Fence) (n : Nat) (P : Program) (g : Nat) (lb : Array Value) (encs : α → Array Value) (Kp : World → World → Prop) (Gd : Nat → α → World → Prop) (S : List α → World → Prop) (N : Nat) (w : World) : Prop :=
  ∀ (l : Nat) (J : List α → World → Prop) (W : World), Below w.heap.size w W → AbidesFrom W.heap.size J →
    (∀ pre W1 u j, J pre W1 → J pre (W1.setCell ⟨W.heap.size, j, none⟩ u)) →
    (∀ pre x W1, J pre W1 → Gd W.heap.size x W1 → pre.length < N → YieldAt F (n - 1) P l (encs x) W1 fun e W' => e = .returned (.bool true) ∧ J (pre ++ [x]) W' ∧ Kp W1 W') →
    J [] W →
    CallsIn F n P g (#[.func (.yield l) #[] #[]] ++ lb) W fun e W' => (∃ v, e = .returned v) ∧ ∃ xs, S xs W' ∧ J xs W'

/-- How a round's body ends. -/
def postG {α : Type} (Kp : World → World → Prop) (I : List α → World → Prop) (xs : List α) (W : World) : Exit → Act → World → Prop
  | .normal, _, W' => KeepsOthers W W' ∧ Kp W W' ∧ I xs W'
  | _, _, _ => False

section
variable {F : Fence} {n : Nat} {P : Program}
theorem setCell_other {w : World} {b j k : Nat} {u : Value} {o : Obj} (h : w.heap[k]? = some o) (ho : o.isCells = false) : (w.setCell ⟨b, j, none⟩ u).heap[k]? = some o :=
  (KeepsOthers.setCell w ⟨b, j, none⟩ u).same k o h ho
/-- The rule. -/
theorem wpIn_rangeG {α : Type} {g : Operand} {ps : Array Tmp} {assign body : Code} {Q : Exit → Act → World → Prop} {a : Act} {w : World}
    (hro : F.round = none) (h1 : 1 ≤ n) {gf : Nat} {lb : Array Value} (hg : a.eval g = .func (.func gf) #[] lb) (hFg : F.fn gf) (eg : ∀ args w, (callFunc gf args).run P w = .ok (.enter gf args) w)
    {encs : α → Array Value} {Kp : World → World → Prop} {Gd : Nat → α → World → Prop} {S : List α → World → Prop} {N : Nat} {w0 : World} (hseq : SeqG F (n - 1) P gf lb encs Kp Gd S N w0)
    (hKt : ∀ {A B C : World}, Kp A B → Kp B C → Kp A C) (hKb : ∀ (W : World) (l : Nat) (o o' : Obj), w.heap.size ≤ l → W.heap[l]? = some o → o.isCells = false → Kp W (W.putObj l o'))
    (hGb : ∀ s x (W : World) (l : Nat) (o o' : Obj), Gd s x W → W.heap[l]? = some o → o.isCells = false → Gd s x (W.putObj l o')) (hSb : ∀ xs (W : World) (l : Nat) (o o' : Obj), S xs W → W.heap[l]? = some o → o.isCells = false → S xs (W.putObj l o'))
    (hb0 : Below w0.heap.size w0 w) (hps : ∀ x, (encs x).size = ps.size)
    (I : List α → World → Prop) (hI : OwnFrom w.heap.size I) (hIc : ∀ pre W1 u j, I pre W1 → I pre (W1.setCell ⟨w.heap.size + 2, j, none⟩ u)) (h0 : I [] w) (a₁ : α → Act)
    (hassign : ∀ (l : Nat) (x : α) (W : World) (K : Act → World → Prop), K (a₁ x) W →
      assign.wpIn (F.inRound l) (n - 1 - 1) P (Exit.then K (fun _ _ _ => False)) { tmps := (ps.zip (encs x)).foldl (fun t (p, v) => t.setIfInBounds p v) a.tmps, defers := [] } W)
    (hbody : ∀ (l : Nat) (pre : List α) (x : α) (W : World), I pre W → Gd (w.heap.size + 2) x W → pre.length < N → body.wpIn (F.inRound l) (n - 1 - 1) P (postG Kp I (pre ++ [x]) W) (a₁ x) W)
    (hdone : ∀ (D : Nat) (xs : List α) (W : World), w.heap.size ≤ D → S xs W → I xs W → W.heap[D]? = some (.deferred (some [])) → Q .normal { a with defers := { target := .collected D, args := #[] } :: a.defers } W) :
    (Code.rangeFunc g ps assign body).wpIn F n P Q a w := by
  refine wpIn_rangeFunc fun fn hfn => ?_
  rw [hro]
  -- the two blocks that the loop makes: the rounds' deferred calls, and its own record
  let rec' : LoopState → Loop := fun st => { state := st, pending := none, fn, tmps := a.tmps, params := ps, assign, body, defers := w.heap.size }
  obtain ⟨d, hd⟩ : ∃ d, w.heap.size = d := ⟨_, rfl⟩
  obtain ⟨W1, hW1⟩ : ∃ W1, (w.alloc (.deferred (some []))).alloc (.loop (rec' .ready)) = W1 := ⟨_, rfl⟩
  have hs1 : W1.heap.size = d + 2 := by rw [← hW1, ← hd]; simp
  have hL1 : W1.heap[d + 1]? = some (.loop (rec' .ready)) := by
    rw [← hW1, ← hd]; have := World.alloc_heap_new (w.alloc (.deferred (some []))) (.loop (rec' .ready)); rwa [World.size_alloc] at this
  have hD1 : W1.heap[d]? = some (.deferred (some [])) := by
    rw [← hW1, ← hd]; exact (Below.heap_alloc _ _ _ (by simp)).trans (World.alloc_heap_new w _)
  have hb1 : Below w0.heap.size w0 W1 := by
    rw [← hW1]; exact (hb0.alloc hb0.size _).alloc (by have := hb0.size; simp; omega) _
  refine ⟨d + 1, [{ target := .collected d, args := #[] }], W1, { target := .fn (.func gf) lb, args := #[.func (.yield (d + 1)) #[] #[]] }, W1, gf, #[.func (.yield (d + 1)) #[] #[]] ++ lb, W1, ?_, ?_, ?_, ?_, fun _ => h1, ?_⟩
  · rw [← hW1, ← hd]; exact run_enterLoop_outer _ _ _ _ _
  · simp only [resolve, hg]; simp [go_sem]
  · intro f' hf'; simp [Target.leads] at hf'; subst hf'; exact hFg
  · simp [invoke, go_sem, eg]
  · -- the iterator's word, the caller's invariant and the loop's two blocks
    refine (hseq (d + 1) (fun pre W => I pre W ∧ W.heap[d + 1]? = some (.loop (rec' .ready)) ∧ W.heap[d]? = some (.deferred (some []))) W1 hb1 ?_ ?_ ?_ ?_).mono ?_
    · intro s A B row hs hgr hrow
      refine ⟨hI s A B row hs.1 hgr fun r e => ?_, (grownBy_keeps hgr (fun r e => (hrow r e).2) hs.2.1 rfl).trans hs.2.1, (grownBy_keeps hgr (fun r e => (hrow r e).2) hs.2.2 rfl).trans hs.2.2⟩
      obtain ⟨hB, o, ho, hw⟩ := hrow r e
      exact ⟨by omega, o, ho, Obj.not_cells_of_walk hw⟩
    · intro pre W u j hs
      rw [hs1]
      refine ⟨?_, setCell_other hs.2.1 rfl, setCell_other hs.2.2 rfl⟩
      have := hIc pre W u j hs.1
      rwa [hd] at this
    · -- a round
      rintro pre x W ⟨hi, hl, hk⟩ hgd hlen
      have hlt : d + 1 < W.heap.size := (Array.getElem?_eq_some_iff.1 hl).1
      have hy := run_yield (P := P) (args := encs x) hl (hps x)
      refine ⟨fn, _, assign, body, hy, roundIn_of_wpIn hfn (hassign _ x W _ ⟨_, run_beginRound hl rfl, ?_⟩)⟩
      obtain ⟨W2, hW2⟩ : ∃ W2, W.putObj (d + 1) (.loop { rec' .ready with state := .busy }) = W2 := ⟨_, rfl⟩
      have hl2 : W2.heap[d + 1]? = some (.loop { rec' .ready with state := .busy }) := by rw [← hW2]; exact World.putObj_heap_same hlt
      have hk2 : W2.heap[d]? = some (.deferred (some [])) := by rw [← hW2]; exact (World.putObj_heap_other (by omega)).trans hk
      have hK2 : Kp W W2 := by rw [← hW2]; exact hKb _ _ _ _ (by omega) hl rfl
      have hi2 : I pre W2 := by rw [← hW2]; exact hI.putObj _ hi (by omega) hl rfl
      have hg2 : Gd (w.heap.size + 2) x W2 := by rw [← hW2]; refine hGb _ _ _ _ _ _ ?_ hl rfl; rw [hd, ← hs1]; exact hgd
      show body.wpIn _ _ _ _ _ (W.putObj (d + 1) (.loop { rec' .ready with state := .busy }))
      rw [hW2]
      refine wpIn_mono (hbody _ pre x W2 hi2 hg2 hlen) ?_
      rintro e a3 W3 hp
      cases e with
      | normal =>
        obtain ⟨hko, hkp, hi3⟩ := hp
        have hl3 := hko.same _ _ hl2 rfl
        have hk3 := hko.same _ _ hk2 rfl
        have hr := run_endRound (P := P) none hl3
        exact ⟨_, _, hr, rfl, ⟨hI.putObj _ hi3 (by omega) hl3 rfl, World.putObj_heap_same (Array.getElem?_eq_some_iff.1 hl3).1, (World.putObj_heap_other (by omega)).trans hk3⟩, hKt (hKt hK2 hkp) (hKb _ _ _ _ (by omega) hl3 rfl)⟩
      | ret => exact hp.elim
      | exit id => exact hp.elim
      | goto t => exact hp.elim
      | panic ch => exact hp.elim
      | outgrown => exact hp.elim
    · refine ⟨?_, hL1, hD1⟩
      rw [← hW1]; exact hI.alloc _ (hI.alloc _ h0)
    · rintro e W2 ⟨⟨v, rfl⟩, xs, hS, hi, hl, hk⟩
      refine ⟨none, _, run_endLoop (P := P) hl (by simp [rec']), ?_⟩
      exact hdone d xs _ (by omega) (hSb _ _ _ _ _ hS hl rfl) (hI.putObj _ hi (by omega) hl rfl) ((World.putObj_heap_other (by omega)).trans hk)
end
/-- 'make([]T, n)' inside a fence, one cell an element. -/
theorem mkNI {F : Fence} {n1 : Nat} {P : Program} {t e : TypeId} {z : Value} {bytes : Nat} {ops : Array Oper} {rest : List Oper} {o : Oper} {a : Act} {Q : Exit → Act → World → Prop} (hE : ElemOk P t e z 1 bytes) (hgd : o.guard = none) (l c : Operand) (ho : o.op = Op.makeSlice t l c) {w : World} (n : Nat) {kl kc : IntKind} {L C : Int}
    (hl : a.eval l = .int kl L) (hc : a.eval c = .int kc C) (hL : L = (n : Int)) (hC : C = (n : Int)) (hn : bytes * n ≤ 281474976710656) (hn' : n ≤ maxLen) (hz1 : z.cells = #[z])
    (h : ∀ w', w'.ownsRow w.heap.size e 1 (.slice (some ⟨w.heap.size, 0, none⟩) n n) n (List.replicate n z) → w.grownBy w' none → wpListIn F n1 P ops Q rest (a.put o.dst (.slice (some ⟨w.heap.size, 0, none⟩) n n)) w') :
    wpListIn F n1 P ops Q (o :: rest) a w := by
  obtain ⟨i, hi, hz, hsz, hby⟩ := hE.info
  refine wpListIn_plain hgd fun K hK' => ?_
  obtain ⟨w', hrun, r1, r2⟩ := run_make_full (P := P) w w.heap.size t e i z 1 hE.und hi hz hsz kl kc n (by rw [hby]; exact hn) hn' (Nat.le_refl _)
  subst hL
  subst hC
  unfold Oper.wpIn
  refine ⟨?_, ?_⟩
  · simp [Oper.about, ho]
  · rw [Oper.semAt_plain F _ _ (by rw [ho]; intro c hc'; cases hc')]
    simp [execOp, ho, hl, hc, hrun, Result.andThen]
    refine hK' _ _ (h w' (ownsRow_cast r1 rfl ?_) r2)
    rw [hz1, Nat.mul_one]
    apply List.ext_getElem <;> simp [madeCells, Nat.mod_one]
end Go.Proofs.YtlnhocgjgmhfgaaGreatDoor

namespace Go.Proofs.YtlnhocgjgmhfgaaGreatDoor
open Go.RowKit
set_option maxRecDepth 100000

/-- Is a text short, or at fault and not too long? -/
def few (s : ByteArray) : Bool := decide (s.size ≤ 60) || (decide (s.size ≤ 2048) && (chk s.data.toList == 3))
theorem few_size {s : ByteArray} (h : few s = true) : s.size ≤ 2048 := by
  simp [few] at h; omega

end Go.Proofs.YtlnhocgjgmhfgaaGreatDoor

namespace Go.Proofs.YtlnhocgjgmhfgaaGreatDoor
open Go.RowKit
set_option maxRecDepth 100000

theorem g2' : Good ⟨#[50]⟩ 2 := good_lit (by decide) (by decide)
theorem fmod_small {x y : Int} (h : x ≠ 0) (hx : big x = false) : big (Int.fmod y x) = false :=
  (big_iff _).2 (Nat.lt_trans (fmod_abs y x h) ((big_iff _).1 hx))
theorem before_succ (xs : List ByteArray) (k : Nat) (h : k < xs.length) : before xs (k + 1) = some xs[k] := by simp [before, h]
/-- What the check of a group holds at its k-th number. -/
structure At (xs : List ByteArray) (k : Nat) : Prop where
  le : k ≤ xs.length
  eq : gchk xs = gstep (before xs k) (xs.drop k)
  prev : ∀ h : 0 < k, ∃ z, Good (xs[k - 1]'(by omega)) z ∧ 2 ≤ z
theorem At.start {xs : List ByteArray} (h : xs.length ≤ 16) : At xs 0 := ⟨Nat.zero_le _, by unfold gchk; rw [if_neg (by omega)]; rfl, fun h => absurd h (by omega)⟩
theorem At.next {xs : List ByteArray} {k : Nat} (h : At xs k) (hk : k < xs.length) (h0 : chk xs[k].data.toList = 0) (h2 : ¬ num xs[k] < 2) (hf : fits (before xs k) xs[k] = true) : At xs (k + 1) :=
  ⟨hk, by rw [h.eq, List.drop_eq_getElem_cons hk, gstep, if_pos h0, if_neg h2, if_pos hf, before_succ xs k hk], fun _ => ⟨num xs[k], by simpa using good_num h0, by omega⟩⟩
theorem At.val {xs : List ByteArray} {k : Nat} (h : At xs k) (hk : k < xs.length) : gchk xs = if chk xs[k].data.toList = 0 then (if num xs[k] < 2 then 2 else if fits (before xs k) xs[k] then gstep (some xs[k]) (xs.drop (k + 1)) else 9) else chk xs[k].data.toList := by
  rw [h.eq, List.drop_eq_getElem_cons hk, gstep]
theorem At.done {xs : List ByteArray} (h : At xs xs.length) : gchk xs = 0 := by rw [h.eq, List.drop_length]; cases before xs xs.length <;> rfl

end Go.Proofs.YtlnhocgjgmhfgaaGreatDoor

namespace Go.Proofs.YtlnhocgjgmhfgaaGreatDoor
open Go.RowKit
set_option maxRecDepth 100000

/-- Is it the text of 1? -/
def isOne (s : ByteArray) : Bool := s.toList == [49]
theorem first_hit (p : ByteArray → Bool) : ∀ (xs : List ByteArray), xs.any p = true → ∃ m, ∃ h : m < xs.length, p xs[m] = true ∧ ∀ j (hj : j < m), p (xs[j]'(by omega)) = false
  | [], h => by simp at h
  | x :: l, h => by
    by_cases hx : p x = true
    · exact ⟨0, by simp, hx, fun j hj => absurd hj (by omega)⟩
    · obtain ⟨m, hm, h1, h2⟩ := first_hit p l (by simpa [hx] using h)
      refine ⟨m + 1, by simpa using hm, by simpa using h1, fun j hj => ?_⟩
      cases j with
      | zero => simpa using hx
      | succ j => simpa using h2 j (by omega)
/-- Has a list more than 20 texts, or a long one? -/
def bad (xs : List ByteArray) : Bool := decide (20 < xs.length) || xs.any fun s => !few s
/-- Is a group's number short, or at fault? -/
def ok05 (s : ByteArray) : Bool := decide (s.size ≤ 30) || (decide (s.size < 2048) && (chk s.data.toList != 0))
def few05 (xs : List ByteArray) : Bool := (xs.take 20).all ok05 && (decide (xs.length ≤ 8) || (decide (16 < xs.length) && decide (xs.length < 1000)))
theorem few05_step (xs : List ByteArray) (k : Nat) (h : k < xs.length) (h20 : k < 20) (ho : ok05 xs[k] = true) : ((xs.take 20).drop k).all ok05 = ((xs.take 20).drop (k + 1)).all ok05 := by
  have hk : k < (xs.take 20).length := by simp; omega
  rw [List.drop_eq_getElem_cons hk, List.all_cons, List.getElem_take, ho, Bool.true_and]
theorem few05_bad (xs : List ByteArray) (k : Nat) (h : k < xs.length) (h20 : k < 20) (ho : ok05 xs[k] = false) : few05 xs = false := by
  have hk : k < (xs.take 20).length := by simp; omega
  have : (xs.take 20).all ok05 = false := by
    rw [List.all_eq_false]
    exact ⟨xs[k], by rw [← List.getElem_take (h := hk)]; exact List.getElem_mem hk, by simp [ho]⟩
  simp [few05, this]
end Go.Proofs.YtlnhocgjgmhfgaaGreatDoor

namespace Go.Proofs.YtlnhocgjgmhfgaaGreatDoor
open Go.RowKit
set_option maxRecDepth 100000

/-- The slice's block is not below B. -/
def From (B : Nat) (v : Value) : Prop := ∀ b o p n c, v = .slice (some ⟨b, o, p⟩) n c → B ≤ b
theorem From.mono {B B' : Nat} {v : Value} (h : From B' v) (hb : B ≤ B') : From B v := fun b o p n c e => Nat.le_trans hb (h b o p n c e)
theorem From.none {B n c : Nat} : From B (.slice none n c) := fun b o p n c e => by cases e
theorem From.len {B n c : Nat} {a : Option Addr} (h : From B (.slice a n c)) (n' c' : Nat) : From B (.slice a n' c') := fun b o p n c e => by cases e; exact h b o p _ _ rfl
theorem From.ofOwns {w : World} {base e sz n : Nat} {v : Value} {xs : List Value} (h : w.ownsRow base e sz v n xs) : From base v := by
  rcases h.2 with ⟨rfl, _⟩ | ⟨g, cap, cur, rfl, hg, _⟩
  · exact From.none
  · intro b o p n c e; cases e; exact hg
theorem Sl.setFrom {w : World} {v : Value} {xs : List Nat} {B g k : Nat} {u : Value} (h : Sl eI w v xs) (hf : From B v) (hg : g < B) : Sl eI (w.setCell ⟨g, k, none⟩ u) v xs := by
  obtain ⟨a, b, o, c, rfl, ha, hc, hm, hn, hx⟩ := h
  refine ⟨a, b, o, c, rfl, ha, hc, hm, hn, fun h => by have := hx.1 h; simpa [World.setCell] using this, fun i hi => ?_⟩
  have hb : B ≤ b := hf b o Option.none _ _ (by rw [ha (by omega)])
  rw [← hx.2 i hi]
  exact World.cell?_of_block (w := w) (Below.heap_setCell _ _ _ _ (show b ≠ g by omega))

section
variable {P : Program} {t e : TypeId} {z : Value} {bytes : Nat} {ops : Array Oper} {rest : List Oper} {o : Oper} {a : Act} {Q : Exit → Act → World → Prop}
/-- 'append([]T{u}, xs...)'. -/
theorem appS {α : Type} {enc : α → Value} (hE : ElemOk P t e z 1 bytes) (hgd : o.guard = none) (s x : Operand) (ho : o.op = .call { callee := .builtin .append, args := #[s, x], argTypes := #[t, t] })
    {u v : Value} {xs : List α} {B : Nat} {w0 W : World} (hs : a.eval s = .slice (some ⟨w0.heap.size, 0, none⟩) 1 1) (hx : a.eval x = v) (hv : Sl enc w0 v xs) (hb : Below B W w0) (hB : B ≤ w0.heap.size)
    (h2 : ∀ y, (enc y).oneCell' = true) (hn : (1 + xs.length) * bytes ≤ 140737488355328) (hn' : 1 + xs.length ≤ maxLen)
    (h : ∀ v' w', w'.ownsRow w0.heap.size e 1 v' (1 + xs.length) (u :: xs.map enc) → Below B W w' → wpList P ops Q rest (a.put o.dst v') w') :
    wpList P ops Q (o :: rest) a (w0.alloc (.cells #[u] e)) := by
  obtain ⟨i, hi, hz, hsz, hby⟩ := hE.info
  have hown : (w0.alloc (.cells #[u] e)).ownsRow w0.heap.size e 1 (.slice (some ⟨w0.heap.size, 0, none⟩) 1 1) 1 [u] := ⟨rfl, .inr ⟨w0.heap.size, 1, #[u], rfl, by omega, heap_alloc_new w0 _, by omega, by simp [maxLen], rfl, rfl⟩⟩
  have hv := hv.below ((Below.refl _ w0).alloc (Nat.le_refl _) (.cells #[u] e)) (Nat.le_refl _)
  obtain ⟨ad, b, off, c, rfl, ha, hc, hm, hnn, hcell⟩ := hv
  cases ad with
  | none =>
    have hc0 := hnn rfl
    have hl0 : xs.length = 0 := by omega
    obtain rfl : xs = [] := List.length_eq_zero_iff.1 hl0
    subst hc0
    refine wpList_append_own_none hgd s x t ho w0.heap.size e i 1 hE.und hi _ 1 [u] hs hown hx ?_
    exact h _ _ hown (hb.alloc (by omega) _)
  | some ad =>
    have hnews : ∀ j y, (xs.map enc)[j]? = some y → (w0.alloc (.cells #[u] e)).cell? (ad.add j) = some y := by
      intro j y hj
      have hj' : j < xs.length := by have := (List.getElem?_eq_some_iff.1 hj).1; simpa using this
      have := ha (by omega)
      cases this
      have h3 := hcell.2 j hj'
      simp [hj'] at hj
      rw [show (⟨b, off, none⟩ : Addr).add j = ⟨b, off + j, none⟩ by simp [Addr.add], h3, hj]
    refine wpList_append_own _ hgd s x t ho w0.heap.size e i z 1 bytes hE.und hi hz hsz hby hE.cells hE.pos _ 1 [u] hs hown ad xs.length c (xs.map enc) hx (by simp) hnews (by intro y hy; obtain ⟨y', _, rfl⟩ := List.mem_map.1 hy; exact h2 y') hn' hn (by simp) ?_
    intro v' w' ho' hg _
    exact h v' w' ho' ((hb.alloc (by omega) _).grown hg (by simp; omega) (fun j hj => by have := (hown.lt j hj).1; omega))
end

end Go.Proofs.YtlnhocgjgmhfgaaGreatDoor

namespace Go.Proofs.YtlnhocgjgmhfgaaGreatDoor
open Go.RowKit
set_option maxRecDepth 100000

theorem Sl.uniqueI {w : World} {v : Value} {xs ys : List Nat} (h : Sl eI w v xs) (h' : Sl eI w v ys) : xs = ys := by
  obtain ⟨a, b, o, c, rfl, ha, -, -, -, hx⟩ := h
  obtain ⟨a', b', o', c', he, ha', -, -, -, hx'⟩ := h'
  injection he with e1 e2 e3
  refine List.ext_getElem e2 fun i h1 h2 => ?_
  have p1 := ha (by omega)
  have p2 := ha' (by omega)
  rw [← e1, p1] at p2
  injection p2 with p2
  injection p2 with q1 q2
  have c1 := hx.2 i h1
  have c2 := hx'.2 i h2
  rw [← q1, ← q2, c1] at c2
  simp [eI] at c2
  exact_mod_cast c2
open Classical in
/-- The natural number that a slice of digits reads as. -/
noncomputable def rdD (w : World) (v : Value) : Nat := if h : ∃ n, Sl eI w v (digs 10 n) then Classical.choose h else 0
theorem rdD_eq {w : World} {v : Value} {n : Nat} (h : Sl eI w v (digs 10 n)) : rdD w v = n := by
  have hex : ∃ n, Sl eI w v (digs 10 n) := ⟨n, h⟩
  unfold rdD
  rw [dif_pos hex]
  have := (Classical.choose_spec hex).uniqueI h
  have e := congrArg (val 10) this
  rwa [val_digs _ _ (by omega), val_digs _ _ (by omega)] at e
theorem own_lt {w : World} {base e g n cap : Nat} {xs : List Value} (h : w.ownsRow base e 1 (.slice (some ⟨g, 0, none⟩) n cap) n xs) : g < w.heap.size := by
  rcases h.2 with ⟨h0, _⟩ | ⟨g', cap', cur, he, _, hg, _⟩
  · cases h0
  · cases he; exact (Array.getElem?_eq_some_iff.1 hg).1
theorem trim_cons (x r : Nat) (hx : x < 10) : trim (x :: digs 10 r) = digs 10 (x + 10 * r) :=
  trim_of 10 _ _ (by omega) (by intro a ha; rcases List.mem_cons.1 ha with rfl | h; exact hx; exact digs_lt 10 r (by omega) a h) (by rw [val, val_digs _ _ (by omega)])
theorem zeros_val (n : Nat) : val 10 (List.replicate n 0) = 0 := by
  induction n with
  | zero => rfl
  | succ n ih => rw [List.replicate_succ, val, ih]

end Go.Proofs.YtlnhocgjgmhfgaaGreatDoor
