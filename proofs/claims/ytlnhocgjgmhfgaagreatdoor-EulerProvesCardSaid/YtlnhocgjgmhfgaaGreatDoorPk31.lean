/- A range over a function whose round begins with memory of its own (the variable of the round is captured): the rule of XQ1 with assignment and body in one premise. The walk of laplacian's iterator over the edges that are no loops. The walk of laplacian's full. The walk of laplacian's full: the loop. The walks of laplacian's Full and minor. The walks of matrix's Add, Product and Apply. The walks of matrix's eliminate, Determinant and Rank. -/
import Derived.Test.YtlnhocgjgmhfgaaGreatDoorPk30
import Derived.Test.YtlnhocgjgmhfgaaGreatDoorPk27
import Derived.Test.YtlnhocgjgmhfgaaGreatDoorPk3
import Derived.Test.YtlnhocgjgmhfgaaGreatDoorPk29
import Derived.Test.YtlnhocgjgmhfgaaGreatDoorPk32
namespace Go.Proofs.YtlnhocgjgmhfgaaGreatDoor
open Go.RowKit Go.Shelf
set_option maxRecDepth 100000

section
variable {F : Fence} {n : Nat} {P : Program}
theorem wpIn_rangeA {α : Type} {g : Operand} {ps : Array Tmp} {assign body : Code} {Q : Exit → Act → World → Prop} {a : Act} {w : World}
    (hro : F.round = none) (h1 : 1 ≤ n) {gf : Nat} {lb : Array Value} (hg : a.eval g = .func (.func gf) #[] lb) (hFg : F.fn gf) (eg : ∀ args w, (callFunc gf args).run P w = .ok (.enter gf args) w)
    {encs : α → Array Value} {Kp : World → World → Prop} {Gd : Nat → α → World → Prop} {S : List α → World → Prop} {N : Nat} {w0 : World} (hseq : SeqG F (n - 1) P gf lb encs Kp Gd S N w0)
    (hKt : ∀ {A B C : World}, Kp A B → Kp B C → Kp A C) (hKb : ∀ (W : World) (l : Nat) (o o' : Obj), w.heap.size ≤ l → W.heap[l]? = some o → o.isCells = false → Kp W (W.putObj l o'))
    (hSb : ∀ xs (W : World) (l : Nat) (o o' : Obj), S xs W → W.heap[l]? = some o → o.isCells = false → S xs (W.putObj l o'))
    (hb0 : Below w0.heap.size w0 w) (hps : ∀ x, (encs x).size = ps.size)
    (I : List α → World → Prop) (hI : OwnFrom w.heap.size I) (hIc : ∀ pre W1 u j, I pre W1 → I pre (W1.setCell ⟨w.heap.size + 2, j, none⟩ u)) (h0 : I [] w)
    (hround : ∀ (l : Nat) (pre : List α) (x : α) (W : World), I pre W → Gd (w.heap.size + 2) x W → pre.length < N → w.heap.size ≤ l →
      assign.wpIn (F.inRound l) (n - 1 - 1) P (Exit.then (fun a1 W1 => KeepsOthers W W1 ∧ Kp W W1 ∧ ∀ o o' : Obj, W1.heap[l]? = some o → o.isCells = false → body.wpIn (F.inRound l) (n - 1 - 1) P (postG Kp I (pre ++ [x]) (W1.putObj l o')) a1 (W1.putObj l o')) (fun _ _ _ => False))
        { tmps := (ps.zip (encs x)).foldl (fun t (p, v) => t.setIfInBounds p v) a.tmps, defers := [] } W)
    (hdone : ∀ (D : Nat) (xs : List α) (W : World), w.heap.size ≤ D → S xs W → I xs W → W.heap[D]? = some (.deferred (some [])) → Q .normal { a with defers := { target := .collected D, args := #[] } :: a.defers } W) :
    (Code.rangeFunc g ps assign body).wpIn F n P Q a w := by
  refine wpIn_rangeFunc fun fn hfn => ?_
  rw [hro]
  let rec' : LoopState → Loop := fun st => { state := st, pending := none, fn, tmps := a.tmps, params := ps, assign, body, defers := w.heap.size }
  obtain ⟨d, hd⟩ : ∃ d, w.heap.size = d := ⟨_, rfl⟩
  obtain ⟨W1, hW1⟩ : ∃ W1, (w.alloc (.deferred (some []))).alloc (.loop (rec' .ready)) = W1 := ⟨_, rfl⟩
  have hs1 : W1.heap.size = d + 2 := by rw [← hW1, ← hd]; simp
  have hL1 : W1.heap[d + 1]? = some (.loop (rec' .ready)) := by
    rw [← hW1, ← hd]; have := World.alloc_heap_new (w.alloc (.deferred (some []))) (.loop (rec' .ready)); rwa [World.size_alloc] at this
  have hD1 : W1.heap[d]? = some (.deferred (some [])) := by
    rw [← hW1, ← hd]; exact (Below.heap_alloc _ _ _ (by simp)).trans (World.alloc_heap_new w _)
  have hb1 : Below w0.heap.size w0 W1 := by
    rw [← hW1]; exact (hb0.alloc hb0.size _).alloc (by have := hb0.size; simp; omega) _
  refine ⟨d + 1, [{ target := .collected d, args := #[] }], W1, { target := .fn (.func gf) lb, args := #[.func (.yield (d + 1)) #[] #[]] }, W1, gf, #[.func (.yield (d + 1)) #[] #[]] ++ lb, W1, ?_, ?_, ?_, ?_, fun _ => h1, ?_⟩
  · rw [← hW1, ← hd]; exact run_enterLoop_outer _ _ _ _ _
  · simp only [resolve, hg]; simp [go_sem]
  · intro f' hf'; simp [Target.leads] at hf'; subst hf'; exact hFg
  · simp [invoke, go_sem, eg]
  · refine (hseq (d + 1) (fun pre W => I pre W ∧ W.heap[d + 1]? = some (.loop (rec' .ready)) ∧ W.heap[d]? = some (.deferred (some []))) W1 hb1 ?_ ?_ ?_ ?_).mono ?_
    · intro s A B row hs hgr hrow
      refine ⟨hI s A B row hs.1 hgr fun r e => ?_, (grownBy_keeps hgr (fun r e => (hrow r e).2) hs.2.1 rfl).trans hs.2.1, (grownBy_keeps hgr (fun r e => (hrow r e).2) hs.2.2 rfl).trans hs.2.2⟩
      obtain ⟨hB, o, ho, hw⟩ := hrow r e
      exact ⟨by omega, o, ho, Obj.not_cells_of_walk hw⟩
    · intro pre W u j hs
      rw [hs1]
      refine ⟨?_, setCell_other hs.2.1 rfl, setCell_other hs.2.2 rfl⟩
      have := hIc pre W u j hs.1
      rwa [hd] at this
    · rintro pre x W ⟨hi, hl, hk⟩ hgd hlen
      have hy := run_yield (P := P) (args := encs x) hl (hps x)
      refine ⟨fn, _, assign, body, hy, roundIn_of_wpIn hfn (wpIn_mono (hround (d + 1) pre x W hi (by rw [hd, ← hs1]; exact hgd) hlen (by omega)) ?_)⟩
      rintro e a1 W1' hp
      cases e with
      | normal =>
        obtain ⟨hko0, hkp0, hbody⟩ := hp
        have hl1 := hko0.same _ _ hl rfl
        have hk1 := hko0.same _ _ hk rfl
        have hlt : d + 1 < W1'.heap.size := (Array.getElem?_eq_some_iff.1 hl1).1
        refine ⟨_, run_beginRound hl1 rfl, ?_⟩
        have hbody' := hbody _ (.loop { rec' .ready with state := .busy }) hl1 rfl
        obtain ⟨W2, hW2⟩ : ∃ W2, W1'.putObj (d + 1) (.loop { rec' .ready with state := .busy }) = W2 := ⟨_, rfl⟩
        have hl2 : W2.heap[d + 1]? = some (.loop { rec' .ready with state := .busy }) := by rw [← hW2]; exact World.putObj_heap_same hlt
        have hk2 : W2.heap[d]? = some (.deferred (some [])) := by rw [← hW2]; exact (World.putObj_heap_other (by omega)).trans hk1
        have hK2 : Kp W1' W2 := by rw [← hW2]; exact hKb _ _ _ _ (by omega) hl1 rfl
        rw [hW2] at hbody'
        show body.wpIn _ _ _ _ _ (W1'.putObj (d + 1) (.loop { rec' .ready with state := .busy }))
        rw [hW2]
        refine wpIn_mono hbody' ?_
        rintro e a3 W3 hp
        cases e with
        | normal =>
          obtain ⟨hko, hkp, hi3⟩ := hp
          have hl3 := hko.same _ _ hl2 rfl
          have hk3 := hko.same _ _ hk2 rfl
          have hr := run_endRound (P := P) none hl3
          exact ⟨_, _, hr, rfl, ⟨hI.putObj _ hi3 (by omega) hl3 rfl, World.putObj_heap_same (Array.getElem?_eq_some_iff.1 hl3).1, (World.putObj_heap_other (by omega)).trans hk3⟩, hKt (hKt (hKt hkp0 hK2) hkp) (hKb _ _ _ _ (by omega) hl3 rfl)⟩
        | ret => exact hp.elim
        | exit id => exact hp.elim
        | goto t => exact hp.elim
        | panic ch => exact hp.elim
        | outgrown => exact hp.elim
      | ret => exact hp.elim
      | exit id => exact hp.elim
      | goto t => exact hp.elim
      | panic ch => exact hp.elim
      | outgrown => exact hp.elim
    · refine ⟨?_, hL1, hD1⟩
      rw [← hW1]; exact hI.alloc _ (hI.alloc _ h0)
    · rintro e W2 ⟨⟨v, rfl⟩, xs, hS, hi, hl, hk⟩
      refine ⟨none, _, run_endLoop (P := P) hl (by simp [rec']), ?_⟩
      exact hdone d xs _ (by omega) (hSb _ _ _ _ _ hS hl rfl) (hI.putObj _ hi (by omega) hl rfl) ((World.putObj_heap_other (by omega)).trans hk)
end
end Go.Proofs.YtlnhocgjgmhfgaaGreatDoor

namespace Go.Proofs.YtlnhocgjgmhfgaaGreatDoor
open Go.RowKit Go.Shelf
set_option maxRecDepth 100000

attribute [local go_sem] Oper.semAt_some

theorem blk_nc {A C : World} {g : Nat} {cs : List Value} {T : TypeId} {row : Option Nat} (h : Blk A g cs T) (hg : A.grownBy C row) (hr : ∀ r, row = some r → ∃ o : Obj, A.heap[r]? = some o ∧ o.isCells = false) : Blk C g cs T := by
  have hlt := h.lt
  unfold Blk at *
  rw [hg.block g hlt fun e => ?_]; · exact h
  obtain ⟨o, ho, hc⟩ := hr g e.symm
  rw [h] at ho; cases ho; cases hc
def nl (x : Nat × Nat × Nat) : Bool := !(x.1 == x.2.1)
theorem filter_take {ns : List (Nat × Nat × Nat)} {q : Nat} (h : q < ns.length) : (ns.take (q + 1)).filter nl = (ns.take q).filter nl ++ (if nl ns[q] then [ns[q]] else []) := by
  rw [List.take_succ_eq_append_getElem h, List.filter_append]
  congr 1
  simp only [List.filter_cons, List.filter_nil]
def edgeV (x : Nat × Nat × Nat) : Value := .agg #[.int .i64 (x.1 : Nat), .int .i64 (x.2.1 : Nat), .int .i64 (x.2.2 : Nat)]
end Go.Proofs.YtlnhocgjgmhfgaaGreatDoor

namespace Go.Proofs.YtlnhocgjgmhfgaaGreatDoor
open Go.RowKit Go.Shelf
set_option maxRecDepth 100000

attribute [local go_sem] Oper.semAt_some

theorem wideFn (f : Nat) : Fence.wide.fn f := trivial
theorem keepsB {W W' : World} (h : Below W.heap.size W W') : KeepsOthers W W' := ⟨h.size, fun k _ hk _ => (h.block k (Array.getElem?_eq_some_iff.1 hk).1).trans hk⟩
theorem own_nc {A B : World} {b e s n : Nat} {v : Value} {ys : List Value} {row : Option Nat} (h : A.ownsRow b e s v n ys) (hg : A.grownBy B row) (hr : ∀ r, row = some r → ∃ o : Obj, A.heap[r]? = some o ∧ o.isCells = false) : B.ownsRow b e s v n ys := by
  refine ⟨h.1, h.2.imp_right fun ⟨g, cap, cur, h1, h2, h3, r⟩ => ⟨g, cap, cur, h1, h2, ?_, r⟩⟩
  rw [hg.block g (Array.getElem?_eq_some_iff.1 h3).1 fun e => ?_]; · exact h3
  obtain ⟨o, ho, hc⟩ := hr g e.symm
  rw [h3] at ho; cases ho; cases hc
theorem own_apart {w : World} {b e s n g j : Nat} {u v : Value} {ys : List Value} (h : w.ownsRow b e s v n ys) (hne : v.ownBlock ≠ some g) : (w.setCell ⟨g, j, none⟩ u).ownsRow b e s v n ys := by
  refine ⟨h.1, h.2.imp_right fun ⟨g', cap, cur, h1, h2, h3, r⟩ => ⟨g', cap, cur, h1, h2, ?_, r⟩⟩
  have : g' ≠ g := fun e2 => hne (by rw [h1, e2]; rfl)
  exact (Below.heap_setCell _ _ _ _ this).trans h3

end Go.Proofs.YtlnhocgjgmhfgaaGreatDoor

namespace Go.Proofs.YtlnhocgjgmhfgaaGreatDoor
open Go.RowKit Go.Shelf
set_option maxRecDepth 100000

attribute [local go_sem] Oper.semAt_some

def Bd (B : Int) (A : Mat) : Prop := ∀ i k, -B ≤ A i k ∧ A i k ≤ B
theorem Bd.add {B D d : Int} {A : Mat} (h : Bd B A) (hd : -D ≤ d ∧ d ≤ D) (r c : Nat) : Bd (B + D) (addM A r c d) := fun i k => by
  have := h i k
  unfold addM
  split <;> omega
theorem Bd.lap : ∀ {ns : List (Nat × Nat × Nat)}, (∀ x ∈ ns, x.2.2 ≤ 50) → Bd (100 * (ns.length : Int)) (lap ns)
  | [], _ => fun i k => by simp [Go.Proofs.YtlnhocgjgmhfgaaGreatDoor.lap]
  | x :: l, h => fun i k => by
    have h1 := lap1_le x i k
    have h2 := Bd.lap (ns := l) (fun y hy => h y (by simp [hy])) i k
    have h3 := h x (by simp)
    have e : Go.Proofs.YtlnhocgjgmhfgaaGreatDoor.lap (x :: l) i k = lap1 x i k + Go.Proofs.YtlnhocgjgmhfgaaGreatDoor.lap l i k := by simp [Go.Proofs.YtlnhocgjgmhfgaaGreatDoor.lap]
    rw [e, List.length_cons]
    omega
theorem lap_snoc (ns : List (Nat × Nat × Nat)) {a b m : Nat} (hab : a ≠ b) :
    lap (ns ++ [(a, b, m)]) = addM (addM (addM (addM (lap ns) a a m) b b m) a b (-(m : Int))) b a (-(m : Int)) := by
  funext i k
  simp only [lap, List.map_append, List.sum_append, List.map_cons, List.map_nil, List.sum_cons, List.sum_nil, lap1, hab, if_false, addM]
  omega
theorem lap_filter : ∀ ns : List (Nat × Nat × Nat), lap (ns.filter nl) = lap ns
  | [] => rfl
  | x :: l => by
    have ih := lap_filter l
    funext i k
    have e : ∀ l' : List (Nat × Nat × Nat), lap (x :: l') i k = lap1 x i k + lap l' i k := fun l' => by simp [lap]
    rw [List.filter_cons]
    by_cases h : nl x = true
    · rw [if_pos h, e, e, ih]
    · rw [if_neg h, ih, e]
      have hx : x.1 = x.2.1 := by simpa [nl] using h
      simp [lap1, hx]
end Go.Proofs.YtlnhocgjgmhfgaaGreatDoor

namespace Go.Proofs.YtlnhocgjgmhfgaaGreatDoor
open Go.RowKit Go.Shelf
set_option maxRecDepth 100000

def nsOf (es : List (Int × Int × Int)) : List (Nat × Nat × Nat) := es.map fun x => (x.1.toNat, x.2.1.toNat, x.2.2.toNat)
theorem nsOf_n3 (ns : List (Nat × Nat × Nat)) : nsOf (ns.map n3) = ns := by
  unfold nsOf
  rw [List.map_map]
  conv => rhs; rw [← List.map_id ns]
  congr 1
theorem RG.nsOf {n : Int} {es : List (Int × Int × Int)} {ns : List (Nat × Nat × Nat)} (h : RG n es ns) : Go.Proofs.YtlnhocgjgmhfgaaGreatDoor.nsOf es = ns := by rw [h.eq, nsOf_n3]
/-- What Full answers. -/
def fullS (n : Int) (es : List (Int × Int × Int)) : MR := if chkG n es = 0 then ⟨n, n, cellsF n.toNat n.toNat (lap (nsOf es)), 0⟩ else .bad (chkG n es)
end Go.Proofs.YtlnhocgjgmhfgaaGreatDoor

namespace Go.Proofs.YtlnhocgjgmhfgaaGreatDoor
open Go.RowKit
set_option maxRecDepth 100000

theorem two_ok {R C R' C' : Int} {xs ys : List ByteArray} (h : twoM R C xs R' C' ys = 0) : mchkM R C xs = 0 ∧ mchkM R' C' ys = 0 := by
  unfold twoM at h; split at h
  · exact ⟨by assumption, h⟩
  · exact absurd h (by assumption)
/-- Entries with few digits. -/
def Fit (D : Nat) (xs : List ByteArray) : Prop := ∀ s ∈ xs, s.size ≤ D
theorem dn_size {s : ByteArray} {z : Int} (h : Good s z) : dn z ≤ s.size := by
  have h4 : (Lib.itoa z).length = s.size := by rw [← h.1, Lib.size_eq]
  have h2 := digs10_len z.natAbs
  have h3 : (Lib.decDigits z.natAbs).length ≤ (Lib.itoa z).length := by rw [itoa_cases]; split <;> simp
  unfold dn; omega
theorem RM.dn {R C : Int} {xs : List ByteArray} {r c i k D : Nat} (h : RM R C xs r c) (hf : Fit D xs) (hi : i < r) (hk : k < c) : dn (matF c xs i k) ≤ D := by
  exact Nat.le_trans (dn_size (h.good hi hk)) (hf _ (List.getElem_mem _))
theorem dn_mulM {D E n : Nat} {A B : Mat} {i k : Nat} (hA : ∀ j, j < n → dn (A i j) ≤ D) (hB : ∀ j, j < n → dn (B j k) ≤ E) : dn (mulM n A B i k) ≤ D + E + n :=
  dn_sm _ n fun j hj => by have := dn_mul (A i j) (B j k); have := hA j hj; have := hB j hj; omega

theorem side_of {R C : Int} {xs : List ByteArray} (h : mchkM R C xs = 0) : (0 ≤ R ∧ R ≤ 16) ∧ 0 ≤ C ∧ C ≤ 16 := by
  obtain ⟨r, c, hrm⟩ := rm_of h
  have := hrm.rows; have := hrm.cols; have := hrm.r16; have := hrm.c16
  omega

/-- What Add answers. -/
def addS3 (R C : Int) (xs : List ByteArray) (R' C' : Int) (ys : List ByteArray) : MR :=
  if twoM R C xs R' C' ys = 0 then (if R = R' ∧ C = C' then ⟨R, C, cellsF R.toNat C.toNat (fun i k => matF C.toNat xs i k + matF C.toNat ys i k), 0⟩ else .bad 8) else .bad (twoM R C xs R' C' ys)
/-- What Product answers. -/
def prodS (R C : Int) (xs : List ByteArray) (R' C' : Int) (ys : List ByteArray) : MR :=
  if twoM R C xs R' C' ys = 0 then (if C = R' then ⟨R, C', cellsF R.toNat C'.toNat (mulM C.toNat (matF C.toNat xs) (matF C'.toNat ys)), 0⟩ else .bad 8) else .bad (twoM R C xs R' C' ys)
end Go.Proofs.YtlnhocgjgmhfgaaGreatDoor

namespace Go.Proofs.YtlnhocgjgmhfgaaGreatDoor
open Go.RowKit
set_option maxRecDepth 100000

theorem kept_sml {m n k : Nat} {A : Mat} {s : Est} (h : Kept m n k A s) (hD : ∀ i j, i < m → j < n → dn (A i j) ≤ 60) (hm : m ≤ 6) :
    (∀ i j, s.rank ≤ i → i < m → j < n → sml (s.M i j)) ∧ sml s.last ∧ s.last ≠ 0 ∧ s.rank ≤ m := by
  obtain ⟨B, c, hI, -, σ, hσ, -⟩ := h.ex
  have hB : ∀ i j, i < m → j < n → dn (B i j) ≤ 60 := fun i j hi hj => by rw [(hσ i hi).2]; exact hD _ _ (hσ i hi).1 hj
  have hc : ∀ t, t < s.rank → c t < n := fun t ht => Nat.lt_of_lt_of_le (hI.ck t ht) hI.kn
  have hr := hI.rk
  have cap : ∀ p, p ≤ 6 → 1 + p * (60 + p) ≤ 400 := fun p hp => by
    have := Nat.mul_le_mul hp (show 60 + p ≤ 66 by omega); omega
  refine ⟨fun i j hi him hj => ?_, ?_, hI.d0, hr⟩
  · unfold sml
    rw [hI.minor hi him hj]
    refine Nat.le_trans (dn_det (D := 60) (s.rank + 1) _ fun x y hx hy => ?_) (cap _ (by omega))
    refine hB _ _ ?_ ?_
    · split <;> omega
    · split
      · exact hc _ (by assumption)
      · exact hj
  · unfold sml
    rw [hI.lead]
    exact Nat.le_trans (dn_det (D := 60) s.rank _ fun x y hx hy => hB _ _ (by omega) (hc _ hy)) (cap _ (by omega))
/-- What eliminate leaves. -/
def ElimP (w : World) (S : Est) : Ending → World → Prop := Rets fun x w' => ∃ g rv, x = .pointer (some ⟨g, 0, none⟩) ∧ w.heap.size ≤ g ∧ Blk w' g [rv, .string (txt S.last), .int .i64 (sgB S.neg), .int .i64 S.rank, .int .i64 0] 163 ∧ Below w.heap.size w w'
/-- The elimination's grid where it begins. -/
theorem Grid.start {w0 w : World} {g r c cap : Nat} {a : Option Addr} {A : Mat} {bs : List (Nat × Nat)} (hk : Blk w g [.slice a r cap, .string (txt 1), .int .i64 1, .int .i64 0, .int .i64 0] 163) (hr : w.ownsRow w0.heap.size 126 1 (.slice a r cap) r (bs.map (rowV c)))
    (hR : RowsAt w0.heap.size c A bs w) (hg : w0.heap.size ≤ g) (hb : Below w0.heap.size w0 w) : Grid w0 w g (.slice a r cap) bs r c (Est.start A) :=
  ⟨hk, hr, hR.row, hR.nod, hg, hb⟩
theorem RowsAt.low {base b c : Nat} {A : Mat} {bs : List (Nat × Nat)} {W : World} (h : RowsAt base c A bs W) (hb : b ≤ base) : RowsAt b c A bs W := ⟨fun i hi => own_low (h.row i hi) hb, h.nod, h.lt⟩
theorem RowsAt.below {base c : Nat} {A : Mat} {bs : List (Nat × Nat)} {W W' : World} (h : RowsAt base c A bs W) (hb : Below W.heap.size W W') : RowsAt base c A bs W' :=
  ⟨fun i hi => own_below (h.row i hi) hb (Nat.le_refl _), h.nod, fun b hm => Nat.lt_of_lt_of_le (h.lt b hm) hb.size⟩
set_option maxHeartbeats 4000000 in
theorem eliminate_ok (w : World) (v : Value) (xs : List ByteArray) (r c : Nat) (hv : Sl eS w v xs) (hrm : RM r (c + 1 : Nat) xs r (c + 1)) (hf : ∀ i j, i < r → j < c + 1 → dn (matF (c + 1) xs i j) ≤ 60) (hr : r ≤ 6) (he : Env w) :
    Calls Tryz.prog 99 #[.agg #[.int .i64 r, .int .i64 (c + 1 : Nat), v]] w (ElimP w ((Est.start (matF (c + 1) xs)).cols r (c + 1))) := by
  have HV := Lib.hid hv; have HE := Lib.hid he; have HX := Lib.hid hrm.cells; have HC16 := Lib.hid hrm.c16
  have HKP := Lib.hid (fun k (hk : k ≤ c + 1) => kept_sml (Kept.cols (m := r) (n := c + 1) (matF (c + 1) xs) k hk) hf hr)
  obtain ⟨A, hA⟩ : ∃ A, matF (c + 1) xs = A := ⟨_, rfl⟩
  rw [hA] at HX HKP ⊢
  have HCO := Lib.hid (fun (w1 : World) (B : Nat) (u : Value) (h1 : Blk w1 B [.int .i64 r, .int .i64 (c + 1 : Nat), u] 128) (h2 : Sl eS w1 u xs) => collect_any A h1 h2 HX.out (by omega) HC16.out)
  have HCOL := Lib.hid (fun (w1 : World) (g : Nat) (rv : Value) (bs : List (Nat × Nat)) (k : Nat) (hk : k < c + 1) (hG : Grid w w1 g rv bs r (c + 1) ((Est.start A).cols r k)) =>
    column_any k hG hk (HKP.out k (by omega)).2.2.2 (by omega) HC16.out (HKP.out k (by omega)).1 (HKP.out k (by omega)).2.1 (HKP.out k (by omega)).2.2.1 he)
  obtain ⟨n, hn⟩ : ∃ n, c + 1 = n := ⟨_, rfl⟩
  have HN := Lib.hid hn
  obtain ⟨ad, cap, rfl⟩ := sl_form hv
  clear hv hrm hf he hA HX HKP
  rw [hn] at HCO HCOL HC16 ⊢
  clear hn
  have hn16 := HC16.out
  have HB0 := Lib.hid ((Below.refl w.heap.size w).alloc (Nat.le_refl _) (.cells #[.int .i64 r, .int .i64 n, .slice ad xs.length cap] 128))
  have HK0 := Lib.hid (Blk.new w [.int .i64 r, .int .i64 n, .slice ad xs.length cap] 128)
  go_enter Tryz.func99, Tryz.ntmps99
  have HB1 := Lib.hid (HB0.out.alloc (by simp) (.cells #[.int .i64 r, .int .i64 n, .slice ad xs.length cap] 128))
  go_wp2_with (first
    | (go_at_call 115; (with_reducible refine (rows_any _ _ _ _ _ _).mono ?_); rintro e w1 ⟨rfl, rfl⟩)
    | (go_at_call 114; (with_reducible refine (HCO.out _ _ _ (Blk.at1 w _ _ _) ((HV.out.below HB0.out (Nat.le_refl _)).below ((Below.refl _ _).alloc (Nat.le_refl _) _) (Nat.le_refl _))).mono ?_); rintro e w2 ⟨x, rfl, bs, ⟨hl, h1⟩, h2, h3⟩; rw [hl] at h2; obtain ⟨xa, xc, rfl⟩ := own_form h2; have b2 := HB1.out.trans (h3.mono (by simp; omega)); have H1 := Lib.hid (h1.low (show w.heap.size ≤ _ by simp; omega)); have H2 := Lib.hid (own_low h2 (show w.heap.size ≤ _ by simp; omega)); have hK2 := ((HK0.out.alloc _).below h3 (Nat.le_refl _)); have HK2 := Lib.hid hK2; clear h1 h2 hK2)
    | (go_at_call 61; (with_reducible refine (Of_any _ 1 (by omega) (by omega) (HE.out.below b2 (Nat.le_refl _))).mono ?_); rintro e w4 ⟨v, rfl, rfl, hb4⟩; have b4 := b2.trans (hb4.mono b2.size); have b5 := b4.alloc b4.size (.cells #[.slice xa r xc, .string (txt 1), .int .i64 1, .int .i64 0, .int .i64 0] 163); have HK5 := Lib.hid ((HK2.out.below hb4 (Nat.le_refl _)).alloc (.cells #[.slice xa r xc, .string (txt 1), .int .i64 1, .int .i64 0, .int .i64 0] 163)); have c0 := HK5.out.cell 0 _ rfl; have c1 := HK5.out.cell 1 _ rfl; have hb5 := hb4.alloc hb4.size (.cells #[.slice xa r xc, .string (txt 1), .int .i64 1, .int .i64 0, .int .i64 0] 163); have HG := Lib.hid (Grid.start (w0 := w) (Blk.new w4 [.slice xa r xc, .string (txt 1), .int .i64 1, .int .i64 0, .int .i64 0] 163) (own_below H2.out hb5 (Nat.le_refl _)) (H1.out.below hb5) b4.size b5)))
  go_loopw [13] (fun i wr => ∃ k : Nat, k ≤ n ∧ i = .int .i64 k ∧ Hid (∃ bs', Grid w wr w4.heap.size (.slice xa r xc) bs' r n ((Est.start A).cols r k))) (fun i _ => n - (intOf i).toNat)
  case atStart => exact ⟨0, Nat.zero_le _, rfl, Lib.hid ⟨bs, HG.out⟩⟩
  case round =>
    clear c0 c1 HG
    obtain ⟨k, hk, rfl, hG⟩ := hrel
    by_cases hkn : k < n
    · obtain ⟨bs', hG'⟩ := hG.out
      have HC := Lib.hid (HCOL.out _ _ _ _ k hkn hG')
      clear hG'
      go_wp2_with (go_at_call 116; (with_reducible refine HC.out.mono ?_); rintro e w6 ⟨rfl, bs2, hG2⟩; have HG2 := Lib.hid hG2; clear hG2)
      go_roundw
      case rel => exact ⟨k + 1, by omega, by go_num, Lib.hid ⟨bs2, HG2.out⟩⟩
      case measure => simp [intOf]; omega
    · obtain rfl : k = n := by omega
      go_wp2
      go_ret
      obtain ⟨bs', hG'⟩ := hG.out
      exact ⟨_, rfl, _, _, rfl, hG'.gB, hG'.box, hG'.bel⟩
set_option maxHeartbeats 2000000 in
theorem eliminate0_ok (w : World) (v : Value) (r : Nat) (A : Mat) (hv : Sl eS w v []) (hr : r ≤ 16) (he : Env w) :
    Calls Tryz.prog 99 #[.agg #[.int .i64 r, .int .i64 0, v]] w (ElimP w (Est.start A)) := by
  have HV := Lib.hid hv; have HE := Lib.hid he
  have HCO := Lib.hid (fun (w1 : World) (B : Nat) (u : Value) (h1 : Blk w1 B [.int .i64 r, .int .i64 0, u] 128) (h2 : Sl eS w1 u []) => collect0_any h1 h2 hr)
  have HZ := Lib.hid (show sgB (Est.start A).neg = 1 ∧ (Est.start A).rank = 0 ∧ (Est.start A).last = 1 from ⟨rfl, rfl, rfl⟩)
  obtain ⟨ad, cap, rfl⟩ : ∃ a c, v = .slice a 0 c := by obtain ⟨a, c, h⟩ := sl_form hv; exact ⟨a, c, h⟩
  clear hv he hr
  have HB0 := Lib.hid ((Below.refl w.heap.size w).alloc (Nat.le_refl _) (.cells #[.int .i64 r, .int .i64 0, .slice ad 0 cap] 128))
  have HK0 := Lib.hid (Blk.new w [.int .i64 r, .int .i64 0, .slice ad 0 cap] 128)
  have HB1 := Lib.hid (HB0.out.alloc (by simp) (.cells #[.int .i64 r, .int .i64 0, .slice ad 0 cap] 128))
  go_enter Tryz.func99, Tryz.ntmps99
  go_wp2_with (first
    | (go_at_call 115; (with_reducible refine (rows_any _ _ _ _ _ _).mono ?_); rintro e w1 ⟨rfl, rfl⟩)
    | (go_at_call 114; (with_reducible refine (HCO.out _ _ _ (Blk.at1 w _ _ _) ((HV.out.below HB0.out (Nat.le_refl _)).below ((Below.refl _ _).alloc (Nat.le_refl _) _) (Nat.le_refl _))).mono ?_); rintro e w2 ⟨x, rfl, bs, hl, h2, h3⟩; rw [hl] at h2; obtain ⟨xa, xc, rfl⟩ := own_form h2; have b2 := HB1.out.trans (h3.mono (by simp; omega)); have HK2 := Lib.hid ((HK0.out.alloc _).below h3 (Nat.le_refl _)); clear h2)
    | (go_at_call 61; (with_reducible refine (Of_any _ 1 (by omega) (by omega) (HE.out.below b2 (Nat.le_refl _))).mono ?_); rintro e w4 ⟨v, rfl, rfl, hb4⟩; have b4 := b2.trans (hb4.mono b2.size); have b5 := b4.alloc b4.size (.cells #[.slice xa r xc, .string (txt 1), .int .i64 1, .int .i64 0, .int .i64 0] 163); have HK5 := Lib.hid ((HK2.out.below hb4 (Nat.le_refl _)).alloc (.cells #[.slice xa r xc, .string (txt 1), .int .i64 1, .int .i64 0, .int .i64 0] 163)); have c0 := HK5.out.cell 0 _ rfl; have c1 := HK5.out.cell 1 _ rfl; have HG := Lib.hid (Blk.new w4 [.slice xa r xc, .string (txt 1), .int .i64 1, .int .i64 0, .int .i64 0] 163)))
  go_loopw [13] (fun i wr => i = .int .i64 0 ∧ Hid (wr = w4.alloc (.cells #[.slice xa r xc, .string (txt 1), .int .i64 1, .int .i64 0, .int .i64 0] 163))) (fun i _ => 0)
  case atStart => exact ⟨rfl, Lib.hid rfl⟩
  case round =>
    obtain ⟨rfl, hW⟩ := hrel
    have hW := hW.out
    subst hW
    go_wp2
    go_ret
    exact ⟨_, rfl, _, _, rfl, b4.size, by rw [HZ.out.1, HZ.out.2.1, HZ.out.2.2]; exact HG.out, b5⟩
theorem elim_any (w : World) (v : Value) (xs : List ByteArray) (r c : Nat) (hv : Sl eS w v xs) (hrm : RM r c xs r c) (hf : ∀ i j, i < r → j < c → dn (matF c xs i j) ≤ 60) (hr : r ≤ 6) (he : Env w) :
    Calls Tryz.prog 99 #[.agg #[.int .i64 r, .int .i64 c, v]] w (ElimP w ((Est.start (matF c xs)).cols r c)) := by
  cases c with
  | zero =>
    have : xs = [] := List.length_eq_zero_iff.1 (by rw [hrm.len]; rfl)
    subst this
    exact eliminate0_ok w v r _ hv (by omega) he
  | succ c => exact eliminate_ok w v xs r c hv hrm hf hr he
/-- What Determinant answers. -/
def detS (R C : Int) (xs : List ByteArray) : ByteArray × Int := if mchkM R C xs = 0 then (if R = C then (txt (det R.toNat (matF C.toNat xs)), 0) else (⟨#[]⟩, 8)) else (⟨#[]⟩, mchkM R C xs)
/-- What Rank answers. -/
def rankS (R C : Int) (xs : List ByteArray) : Nat × Int := if mchkM R C xs = 0 then (((Est.start (matF C.toNat xs)).cols R.toNat C.toNat).rank, 0) else (0, mchkM R C xs)
theorem Fit.mono {D E : Nat} {xs : List ByteArray} (h : Fit D xs) (hde : D ≤ E) : Fit E xs := fun s hs => Nat.le_trans (h s hs) hde
set_option maxHeartbeats 4000000 in
theorem Determinant_any (w : World) (R C : Int) (v : Value) (xs : List ByteArray) (hv : Sl eS w v xs) (hf : Fit 60 xs) (h6 : mchkM R C xs = 0 → R ≤ 6 ∧ C ≤ 6) (he : Env w) :
    Calls Tryz.prog 76 #[.agg #[.int .i64 R, .int .i64 C, v]] w (Rets fun v w' => v = .tuple #[.string (detS R C xs).1, .int .i64 (detS R C xs).2] ∧ Below w.heap.size w w') := by
  have HSZ := Lib.hid (show xs.length ≤ 256 → ∀ s ∈ xs, s.size ≤ 1000000 from fun _ s hs => Nat.le_trans (hf s hs) (by omega))
  have HV := Lib.hid hv; have HE := Lib.hid he; have HF := Lib.hid hf
  obtain ⟨ad, cap, rfl⟩ := sl_form hv
  clear hv hf he
  by_cases h : mchkM R C xs = 0
  · have H := Lib.hid h
    obtain ⟨r, c, hrm⟩ := rm_of h
    obtain rfl := hrm.rows; obtain rfl := hrm.cols
    have HRM := Lib.hid hrm
    have hh6 := h6 h
    have HB := Lib.hid ((Below.refl w.heap.size w).alloc (Nat.le_refl _) (.cells #[.int .i64 r, .int .i64 c, .slice ad xs.length cap] 128))
    have HK := Lib.hid (Blk.new w [.int .i64 r, .int .i64 c, .slice ad xs.length cap] 128)
    by_cases hs : r = c
    · subst hs
      have hne : ((r : Int) != (r : Int)) = false := by simp
      have hE := elim_det (matF r xs) (Kept.cols (m := r) (n := r) (matF r xs) r (Nat.le_refl _))
      have hsm := kept_sml (Kept.cols (m := r) (n := r) (matF r xs) r (Nat.le_refl _)) (fun i j hi hj => hrm.dn HF.out hi hj) (by omega)
      have HEL := Lib.hid (fun (w1 : World) (u : Value) (h1 : Sl eS w1 u xs) (h2 : Env w1) => elim_any w1 u xs r r h1 hrm (fun i j hi hj => hrm.dn HF.out hi hj) (by omega) h2)
      obtain ⟨S, hS⟩ : ∃ S, (Est.start (matF r xs)).cols r r = S := ⟨_, rfl⟩
      rw [hS] at hE hsm HEL
      have HD := Lib.hid (show detS r r xs = (txt (if S.rank < r then 0 else sgB S.neg * S.last), 0) by unfold detS; rw [if_pos h, if_pos rfl, ← hE]; rfl)
      have HBG := Lib.hid (bigD (show dn S.last ≤ 1024 by have := hsm.2.1; unfold sml at this; omega))
      have HRS := Lib.hid (show resV (-S.last) = .tuple #[.string (txt (-S.last)), .int .i64 0] by unfold resV; rw [bigD (show dn (-S.last) ≤ 1024 by rw [dn_neg]; have := hsm.2.1; unfold sml at this; omega)]; rfl)
      clear h hrm h6 hS hE hsm hh6
      rcases Nat.lt_or_ge S.rank r with hq | hq
      · have HX := Lib.hid (show detS r r xs = (txt 0, 0) by rw [HD.out, if_pos hq])
        go_enter Tryz.func76, Tryz.ntmps76
        go_wp2_with (first
    | (go_at_call 99; (with_reducible refine (HEL.out _ _ (HV.out.below q1 (Nat.le_refl _)) (HE.out.below q1 (Nat.le_refl _))).mono ?_); rintro e w2 ⟨x, rfl, g, rv, rfl, hg, hk, h2⟩; have q2 := q1.trans (h2.mono q1.size); have HK2 := Lib.hid (HK1.out.below h2 (Nat.le_refl _)); have d0 := HK2.out.cell 0 _ rfl; have d1 := HK2.out.cell 1 _ rfl; have e1 := hk.cell 1 _ rfl; have e2 := hk.cell 2 _ rfl; have e3 := hk.cell 3 _ rfl; have e4 := hk.cell 4 _ rfl; clear hk)
    | (go_at_call 98; (with_reducible refine (MCheck_any _ _ _ _ xs (HV.out.below HB.out (Nat.le_refl _)) HSZ.out).mono ?_); rintro e w1 ⟨v, rfl, rfl, h1⟩; rw [H.out]; have q1 := HB.out.trans (h1.mono HB.out.size); have HK1 := Lib.hid (HK.out.below h1 (Nat.le_refl _)); have c0 := HK1.out.cell 0 _ rfl; have c1 := HK1.out.cell 1 _ rfl; have c2 := HK1.out.cell 2 _ rfl))
        go_region
        all_goals
          go_wp2_with (go_at_call 61; (with_reducible refine (Of_any _ 0 (by omega) (by omega) (HE.out.below q2.drew (Nat.le_refl _))).mono ?_); rintro e w4 ⟨v, rfl, rfl, hb4⟩; have q4 := q2.drew.trans (hb4.mono q2.size))
          go_ret2
          exact ⟨_, rfl, by rw [HX.out]; rfl, q4⟩
      · have hq' : ¬ S.rank < r := by omega
        cases hng : S.neg
        · have hsg : sgB S.neg = 1 := by rw [hng]; rfl
          have HX := Lib.hid (show detS r r xs = (txt S.last, 0) by rw [HD.out, if_neg hq', hsg, Int.one_mul])
          have HSG := Lib.hid hsg
          clear hng hsg
          go_enter Tryz.func76, Tryz.ntmps76
          go_wp2_with (first
    | (go_at_call 99; (with_reducible refine (HEL.out _ _ (HV.out.below q1 (Nat.le_refl _)) (HE.out.below q1 (Nat.le_refl _))).mono ?_); rintro e w2 ⟨x, rfl, g, rv, rfl, hg, hk, h2⟩; have q2 := q1.trans (h2.mono q1.size); have HK2 := Lib.hid (HK1.out.below h2 (Nat.le_refl _)); have d0 := HK2.out.cell 0 _ rfl; have d1 := HK2.out.cell 1 _ rfl; have e1 := hk.cell 1 _ rfl; have e2 := hk.cell 2 _ rfl; have e3 := hk.cell 3 _ rfl; have e4 := hk.cell 4 _ rfl; rw [HSG.out] at e2; clear hk)
    | (go_at_call 98; (with_reducible refine (MCheck_any _ _ _ _ xs (HV.out.below HB.out (Nat.le_refl _)) HSZ.out).mono ?_); rintro e w1 ⟨v, rfl, rfl, h1⟩; rw [H.out]; have q1 := HB.out.trans (h1.mono HB.out.size); have HK1 := Lib.hid (HK.out.below h1 (Nat.le_refl _)); have c0 := HK1.out.cell 0 _ rfl; have c1 := HK1.out.cell 1 _ rfl; have c2 := HK1.out.cell 2 _ rfl))
          go_region
          all_goals
            go_wp2_with fail
            go_ret2
            exact ⟨_, rfl, by rw [HX.out]; rfl, q2.drew⟩
        · have hsg : sgB S.neg = -1 := by rw [hng]; rfl
          have HX := Lib.hid (show detS r r xs = (txt (-S.last), 0) by rw [HD.out, if_neg hq', hsg]; congr 2; omega)
          have HSG := Lib.hid hsg
          clear hng hsg
          go_enter Tryz.func76, Tryz.ntmps76
          go_wp2_with (first
    | (go_at_call 99; (with_reducible refine (HEL.out _ _ (HV.out.below q1 (Nat.le_refl _)) (HE.out.below q1 (Nat.le_refl _))).mono ?_); rintro e w2 ⟨x, rfl, g, rv, rfl, hg, hk, h2⟩; have q2 := q1.trans (h2.mono q1.size); have HK2 := Lib.hid (HK1.out.below h2 (Nat.le_refl _)); have d0 := HK2.out.cell 0 _ rfl; have d1 := HK2.out.cell 1 _ rfl; have e1 := hk.cell 1 _ rfl; have e2 := hk.cell 2 _ rfl; have e3 := hk.cell 3 _ rfl; have e4 := hk.cell 4 _ rfl; rw [HSG.out] at e2; clear hk)
    | (go_at_call 98; (with_reducible refine (MCheck_any _ _ _ _ xs (HV.out.below HB.out (Nat.le_refl _)) HSZ.out).mono ?_); rintro e w1 ⟨v, rfl, rfl, h1⟩; rw [H.out]; have q1 := HB.out.trans (h1.mono HB.out.size); have HK1 := Lib.hid (HK.out.below h1 (Nat.le_refl _)); have c0 := HK1.out.cell 0 _ rfl; have c1 := HK1.out.cell 1 _ rfl; have c2 := HK1.out.cell 2 _ rfl))
          go_region
          all_goals
            go_wp2_with (go_at_call 100; (with_reducible refine (Neg_ok _ _ S.last (.of HBG.out) (HE.out.below q2.drew (Nat.le_refl _))).mono ?_); rintro e w4 ⟨v, rfl, rfl, hb4⟩; have q4 := q2.drew.trans (hb4.mono q2.size); rw [HRS.out])
            go_ret2
            exact ⟨_, rfl, by rw [HX.out]; rfl, q4⟩
    · have hne : ((r : Int) != (c : Int)) = true := by simp; omega
      have HX := Lib.hid (show detS r c xs = (⟨#[]⟩, 8) by unfold detS; rw [if_pos h, if_neg (by omega)])
      clear h hrm h6 hh6
      go_enter Tryz.func76, Tryz.ntmps76
      go_wp2_with (first
    | (go_at_call 98; (with_reducible refine (MCheck_any _ _ _ _ xs (HV.out.below HB.out (Nat.le_refl _)) HSZ.out).mono ?_); rintro e w1 ⟨v, rfl, rfl, h1⟩; rw [H.out]; have q1 := HB.out.trans (h1.mono HB.out.size); have HK1 := Lib.hid (HK.out.below h1 (Nat.le_refl _)); have c0 := HK1.out.cell 0 _ rfl; have c1 := HK1.out.cell 1 _ rfl; have c2 := HK1.out.cell 2 _ rfl))
      go_ret2
      exact ⟨_, rfl, by rw [HX.out]; rfl, q1⟩
  · have hne : (mchkM R C xs != 0) = true := by simp [h]
    have HX := Lib.hid (show detS R C xs = (⟨#[]⟩, mchkM R C xs) by unfold detS; rw [if_neg h])
    have HB := Lib.hid ((Below.refl w.heap.size w).alloc (Nat.le_refl _) (.cells #[.int .i64 R, .int .i64 C, .slice ad xs.length cap] 128))
    clear h h6
    go_enter Tryz.func76, Tryz.ntmps76
    go_wp2_with (go_at_call 98; (with_reducible refine (MCheck_any _ R C _ xs (HV.out.below HB.out (Nat.le_refl _)) HSZ.out).mono ?_); rintro e w1 ⟨v, rfl, rfl, h1⟩; have q1 := HB.out.trans (h1.mono HB.out.size))
    go_ret2
    exact ⟨_, rfl, by rw [HX.out]; rfl, q1⟩
end Go.Proofs.YtlnhocgjgmhfgaaGreatDoor
