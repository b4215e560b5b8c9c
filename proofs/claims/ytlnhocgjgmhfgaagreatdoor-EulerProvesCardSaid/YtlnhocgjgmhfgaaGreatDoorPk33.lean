/- The walks of slices.Equal and of the reference's Same over texts. The walk of the matrix law's awake: the chapter's examples. The walk of the reference's Few of matrices. Matrices by their numbers: what Determinant, Rank, Product and Transpose answer. The walks of laplacian's minor, Reduced, Cofactor, Trees. What the rows' lists of package-level variables give; a world for the witnesses. Graphs and unicycles as arguments: opened by their cells. -/
import Derived.Test.YtlnhocgjgmhfgaaGreatDoorPk26
import Derived.BigQuiet
import Derived.Test.YtlnhocgjgmhfgaaGreatDoorPk31
import Derived.WalkSpells
import Derived.Test.YtlnhocgjgmhfgaaGreatDoorCards
import Derived.Test.YtlnhocgjgmhfgaaGreatDoorTie
import Derived.Test.YtlnhocgjgmhfgaaGreatDoorPk20
import Derived.ProofKit
import Derived.OpenShut
import Derived.Deep.DeepHandedRow
import Derived.Deep.DeepWitnessRowRef
import Derived.Lib.LaidTab
import Derived.Stop.LaidErr
import Derived.Test.YtlnhocgjgmhfgaaGreatDoorPk13
import Derived.Carry
import Derived.ChangeOld
import Derived.ChangeSlices
import Derived.Deep.Strs
import Derived.Deep.Slices
namespace Go.Proofs.YtlnhocgjgmhfgaaGreatDoor
open Go.RowKit
set_option maxRecDepth 100000

theorem bytesM_ne {s t : ByteArray} (h : s ≠ t) : (s.toList == t.toList) = false := by
  rw [beq_eq_false_iff_ne]
  intro e
  apply h
  rw [ByteArray.toList_eq, ByteArray.toList_eq] at e
  exact ByteArray.ext (Array.toList_inj.1 e)
end Go.Proofs.YtlnhocgjgmhfgaaGreatDoor

namespace Go.Proofs.YtlnhocgjgmhfgaaGreatDoor
open Go.RowKit
set_option maxRecDepth 100000

theorem Sl.lit {α : Type} (enc : α → Value) (w : World) (xs : List α) (e : TypeId) (h : xs.length ≤ 1000) : Sl enc (w.alloc (.cells (xs.map enc).toArray e)) (.slice (some ⟨w.heap.size, 0, none⟩) xs.length xs.length) xs :=
  Sl.ofOwns (n := xs.length) (base := 0) (e := e) ⟨by simp, .inr ⟨w.heap.size, xs.length, _, rfl, by omega, heap_alloc_new w _, by omega, by unfold maxLen; omega, by simp, by simp [List.take_of_length_le]⟩⟩
theorem MR.eq {m : MR} {R C : Int} {xs : List ByteArray} {k : Int} (h1 : m.R = R) (h2 : m.C = C) (h3 : m.xs = xs) (h4 : m.k = k) : m = ⟨R, C, xs, k⟩ := by cases m; subst h1 h2 h3 h4; rfl
theorem retM_of {P : Program} {f : FuncId} {a : Array Value} {w : World} {m : MR} {R C : Int} {xs : List ByteArray} {k : Int} (h : Calls P f a w (RetMR w m)) (e : m = ⟨R, C, xs, k⟩) : Calls P f a w (RetM w R C xs k) := by subst e; exact h
theorem retS_of {P : Program} {f : FuncId} {a : Array Value} {w : World} {p : ByteArray × Int} {t : ByteArray} {k : Int} (h : Calls P f a w (Rets fun v w' => v = .tuple #[.string p.1, .int .i64 p.2] ∧ Below w.heap.size w w')) (e : p = (t, k)) :
    Calls P f a w (Rets fun v w' => v = .tuple #[.string t, .int .i64 k] ∧ Below w.heap.size w w') := by subst e; exact h
theorem retN_of {P : Program} {f : FuncId} {a : Array Value} {w : World} {p : Nat × Int} {t : Nat} {k : Int} (h : Calls P f a w (Rets fun v w' => v = .tuple #[.int .i64 p.1, .int .i64 p.2] ∧ Below w.heap.size w w')) (e : p = (t, k)) :
    Calls P f a w (Rets fun v w' => v = .tuple #[.int .i64 t, .int .i64 k] ∧ Below w.heap.size w w') := by subst e; exact h
end Go.Proofs.YtlnhocgjgmhfgaaGreatDoor

namespace Go.Proofs.YtlnhocgjgmhfgaaGreatDoor
open Go.RowKit
set_option maxRecDepth 100000

def nine (xs : List ByteArray) : Bool := xs.all fun s => decide (s.size ≤ 9)
theorem nine_drop (xs : List ByteArray) (k : Nat) (h : k < xs.length) : nine (xs.drop k) = (decide (xs[k].size ≤ 9) && nine (xs.drop (k + 1))) := by
  rw [nine, List.drop_eq_getElem_cons h, List.all_cons]; rfl
theorem nine_iff (xs : List ByteArray) : nine xs = true ↔ ∀ s ∈ xs, s.size ≤ 9 := by simp [nine]
def lenOk (n : Nat) : Bool := !(decide (60 < n) && decide (n < 400)) && !decide (1000 < n)
def sideOk (most R C : Int) (n : Nat) : Bool := decide (R ≤ most) && decide (C ≤ most) || !sideB R || !sideB C || !decide ((n : Int) = R * C)
/-- What Few answers. -/
def few03 (most R C : Int) (xs : List ByteArray) : Bool := lenOk xs.length && nine xs && sideOk most R C xs.length
theorem few03_rm {most R C : Int} {xs : List ByteArray} (h : few03 most R C xs = true) : Fit 9 xs ∧ (mchkM R C xs = 0 → R ≤ most ∧ C ≤ most) := by
  unfold few03 at h
  simp only [Bool.and_eq_true] at h
  refine ⟨(nine_iff xs).1 h.1.2, fun hm => ?_⟩
  obtain ⟨r, c, hrm⟩ := rm_of hm
  have h1 : sideB R = true := (sideB_iff R).2 (by have := hrm.rows; have := hrm.r16; omega)
  have h2 : sideB C = true := (sideB_iff C).2 (by have := hrm.cols; have := hrm.c16; omega)
  have h3 : (xs.length : Int) = R * C := by rw [hrm.rows, hrm.cols, hrm.len]; exact Int.natCast_mul _ _
  have h4 := h.2
  unfold sideOk at h4
  rw [h1, h2, decide_eq_true h3] at h4
  simpa using h4
end Go.Proofs.YtlnhocgjgmhfgaaGreatDoor

namespace Go.Proofs.YtlnhocgjgmhfgaaGreatDoor
open Go.RowKit
set_option maxRecDepth 100000

theorem size_txt (z : Int) : (txt z).size ≤ dn z + 2 := by
  have h := itoa_len z
  simpa [txt, ByteArray.size] using h
theorem fit_cells {r c D : Nat} {A : Mat} (h : ∀ i k, i < r → k < c → dn (A i k) ≤ D) : Fit (D + 2) (cellsF r c A) := by
  intro s hs
  obtain ⟨t, ht, rfl⟩ := List.mem_map.1 hs
  have ht' : t < r * c := by simpa using ht
  have hc : 0 < c := by rcases Nat.eq_zero_or_pos c with e | e; · simp [e] at ht'
                        · exact e
  have := h (t / c) (t % c) (Nat.div_lt_of_lt_mul (by rw [Nat.mul_comm]; exact ht')) (Nat.mod_lt _ hc)
  have := size_txt (A (t / c) (t % c))
  omega
theorem matF_cells {r c i k : Nat} {A : Mat} (hi : i < r) (hk : k < c) (hb : big (A i k) = false) : matF c (cellsF r c A) i k = A i k := by
  unfold matF
  rw [List.getD_eq_getElem?_getD, cellsF_get? A hi hk]
  exact Good.num (.of hb)
theorem rm_cells {r c D : Nat} {A : Mat} (hr : r ≤ 16) (hc : c ≤ 16) (hD : D ≤ 1024) (h : ∀ i k, i < r → k < c → dn (A i k) ≤ D) : RM r c (cellsF r c A) r c :=
  rm_cellsF hr hc fun i k hi hk => bigD (Nat.le_trans (h i k hi hk) hD)
theorem rank_of {xs : List ByteArray} {r c : Nat} (h : RM r c xs r c) : ∃ k, rankS r c xs = (k, 0) ∧ Rk r c (matF c xs) k ∧ k ≤ r ∧ k ≤ c := by
  have hK := Kept.cols (m := r) (n := c) (matF c xs) c (Nat.le_refl _)
  exact ⟨_, by unfold rankS; rw [if_pos h.mchk]; rfl, hK.rk, hK.rank_le⟩
theorem rank_cells {r c D : Nat} {A : Mat} (hr : r ≤ 16) (hc : c ≤ 16) (hD : D ≤ 1024) (h : ∀ i k, i < r → k < c → dn (A i k) ≤ D) : ∃ k, rankS r c (cellsF r c A) = (k, 0) ∧ Rk r c A k ∧ k ≤ r ∧ k ≤ c := by
  obtain ⟨k, h1, h2, h3⟩ := rank_of (rm_cells hr hc hD h)
  exact ⟨k, h1, rk_congr h2 fun i j hi hj => matF_cells hi hj (bigD (Nat.le_trans (h i j hi hj) hD)), h3⟩
theorem det_of {xs : List ByteArray} {n : Nat} (h : RM n n xs n n) : detS n n xs = (txt (det n (matF n xs)), 0) := by
  unfold detS; rw [if_pos h.mchk, if_pos rfl]; rfl
theorem det_cells {n D : Nat} {A : Mat} (hn : n ≤ 16) (hD : D ≤ 1024) (h : ∀ i k, i < n → k < n → dn (A i k) ≤ D) : detS n n (cellsF n n A) = (txt (det n A), 0) := by
  rw [det_of (rm_cells hn hn hD h), det_congr fun i j hi hj => matF_cells hi hj (bigD (Nat.le_trans (h i j hi hj) hD))]
theorem prod_of {xs ys : List ByteArray} {r n p : Nat} (h : RM r n xs r n) (h' : RM n p ys n p) : prodS r n xs n p ys = ⟨r, p, cellsF r p (mulM n (matF n xs) (matF p ys)), 0⟩ := by
  unfold prodS twoM; rw [if_pos h.mchk, if_pos h'.mchk, if_pos rfl]; rfl
theorem tr_of {xs : List ByteArray} {r c : Nat} (h : RM r c xs r c) : trS r c xs = ⟨c, r, cellsF c r (tr (matF c xs)), 0⟩ := by
  unfold trS; rw [if_pos h.mchk]; rfl
theorem RM.self {R C : Int} {xs : List ByteArray} {r c : Nat} (h : RM R C xs r c) : RM r c xs r c := ⟨rfl, rfl, h.r16, h.c16, h.len, h.chk⟩
theorem Fit.big {D : Nat} {xs : List ByteArray} (h : Fit D xs) (hD : D ≤ 1000000) : ∀ s ∈ xs, s.size ≤ 1000000 := fun s hs => Nat.le_trans (h s hs) hD
/-- Functions of matrices, at right ones with few digits. -/
theorem det_call {w : World} {v : Value} {xs : List ByteArray} {n D : Nat} {A : Mat} (hv : Sl eS w v xs) (hx : xs = cellsF n n A) (hn : n ≤ 6) (hD : D ≤ 58) (h : ∀ i k, i < n → k < n → dn (A i k) ≤ D) (he : Env w) :
    Calls Tryz.prog 76 #[.agg #[.int .i64 n, .int .i64 n, v]] w (Rets fun v w' => v = .tuple #[.string (txt (det n A)), .int .i64 0] ∧ Below w.heap.size w w') := by
  subst hx
  exact retS_of (Determinant_any w n n v _ hv ((fit_cells h).mono (by omega)) (fun _ => by omega) he) (det_cells (by omega) (by omega) h)
end Go.Proofs.YtlnhocgjgmhfgaaGreatDoor

namespace Go.Proofs.YtlnhocgjgmhfgaaGreatDoor
open Go.RowKit Go.Shelf
set_option maxRecDepth 100000

theorem dn_six {z : Int} (h : -100000 ≤ z ∧ z ≤ 100000) : dn z ≤ 6 := by
  unfold dn
  refine Nat.le_trans (digs_len_mono _ (by omega) (show z.natAbs ≤ 100000 by omega)) ?_
  rw [digs_len _ _ _ (by omega)]
  decide
theorem dn_lap {ns : List (Nat × Nat × Nat)} (h : ∀ x ∈ ns, x.2.2 ≤ 50) (hl : ns.length ≤ 1000) (i k : Nat) : dn (lap ns i k) ≤ 6 := by
  have := Bd.lap h i k
  exact dn_six (by omega)
theorem min_cells {n : Nat} {A : Mat} {i k : Int} (hn : n ≤ 16) (hn1 : 1 ≤ n) (h : ∀ i k, dn (A i k) ≤ 6) (hi : 0 ≤ i ∧ i < n) (hk : 0 ≤ k ∧ k < n) :
    minS n n (cellsF n n A) i k = ⟨((n - 1 : Nat) : Int), ((n - 1 : Nat) : Int), cellsF (n - 1) (n - 1) (mnr A i.toNat k.toNat), 0⟩ := by
  have hrm := rm_cells (r := n) (c := n) (D := 6) (A := A) hn hn (by omega) (fun i k _ _ => h i k)
  have ht : MthereS n n (cellsF n n A) i k = 0 := by
    unfold MthereS
    rw [if_pos hrm.mchk, if_neg (by omega)]
  unfold minS
  rw [if_pos ht]
  have e1 : (n : Int) - 1 = ((n - 1 : Nat) : Int) := by omega
  rw [e1]
  congr 1
  show cellsF (n - 1) (n - 1) (mnr (matF n (cellsF n n A)) i.toNat k.toNat) = _
  refine cellsF_congr fun a b ha hb => ?_
  have h1 := sk_lt (r := i.toNat) ha
  have h2 := sk_lt (r := k.toNat) hb
  exact matF_cells (by omega) (by omega) (bigD (Nat.le_trans (h _ _) (by omega)))
/-- What minor answers. -/
def lminS (n : Int) (es : List (Int × Int × Int)) (i k : Int) : MR :=
  if chkG n es = 0 then (if (0 ≤ i ∧ i < n) ∧ (0 ≤ k ∧ k < n) then ⟨((n.toNat - 1 : Nat) : Int), ((n.toNat - 1 : Nat) : Int), cellsF (n.toNat - 1) (n.toNat - 1) (mnr (lap (nsOf es)) i.toNat k.toNat), 0⟩ else .bad 2) else .bad (chkG n es)
end Go.Proofs.YtlnhocgjgmhfgaaGreatDoor

namespace Go.Proofs.YtlnhocgjgmhfgaaGreatDoor
open Go.RowKit

theorem cOwn : ownKnob Tryz.prog.godebug = none := by kernel_rfl
theorem int_wf {n : Int} (h : (Lit.int .i64 n).wf = true) : -9223372036854775808 ≤ n ∧ n ≤ 9223372036854775807 := by
  have e1 : IntKind.i64.min = -9223372036854775808 := rfl
  have e2 : IntKind.i64.max = 9223372036854775807 := rfl
  simp [Lit.wf, e1, e2] at h; exact h
theorem int32_wf {n : Int} (h : (Lit.int .i32 n).wf = true) : -2147483648 ≤ n ∧ n ≤ 2147483647 := by
  have e1 : IntKind.i32.min = -2147483648 := rfl
  have e2 : IntKind.i32.max = 2147483647 := rfl
  simp [Lit.wf, e1, e2] at h; exact h
theorem u8_wf {n : Int} (h : (Lit.int .u8 n).wf = true) : 0 ≤ n ∧ n ≤ 255 := by
  have e1 : IntKind.u8.min = 0 := rfl
  have e2 : IntKind.u8.max = 255 := rfl
  simp [Lit.wf, e1, e2] at h; exact h
theorem cErrT (u : TypeId) (h : Tryz.prog.typeName? 3 u = some "*errors.errorString") : u = 250 :=
  typeName_ptr_named (nm := "errors.errorString") (by rw [show "*" ++ "errors.errorString" = "*errors.errorString" by decide]; kernel_rfl) (by kernel_rfl) (by decide) u (by rw [show "*" ++ "errors.errorString" = "*errors.errorString" by decide]; exact h)

/-- What the five listed variables hold. -/
def laid5 : List (String × DataW Unit) := [("math/bits.deBruijn32tab", Rows.laid_math_bits_deBruijn32tab), ("math/bits.deBruijn64tab", Rows.laid_math_bits_deBruijn64tab), ("internal/strconv.uint64pow10", Rows.laid_internal_strconv_uint64pow10), ("strconv.ErrRange", Rows.laid_strconv_ErrRange), ("strconv.ErrSyntax", Rows.laid_strconv_ErrSyntax)]
theorem env_of {W : World} (h : laidMetH Tryz.prog laid5 W) : Env W := by
  have h1 : laidMet Tryz.prog laid5 W := h
  have h2 := h1.tail.tail
  obtain ⟨a0, t0, hv0, -, -, -⟩ := laid_sentinel (g := 2) h2.tail (by kernel_rfl) (by kernel_rfl) Tryz.underlying201 cErrT Tryz.underlying250 Tryz.underlying252 rfl rfl Tryz.underlying9 (by kernel_rfl) (by kernel_rfl)
  obtain ⟨a1, t1, hv1, -, -, -⟩ := laid_sentinel (g := 1) h2.tail.tail (by kernel_rfl) (by kernel_rfl) Tryz.underlying201 cErrT Tryz.underlying250 Tryz.underlying252 rfl rfl Tryz.underlying9 (by kernel_rfl) (by kernel_rfl)
  exact ⟨Lib.tabIs_of_head (g := 0) (t := 218) (e := 152) (by kernel_rfl) (by kernel_rfl) Tryz.underlying218 Tryz.underlying152 (by kernel_rfl) (by kernel_rfl) h2, ⟨_, _, hv1⟩, ⟨_, _, hv0⟩⟩

/-- The world of a witness: the listed variables hold what their initialisers lay. -/
noncomputable def laidWorld (os : Os) : World :=
  let N := (World.settled Tryz.prog os).heap.size
  let w0 := World.holding Tryz.prog os ⟨#[.cells #[.string ⟨#[118, 97, 108, 117, 101, 32, 111, 117, 116, 32, 111, 102, 32, 114, 97, 110, 103, 101]⟩] 252, .cells #[.string ⟨#[105, 110, 118, 97, 108, 105, 100, 32, 115, 121, 110, 116, 97, 120]⟩] 252], #[], []⟩
  let put (h : Array Obj) (g : Nat) (cs : Array Value) : Array Obj := h.modify g fun
    | .cells _ t frozen => .cells cs t frozen
    | o => o
  let h1 := put w0.heap 3 (([0, 1, 28, 2, 29, 14, 24, 3, 30, 22, 20, 15, 25, 17, 4, 8, 31, 27, 13, 23, 21, 19, 16, 7, 26, 12, 18, 6, 11, 5, 10, 9] : List Int).map fun z => Value.int .u8 z).toArray
  let h2 := put h1 4 (([0, 1, 56, 2, 57, 49, 28, 3, 61, 58, 42, 50, 38, 29, 17, 4, 62, 47, 59, 36, 45, 43, 51, 22, 53, 39, 33, 30, 24, 18, 12, 5, 63, 55, 48, 27, 60, 41, 37, 16, 46, 35, 44, 21, 52, 32, 23, 11, 54, 26, 40, 15, 34, 20, 31, 10, 25, 14, 19, 9, 13, 8, 7, 6] : List Int).map fun z => Value.int .u8 z).toArray
  let h3 := put h2 0 (Lib.pow10Tab.map fun z => Value.int .u64 z).toArray
  let h4 := put h3 2 #[.iface 250 (.pointer (some ⟨N, 0, none⟩))]
  let h5 := put h4 1 #[.iface 250 (.pointer (some ⟨N + 1, 0, none⟩))]
  { w0 with heap := h5 }
theorem laid_met (os : Os) (args : Array Value) : laidMet Tryz.prog laid5 ((laidWorld os).forCall (fun _ _ => 0) ⟨#[], args, []⟩).memory :=
  laidMet_of_run' 8 (by kernel_rfl) (by kernel_rfl)
end Go.Proofs.YtlnhocgjgmhfgaaGreatDoor

namespace Go.Proofs.YtlnhocgjgmhfgaaGreatDoor
open Go.ChangeShapes Go.WideShapes Go.RowKit
set_option maxRecDepth 100000

theorem again_all {H : Type} {enc : TypeId × Value → H} {P : Program} {W W' : World} (hl : laidOutB P = true) (hb : Below W.heap.size W W') :
    ∀ {ts : List TypeId} {vs : List Value} {ds : List (DataW H)} {ps : List MemPlace}, (∀ t ∈ ts, P.readableRec t = true ∧ t < P.types.size) → DataW.TrodAll enc P W 0 (fun _ => true) true ts vs ds ps →
      DataW.TrodAll enc P W' 0 (fun b => decide (b < W.heap.size)) true ts vs ds ps := by
  intro ts
  induction ts with
  | nil => intro vs ds ps _ h; exact match vs, ds, h with | [], [], h => h
  | cons t ts ih =>
    intro vs ds ps ht h
    obtain ⟨v, vs', d, ds', p, q, rfl, rfl, rfl, h1, h2⟩ := trodAll_cons h
    exact trodAll_cons_mk (Below.trod hl (ht t (by simp)).1 (ht t (by simp)).2 h1 hb (by obtain ⟨n, hn⟩ := h1; exact DataW.trod_lt n _ _ _ hn)) (ih (fun t' h' => ht t' (by simp [h'])) h2)
section
variable {H : Type} {enc : TypeId × Value → H} {W : World}
theorem cs_int1 {fuel : Nat} {cs : List Value} {x : DataW H × List MemPlace} (h : DataW.trod enc Tryz.prog W 0 (fun _ => true) true fuel 3 cs = some x) : ∃ n : Int, cs = [.int .i64 n] := by
  obtain ⟨a, e, -, -⟩ := DataW.trod_int Tryz.underlying3 h
  exact ⟨a, e⟩
/-- A list of elements of k cells, each read by its cells. -/
theorem slk_mk {α : Type} [Inhabited α] {f : α → List Value} {k len cap : Nat} {a : Addr} (hl : len ≤ cap) (hm : cap ≤ maxLen) (hk : 0 < k)
    (h : ∀ i, i < len → ∃ t : α, (f t).length = k ∧ ∀ j v, (f t)[j]? = some v → W.cell? (a.add (i * k + j)) = some v) : ∃ xs : List α, SlK f k W (.slice (some a) len cap) xs := by
  have h2 : ∀ i, ∃ t : α, i < len → (f t).length = k ∧ ∀ j v, (f t)[j]? = some v → W.cell? (a.add (i * k + j)) = some v := fun i => by
    by_cases hi : i < len
    · obtain ⟨t, ht⟩ := h i hi; exact ⟨t, fun _ => ht⟩
    · exact ⟨default, fun hh => absurd hh hi⟩
  obtain ⟨g, hg⟩ := Classical.axiomOfChoice h2
  obtain ⟨b, off, spot⟩ := a
  have c0 : 0 < len → ∃ v, W.cell? ((⟨b, off, spot⟩ : Addr).add 0) = some v := fun h0 => by
    obtain ⟨hl, hc⟩ := hg 0 h0
    have : 0 < (f (g 0)).length := by omega
    have := hc 0 _ (List.getElem?_eq_getElem this)
    exact ⟨_, by simpa using this⟩
  have hspot : 0 < len → spot = none := fun h0 => by
    obtain ⟨v, hv⟩ := c0 h0
    simpa [Addr.add] using World.cell?_spot hv
  have hadd : 0 < len → ∀ i, (⟨b, off, spot⟩ : Addr).add i = ⟨b, off + i, none⟩ := fun h0 i => by rw [hspot h0]; simp [Addr.add]
  refine ⟨(List.range len).map g, some ⟨b, off, spot⟩, b, off, cap, by simp, fun h0 => ?_, by simpa using hl, hm, (fun h => absurd h (by simp)), ⟨fun h0 => ?_, fun i hi j v hv => ?_⟩⟩
  · rw [hspot (by simpa using h0)]
  · have h0' : 0 < len := by simpa using h0
    obtain ⟨v, hv⟩ := c0 h0'
    rw [hadd h0'] at hv
    exact World.block_lt_of_cell? _ _ hv
  · have hi' : i < len := by simpa using hi
    have := (hg i hi').2 j v (by simpa using hv)
    rw [hadd (by omega), ← Nat.add_assoc] at this
    exact this
theorem cs_edges {fuel : Nat} {cs : List Value} {x : DataW H × List MemPlace} (h : DataW.trod enc Tryz.prog W 0 (fun _ => true) true fuel 22 cs = some x) :
    ∃ (c : Value) (xs : List (Int × Int × Int)), cs = [c] ∧ SlK e3 3 W c xs := by
  rcases Go.Deep.open_slice Tryz.underlying22 h with ⟨hcs, -⟩ | ⟨a, len, cap, m, n, D, Pl, hcs, -, hl, hm, hmm, -, hi⟩
  · exact ⟨_, [], hcs, SlK.nil⟩
  · have c2 : Tryz.prog.cellsOf 3 = 1 := by kernel_rfl
    have c3 : Tryz.prog.cellsOf 81 = 3 := by kernel_rfl
    simp only [if_true] at hmm
    obtain ⟨xs, hx⟩ := slk_mk (f := e3) (k := 3) (W := W) (a := a) hl hm (by omega) (fun i hil => by
      obtain ⟨cs', hc, ht⟩ := hi i (by omega)
      rw [c3] at hc
      obtain ⟨-, hcl, hat⟩ := World.cells?_some hc
      obtain ⟨y0, y1, y2, n', -, -, h0, h1, h2⟩ := Go.Deep.trod_struct3 Tryz.underlying81 ht
      match cs', hcl with
      | [u0, u1, u2], _ =>
        simp [c2] at h0 h1 h2
        obtain ⟨p, e0⟩ := cs_int1 h0
        obtain ⟨q, e1⟩ := cs_int1 h1
        obtain ⟨r, e2⟩ := cs_int1 h2
        simp at e0 e1 e2
        subst e0 e1 e2
        refine ⟨(p, q, r), rfl, fun j v hv => ?_⟩
        have hj : j < 3 := (List.getElem?_eq_some_iff.1 hv).1
        rw [← Go.Deep.add_add, hat j hj]
        exact hv)
    exact ⟨_, xs, hcs, hx⟩
theorem cs_ints1 {fuel : Nat} {cs : List Value} {x : DataW H × List MemPlace} (h : DataW.trod enc Tryz.prog W 0 (fun _ => true) true fuel 36 cs = some x) :
    ∃ (c : Value) (xs : List Int), cs = [c] ∧ SlK iz 1 W c xs := by
  rcases Go.Deep.open_slice Tryz.underlying36 h with ⟨hcs, -⟩ | ⟨a, len, cap, m, n, D, Pl, hcs, -, hl, hm, hmm, -, hi⟩
  · exact ⟨_, [], hcs, SlK.nil⟩
  · have c2 : Tryz.prog.cellsOf 3 = 1 := by kernel_rfl
    simp only [if_true] at hmm
    obtain ⟨xs, hx⟩ := slk_mk (f := iz) (k := 1) (W := W) (a := a) hl hm (by omega) (fun i hil => by
      obtain ⟨cs', hc, ht⟩ := hi i (by omega)
      rw [c2] at hc
      obtain ⟨-, hcl, hat⟩ := World.cells?_some hc
      obtain ⟨p, e0⟩ := cs_int1 ht
      subst e0
      refine ⟨p, rfl, fun j v hv => ?_⟩
      have hj : j < 1 := (List.getElem?_eq_some_iff.1 hv).1
      rw [← Go.Deep.add_add, hat j hj]
      exact hv)
    exact ⟨_, xs, hcs, hx⟩
theorem open_graph {v : Value} {d : DataW H} {ps : List MemPlace} (hval : Value.okWide Tryz.prog W .any 0 24 v) (hd : DataW.Trod enc Tryz.prog W 0 (fun _ => true) true 24 v d ps) :
    ∃ (n : Int) (u : Value) (es : List (Int × Int × Int)), v = .agg #[.int .i64 n, u] ∧ SlK e3 3 W u es := by
  obtain ⟨cs, rfl, hsz⟩ := okWide_struct Tryz.underlying24 hval
  obtain ⟨fuel, hf⟩ := hd
  obtain ⟨y0, y1, n, -, -, h0, h1⟩ := trod_struct2 Tryz.underlying24 hf
  have c1 : Tryz.prog.cellsOf 22 = 1 := by kernel_rfl
  have c2 : Tryz.prog.cellsOf 3 = 1 := by kernel_rfl
  have c3 : Tryz.prog.cellsOf 24 = 2 := by kernel_rfl
  obtain ⟨l⟩ := cs
  rw [c3] at hsz
  match l, hsz with
  | [u0, u1], _ =>
    simp [c1, c2, Value.cells] at h0 h1
    obtain ⟨R, e0⟩ := cs_int1 h0
    obtain ⟨v1, b, e1, hb⟩ := cs_edges h1
    simp at e0 e1
    subst e0 e1
    exact ⟨R, _, b, rfl, hb⟩
theorem open_uni {v : Value} {d : DataW H} {ps : List MemPlace} (hval : Value.okWide Tryz.prog W .any 0 38 v) (hd : DataW.Trod enc Tryz.prog W 0 (fun _ => true) true 38 v d ps) :
    ∃ (n : Int) (u : Value) (es : List Int), v = .agg #[.int .i64 n, u] ∧ SlK iz 1 W u es := by
  obtain ⟨cs, rfl, hsz⟩ := okWide_struct Tryz.underlying38 hval
  obtain ⟨fuel, hf⟩ := hd
  obtain ⟨y0, y1, n, -, -, h0, h1⟩ := trod_struct2 Tryz.underlying38 hf
  have c1 : Tryz.prog.cellsOf 36 = 1 := by kernel_rfl
  have c2 : Tryz.prog.cellsOf 3 = 1 := by kernel_rfl
  have c3 : Tryz.prog.cellsOf 38 = 2 := by kernel_rfl
  obtain ⟨l⟩ := cs
  rw [c3] at hsz
  match l, hsz with
  | [u0, u1], _ =>
    simp [c1, c2, Value.cells] at h0 h1
    obtain ⟨R, e0⟩ := cs_int1 h0
    obtain ⟨v1, b, e1, hb⟩ := cs_ints1 h1
    simp at e0 e1
    subst e0 e1
    exact ⟨R, _, b, rfl, hb⟩
end
end Go.Proofs.YtlnhocgjgmhfgaaGreatDoor
