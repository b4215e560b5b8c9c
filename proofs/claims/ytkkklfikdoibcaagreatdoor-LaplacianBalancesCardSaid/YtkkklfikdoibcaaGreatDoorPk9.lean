/- The walks of slices.Equal and of the reference's Same over texts. The walk of the matrix law's awake: the chapter's examples. The walk of the reference's Few of matrices. Matrices by their numbers: what Determinant, Rank, Product and Transpose answer. The walks of laplacian's minor, Reduced, Cofactor, Trees. The walks of laplacian's Reduced, Cofactor, Trees. The walks of laplacian's within, and of the library's ContainsFunc at ints with its closure. The walk of laplacian's Image: right arguments. The condition 'early' of XJ by one closure in place of all orders. The walk of laplacian's Image: right arguments. -/
import Derived.Test.YtkkklfikdoibcaaGreatDoorPk5
import Derived.BigQuiet
import Derived.Test.YtkkklfikdoibcaaGreatDoorPk8
import Derived.WalkSpells
import Derived.Test.YtkkklfikdoibcaaGreatDoorPk6
namespace Go.Proofs.YtkkklfikdoibcaaGreatDoor
open Go.RowKit
set_option maxRecDepth 100000

theorem bytesM_ne {s t : ByteArray} (h : s ≠ t) : (s.toList == t.toList) = false := by
  rw [beq_eq_false_iff_ne]
  intro e
  apply h
  rw [ByteArray.toList_eq, ByteArray.toList_eq] at e
  exact ByteArray.ext (Array.toList_inj.1 e)
set_option maxHeartbeats 2000000 in
theorem rSameM_any (w : World) (v u : Value) (xs ys : List ByteArray) (hv : Sl eS w v xs) (hu : Sl eS w u ys) :
    Calls Tryz.prog 74 #[v, u] w (Rets fun r w' => r = .bool (decide (xs = ys)) ∧ Below w.heap.size w w') := by
  obtain ⟨a, b, o, c, rfl, hi, hp, hc, hm⟩ := hv.open elemStr
  obtain ⟨a', b', o', c', rfl, hi', hp', hc', hm'⟩ := hu.open elemStr
  clear hv hu
  unfold maxLen at hm hm'
  by_cases hl : xs.length = ys.length
  · have HL := Lib.hid hl
    have hne : ((xs.length : Int) != (ys.length : Int)) = false := by simp [hl]
    clear hl
    go_enter Tryz.func74, Tryz.ntmps74
    go_wp2
    go_loopw [5] (fun i wr => ∃ k : Nat, k ≤ xs.length ∧ i = .int .i64 k ∧ Hid (xs.take k = ys.take k) ∧ Below w.heap.size w wr) (fun i _ => xs.length - (intOf i).toNat)
    case atStart => exact ⟨0, Nat.zero_le _, rfl, Lib.hid (by simp), Below.refl _ _⟩
    case round =>
      obtain ⟨k, hk, rfl, hE, hb⟩ := hrel
      by_cases hkn : k < xs.length
      · have hky : k < ys.length := by rw [← HL.out]; exact hkn
        have h1 : wr.cell? ⟨b, o + k, none⟩ = some (.string xs[k]) := hp.at hb (Nat.le_refl _) k hkn
        have h2 : wr.cell? ⟨b', o' + k, none⟩ = some (.string ys[k]) := hp'.at hb (Nat.le_refl _) k hky
        have q1 : (0 : Int) ≤ (k : Int) := by omega
        have q2 : (k : Int) < (xs.length : Int) := by omega
        have q3 : (k : Int) < (ys.length : Int) := by omega
        by_cases hx : xs[k] = ys[k]
        · rw [hx] at h1
          have HN := Lib.hid (show xs.take (k + 1) = ys.take (k + 1) by rw [List.take_succ_eq_append_getElem hkn, List.take_succ_eq_append_getElem hky, hE.out, hx])
          clear hx
          go_wp2_with fail
          go_quiet (fail)
          have b3 := below_drewN hb nq
          go_wp2
          go_roundw
          case rel => exact ⟨k + 1, by omega, by go_num, HN, b3⟩
          case measure => simp [intOf]; omega
        · have HD := Lib.hid (show decide (xs = ys) = false by
            rw [decide_eq_false_iff_not]
            intro e
            apply hx
            subst e
            rfl)
          have ht := bytesM_ne hx
          clear hx
          go_wp2_with fail
          go_quiet (fail)
          have b3 := below_drewN hb nq
          go_wp2
          go_ret
          exact ⟨_, rfl, by rw [HD.out]; rfl, b3⟩
      · obtain rfl : k = xs.length := by omega
        have HD := Lib.hid (show decide (xs = ys) = true by
          rw [decide_eq_true_iff]
          have := hE.out
          rw [List.take_length, HL.out, List.take_length] at this
          exact this)
        go_wp2
        go_ret
        exact ⟨_, rfl, by rw [HD.out]; rfl, hb⟩
  · have hne : ((xs.length : Int) != (ys.length : Int)) = true := by simp; omega
    have HD := Lib.hid (show decide (xs = ys) = false by rw [decide_eq_false_iff_not]; intro e; exact hl (by rw [e]))
    clear hl
    go_enter Tryz.func74, Tryz.ntmps74
    go_wp2
    go_ret
    exact ⟨_, rfl, by rw [HD.out]; rfl, Below.refl _ _⟩

set_option maxHeartbeats 2000000 in
theorem EqualM_any (w : World) (v u : Value) (xs ys : List ByteArray) (hv : Sl eS w v xs) (hu : Sl eS w u ys) :
    Calls Tryz.prog 66 #[v, u] w (Rets fun r w' => r = .bool (decide (xs = ys)) ∧ Below w.heap.size w w') := by
  obtain ⟨a, b, o, c, rfl, hi, hp, hc, hm⟩ := hv.open elemStr
  obtain ⟨a', b', o', c', rfl, hi', hp', hc', hm'⟩ := hu.open elemStr
  clear hv hu
  unfold maxLen at hm hm'
  by_cases hl : xs.length = ys.length
  · have HL := Lib.hid hl
    have hne : ((xs.length : Int) != (ys.length : Int)) = false := by simp [hl]
    clear hl
    go_enter Tryz.func66, Tryz.ntmps66
    go_wp2
    go_loopw [13] (fun i wr => ∃ k : Nat, k ≤ xs.length ∧ i = .int .i64 k ∧ Hid (xs.take k = ys.take k) ∧ Below w.heap.size w wr) (fun i _ => xs.length - (intOf i).toNat)
    case atStart => exact ⟨0, Nat.zero_le _, rfl, Lib.hid (by simp), Below.refl _ _⟩
    case round =>
      obtain ⟨k, hk, rfl, hE, hb⟩ := hrel
      by_cases hkn : k < xs.length
      · have hky : k < ys.length := by rw [← HL.out]; exact hkn
        have h1 : wr.cell? ⟨b, o + k, none⟩ = some (.string xs[k]) := hp.at hb (Nat.le_refl _) k hkn
        have h2 : wr.cell? ⟨b', o' + k, none⟩ = some (.string ys[k]) := hp'.at hb (Nat.le_refl _) k hky
        have q1 : (0 : Int) ≤ (k : Int) := by omega
        have q2 : (k : Int) < (xs.length : Int) := by omega
        have q3 : (k : Int) < (ys.length : Int) := by omega
        by_cases hx : xs[k] = ys[k]
        · rw [hx] at h1
          have HN := Lib.hid (show xs.take (k + 1) = ys.take (k + 1) by rw [List.take_succ_eq_append_getElem hkn, List.take_succ_eq_append_getElem hky, hE.out, hx])
          clear hx
          go_wp2_with fail
          go_quiet (fail)
          have b3 := below_drewN hb nq
          go_wp2
          go_roundw
          case rel => exact ⟨k + 1, by omega, by go_num, HN, b3⟩
          case measure => simp [intOf]; omega
        · have HD := Lib.hid (show decide (xs = ys) = false by
            rw [decide_eq_false_iff_not]
            intro e
            apply hx
            subst e
            rfl)
          have ht := bytesM_ne hx
          clear hx
          go_wp2_with fail
          go_quiet (fail)
          have b3 := below_drewN hb nq
          go_wp2
          go_ret
          exact ⟨_, rfl, by rw [HD.out]; rfl, b3⟩
      · obtain rfl : k = xs.length := by omega
        have HD := Lib.hid (show decide (xs = ys) = true by
          rw [decide_eq_true_iff]
          have := hE.out
          rw [List.take_length, HL.out, List.take_length] at this
          exact this)
        go_wp2
        go_ret
        exact ⟨_, rfl, by rw [HD.out]; rfl, hb⟩
  · have hne : ((xs.length : Int) != (ys.length : Int)) = true := by simp; omega
    have HD := Lib.hid (show decide (xs = ys) = false by rw [decide_eq_false_iff_not]; intro e; exact hl (by rw [e]))
    clear hl
    go_enter Tryz.func66, Tryz.ntmps66
    go_wp2
    go_ret
    exact ⟨_, rfl, by rw [HD.out]; rfl, Below.refl _ _⟩

end Go.Proofs.YtkkklfikdoibcaaGreatDoor

namespace Go.Proofs.YtkkklfikdoibcaaGreatDoor
open Go.RowKit
set_option maxRecDepth 100000

theorem Sl.lit {α : Type} (enc : α → Value) (w : World) (xs : List α) (e : TypeId) (h : xs.length ≤ 1000) : Sl enc (w.alloc (.cells (xs.map enc).toArray e)) (.slice (some ⟨w.heap.size, 0, none⟩) xs.length xs.length) xs :=
  Sl.ofOwns (n := xs.length) (base := 0) (e := e) ⟨by simp, .inr ⟨w.heap.size, xs.length, _, rfl, by omega, heap_alloc_new w _, by omega, by unfold maxLen; omega, by simp, by simp [List.take_of_length_le]⟩⟩
theorem MR.eq {m : MR} {R C : Int} {xs : List ByteArray} {k : Int} (h1 : m.R = R) (h2 : m.C = C) (h3 : m.xs = xs) (h4 : m.k = k) : m = ⟨R, C, xs, k⟩ := by cases m; subst h1 h2 h3 h4; rfl
theorem retM_of {P : Program} {f : FuncId} {a : Array Value} {w : World} {m : MR} {R C : Int} {xs : List ByteArray} {k : Int} (h : Calls P f a w (RetMR w m)) (e : m = ⟨R, C, xs, k⟩) : Calls P f a w (RetM w R C xs k) := by subst e; exact h
theorem retS_of {P : Program} {f : FuncId} {a : Array Value} {w : World} {p : ByteArray × Int} {t : ByteArray} {k : Int} (h : Calls P f a w (Rets fun v w' => v = .tuple #[.string p.1, .int .i64 p.2] ∧ Below w.heap.size w w')) (e : p = (t, k)) :
    Calls P f a w (Rets fun v w' => v = .tuple #[.string t, .int .i64 k] ∧ Below w.heap.size w w') := by subst e; exact h
theorem retN_of {P : Program} {f : FuncId} {a : Array Value} {w : World} {p : Nat × Int} {t : Nat} {k : Int} (h : Calls P f a w (Rets fun v w' => v = .tuple #[.int .i64 p.1, .int .i64 p.2] ∧ Below w.heap.size w w')) (e : p = (t, k)) :
    Calls P f a w (Rets fun v w' => v = .tuple #[.int .i64 t, .int .i64 k] ∧ Below w.heap.size w w') := by subst e; exact h
end Go.Proofs.YtkkklfikdoibcaaGreatDoor

namespace Go.Proofs.YtkkklfikdoibcaaGreatDoor
open Go.RowKit
set_option maxRecDepth 100000

def nine (xs : List ByteArray) : Bool := xs.all fun s => decide (s.size ≤ 9)
theorem nine_drop (xs : List ByteArray) (k : Nat) (h : k < xs.length) : nine (xs.drop k) = (decide (xs[k].size ≤ 9) && nine (xs.drop (k + 1))) := by
  rw [nine, List.drop_eq_getElem_cons h, List.all_cons]; rfl
theorem nine_iff (xs : List ByteArray) : nine xs = true ↔ ∀ s ∈ xs, s.size ≤ 9 := by simp [nine]
def lenOk (n : Nat) : Bool := !(decide (60 < n) && decide (n < 400)) && !decide (1000 < n)
def sideOk (most R C : Int) (n : Nat) : Bool := decide (R ≤ most) && decide (C ≤ most) || !sideB R || !sideB C || !decide ((n : Int) = R * C)
/-- What Few answers. -/
def few03 (most R C : Int) (xs : List ByteArray) : Bool := lenOk xs.length && nine xs && sideOk most R C xs.length
theorem few03_rm {most R C : Int} {xs : List ByteArray} (h : few03 most R C xs = true) : Fit 9 xs ∧ (mchkM R C xs = 0 → R ≤ most ∧ C ≤ most) := by
  unfold few03 at h
  simp only [Bool.and_eq_true] at h
  refine ⟨(nine_iff xs).1 h.1.2, fun hm => ?_⟩
  obtain ⟨r, c, hrm⟩ := rm_of hm
  have h1 : sideB R = true := (sideB_iff R).2 (by have := hrm.rows; have := hrm.r16; omega)
  have h2 : sideB C = true := (sideB_iff C).2 (by have := hrm.cols; have := hrm.c16; omega)
  have h3 : (xs.length : Int) = R * C := by rw [hrm.rows, hrm.cols, hrm.len]; exact Int.natCast_mul _ _
  have h4 := h.2
  unfold sideOk at h4
  rw [h1, h2, decide_eq_true h3] at h4
  simpa using h4
end Go.Proofs.YtkkklfikdoibcaaGreatDoor

namespace Go.Proofs.YtkkklfikdoibcaaGreatDoor
open Go.RowKit
set_option maxRecDepth 100000

theorem size_txt (z : Int) : (txt z).size ≤ dn z + 2 := by
  have h := itoa_len z
  simpa [txt, ByteArray.size] using h
theorem fit_cells {r c D : Nat} {A : Mat} (h : ∀ i k, i < r → k < c → dn (A i k) ≤ D) : Fit (D + 2) (cellsF r c A) := by
  intro s hs
  obtain ⟨t, ht, rfl⟩ := List.mem_map.1 hs
  have ht' : t < r * c := by simpa using ht
  have hc : 0 < c := by rcases Nat.eq_zero_or_pos c with e | e; · simp [e] at ht'
                        · exact e
  have := h (t / c) (t % c) (Nat.div_lt_of_lt_mul (by rw [Nat.mul_comm]; exact ht')) (Nat.mod_lt _ hc)
  have := size_txt (A (t / c) (t % c))
  omega
theorem matF_cells {r c i k : Nat} {A : Mat} (hi : i < r) (hk : k < c) (hb : big (A i k) = false) : matF c (cellsF r c A) i k = A i k := by
  unfold matF
  rw [List.getD_eq_getElem?_getD, cellsF_get? A hi hk]
  exact Good.num (.of hb)
theorem rm_cells {r c D : Nat} {A : Mat} (hr : r ≤ 16) (hc : c ≤ 16) (hD : D ≤ 1024) (h : ∀ i k, i < r → k < c → dn (A i k) ≤ D) : RM r c (cellsF r c A) r c :=
  rm_cellsF hr hc fun i k hi hk => bigD (Nat.le_trans (h i k hi hk) hD)
theorem rank_of {xs : List ByteArray} {r c : Nat} (h : RM r c xs r c) : ∃ k, rankS r c xs = (k, 0) ∧ Rk r c (matF c xs) k ∧ k ≤ r ∧ k ≤ c := by
  have hK := Kept.cols (m := r) (n := c) (matF c xs) c (Nat.le_refl _)
  exact ⟨_, by unfold rankS; rw [if_pos h.mchk]; rfl, hK.rk, hK.rank_le⟩
theorem rank_cells {r c D : Nat} {A : Mat} (hr : r ≤ 16) (hc : c ≤ 16) (hD : D ≤ 1024) (h : ∀ i k, i < r → k < c → dn (A i k) ≤ D) : ∃ k, rankS r c (cellsF r c A) = (k, 0) ∧ Rk r c A k ∧ k ≤ r ∧ k ≤ c := by
  obtain ⟨k, h1, h2, h3⟩ := rank_of (rm_cells hr hc hD h)
  exact ⟨k, h1, rk_congr h2 fun i j hi hj => matF_cells hi hj (bigD (Nat.le_trans (h i j hi hj) hD)), h3⟩
theorem det_of {xs : List ByteArray} {n : Nat} (h : RM n n xs n n) : detS n n xs = (txt (det n (matF n xs)), 0) := by
  unfold detS; rw [if_pos h.mchk, if_pos rfl]; rfl
theorem det_cells {n D : Nat} {A : Mat} (hn : n ≤ 16) (hD : D ≤ 1024) (h : ∀ i k, i < n → k < n → dn (A i k) ≤ D) : detS n n (cellsF n n A) = (txt (det n A), 0) := by
  rw [det_of (rm_cells hn hn hD h), det_congr fun i j hi hj => matF_cells hi hj (bigD (Nat.le_trans (h i j hi hj) hD))]
theorem prod_of {xs ys : List ByteArray} {r n p : Nat} (h : RM r n xs r n) (h' : RM n p ys n p) : prodS r n xs n p ys = ⟨r, p, cellsF r p (mulM n (matF n xs) (matF p ys)), 0⟩ := by
  unfold prodS twoM; rw [if_pos h.mchk, if_pos h'.mchk, if_pos rfl]; rfl
theorem tr_of {xs : List ByteArray} {r c : Nat} (h : RM r c xs r c) : trS r c xs = ⟨c, r, cellsF c r (tr (matF c xs)), 0⟩ := by
  unfold trS; rw [if_pos h.mchk]; rfl
theorem RM.self {R C : Int} {xs : List ByteArray} {r c : Nat} (h : RM R C xs r c) : RM r c xs r c := ⟨rfl, rfl, h.r16, h.c16, h.len, h.chk⟩
theorem Fit.big {D : Nat} {xs : List ByteArray} (h : Fit D xs) (hD : D ≤ 1000000) : ∀ s ∈ xs, s.size ≤ 1000000 := fun s hs => Nat.le_trans (h s hs) hD
/-- Functions of matrices, at right ones with few digits. -/
theorem det_call {w : World} {v : Value} {xs : List ByteArray} {n D : Nat} {A : Mat} (hv : Sl eS w v xs) (hx : xs = cellsF n n A) (hn : n ≤ 6) (hD : D ≤ 58) (h : ∀ i k, i < n → k < n → dn (A i k) ≤ D) (he : Env w) :
    Calls Tryz.prog 90 #[.agg #[.int .i64 n, .int .i64 n, v]] w (Rets fun v w' => v = .tuple #[.string (txt (det n A)), .int .i64 0] ∧ Below w.heap.size w w') := by
  subst hx
  exact retS_of (Determinant_any w n n v _ hv ((fit_cells h).mono (by omega)) (fun _ => by omega) he) (det_cells (by omega) (by omega) h)
theorem tr_call {w : World} {v : Value} {xs : List ByteArray} {r c D : Nat} {A : Mat} (hv : Sl eS w v xs) (hx : xs = cellsF r c A) (hr : r ≤ 16) (hc : c ≤ 16) (hD : D ≤ 1000) (h : ∀ i k, i < r → k < c → dn (A i k) ≤ D) :
    Calls Tryz.prog 31 #[.agg #[.int .i64 r, .int .i64 c, v]] w (RetM w c r (cellsF c r (tr A)) 0) := by
  subst hx
  refine retM_of (Transpose_any w r c v _ hv (fun _ => (fit_cells h).big (by omega))) ?_
  rw [tr_of (rm_cells hr hc (by omega) h), cellsF_congr fun i k hi hk => ?_]
  exact matF_cells hk hi (bigD (Nat.le_trans (h k i hk hi) (by omega)))
theorem rank_call {w : World} {v : Value} {xs : List ByteArray} {r c D k : Nat} {A : Mat} (hv : Sl eS w v xs) (hx : xs = cellsF r c A) (hr : r ≤ 6) (hc : c ≤ 6) (hD : D ≤ 58) (h : ∀ i k, i < r → k < c → dn (A i k) ≤ D) (hk : Rk r c A k) (he : Env w) :
    Calls Tryz.prog 32 #[.agg #[.int .i64 r, .int .i64 c, v]] w (Rets fun v w' => v = .tuple #[.int .i64 k, .int .i64 0] ∧ Below w.heap.size w w') := by
  subst hx
  obtain ⟨k', h1, h2, -⟩ := rank_cells (r := r) (c := c) (D := D) (A := A) (by omega) (by omega) (by omega) h
  obtain rfl := h2.uniq hk
  exact retN_of (Rank_any w r c v _ hv ((fit_cells h).mono (by omega)) (fun _ => by omega) he) h1
end Go.Proofs.YtkkklfikdoibcaaGreatDoor

namespace Go.Proofs.YtkkklfikdoibcaaGreatDoor
open Go.RowKit Go.Shelf
set_option maxRecDepth 100000

theorem dn_six {z : Int} (h : -100000 ≤ z ∧ z ≤ 100000) : dn z ≤ 6 := by
  unfold dn
  refine Nat.le_trans (digs_len_mono _ (by omega) (show z.natAbs ≤ 100000 by omega)) ?_
  rw [digs_len _ _ _ (by omega)]
  decide
theorem dn_lap {ns : List (Nat × Nat × Nat)} (h : ∀ x ∈ ns, x.2.2 ≤ 50) (hl : ns.length ≤ 1000) (i k : Nat) : dn (lap ns i k) ≤ 6 := by
  have := Bd.lap h i k
  exact dn_six (by omega)
theorem min_cells {n : Nat} {A : Mat} {i k : Int} (hn : n ≤ 16) (hn1 : 1 ≤ n) (h : ∀ i k, dn (A i k) ≤ 6) (hi : 0 ≤ i ∧ i < n) (hk : 0 ≤ k ∧ k < n) :
    minS n n (cellsF n n A) i k = ⟨((n - 1 : Nat) : Int), ((n - 1 : Nat) : Int), cellsF (n - 1) (n - 1) (mnr A i.toNat k.toNat), 0⟩ := by
  have hrm := rm_cells (r := n) (c := n) (D := 6) (A := A) hn hn (by omega) (fun i k _ _ => h i k)
  have ht : MthereS n n (cellsF n n A) i k = 0 := by
    unfold MthereS
    rw [if_pos hrm.mchk, if_neg (by omega)]
  unfold minS
  rw [if_pos ht]
  have e1 : (n : Int) - 1 = ((n - 1 : Nat) : Int) := by omega
  rw [e1]
  congr 1
  show cellsF (n - 1) (n - 1) (mnr (matF n (cellsF n n A)) i.toNat k.toNat) = _
  refine cellsF_congr fun a b ha hb => ?_
  have h1 := sk_lt (r := i.toNat) ha
  have h2 := sk_lt (r := k.toNat) hb
  exact matF_cells (by omega) (by omega) (bigD (Nat.le_trans (h _ _) (by omega)))
/-- What minor answers. -/
def lminS (n : Int) (es : List (Int × Int × Int)) (i k : Int) : MR :=
  if chkG n es = 0 then (if (0 ≤ i ∧ i < n) ∧ (0 ≤ k ∧ k < n) then ⟨((n.toNat - 1 : Nat) : Int), ((n.toNat - 1 : Nat) : Int), cellsF (n.toNat - 1) (n.toNat - 1) (mnr (lap (nsOf es)) i.toNat k.toNat), 0⟩ else .bad 2) else .bad (chkG n es)
set_option maxHeartbeats 4000000 in
theorem minor_any (w : World) (n : Int) (v : Value) (es : List (Int × Int × Int)) (i k : Int) (hv : SlK e3 3 w v es) (hl : es.length ≤ 1000) (he : Env w) :
    Calls Tryz.prog 71 #[.agg #[.int .i64 n, v], .int .i64 i, .int .i64 k] w (RetMR w (lminS n es i k)) := by
  have HV := Lib.hid hv; have HE := Lib.hid he
  obtain ⟨ad, c, rfl⟩ := hv.form
  have HB := Lib.hid (((Below.refl w.heap.size w).alloc (Nat.le_refl _) (.cells #[.int .i64 n, .slice ad es.length c] 24)).alloc (by simp) (.cells #[.int .i64 0, .int .i64 0, .slice none 0 0] 29))
  have HK := Lib.hid ((Blk.new w [.int .i64 n, .slice ad es.length c] 24).alloc (.cells #[.int .i64 0, .int .i64 0, .slice none 0 0] 29))
  have HR := Lib.hid (Blk.at1 w (.cells #[.int .i64 n, .slice ad es.length c] 24) [.int .i64 0, .int .i64 0, .slice none 0 0] 29)
  have HF := Lib.hid (Full_any _ n _ _ (HV.out.below HB.out (Nat.le_refl _)) hl (HE.out.below HB.out (Nat.le_refl _)))
  have q0 := HB.out
  clear hv he
  by_cases h : chkG n es = 0
  · obtain ⟨ns, hRG⟩ := rg_of h
    obtain ⟨N, rfl⟩ : ∃ N : Nat, n = (N : Int) := ⟨n.toNat, by have := hRG.pos; omega⟩
    have hN1 := hRG.pos; have hN12 := hRG.le
    have hes := hRG.eq
    subst hes
    have hnl : (ns.map n3).length = ns.length := List.length_map _
    rw [hnl] at HB HK HR q0 HF ⊢
    have HF2 := Lib.hid (show Calls Tryz.prog 16 #[.agg #[.int .i64 (N : Nat), .slice ad ns.length c]] _ (RetM _ N N (cellsF N N (lap ns)) 0) from retM_of HF.out (by unfold fullS; rw [if_pos h, nsOf_n3]; rfl))
    by_cases hik : (0 ≤ i ∧ i < N) ∧ (0 ≤ k ∧ k < N)
    · have HM := Lib.hid (min_cells (n := N) (A := lap ns) (by omega) (by omega) (fun a b => dn_lap (fun x hx => (hRG.rng x hx).2.2.2.1) (by omega) a b) hik.1 hik.2)
      have HFIT := Lib.hid (fit_cells (r := N) (c := N) (D := 6) (A := lap ns) (fun a b _ _ => dn_lap (fun x hx => (hRG.rng x hx).2.2.2.1) (by omega) a b))
      show Calls _ _ _ _ (RetM w (lminS N (ns.map n3) i k).R (lminS N (ns.map n3) i k).C (lminS N (ns.map n3) i k).xs (lminS N (ns.map n3) i k).k)
      rw [show lminS N (ns.map n3) i k = ⟨((N - 1 : Nat) : Int), ((N - 1 : Nat) : Int), cellsF (N - 1) (N - 1) (mnr (lap ns) i.toNat k.toNat), 0⟩ by unfold lminS; rw [if_pos h, if_pos hik, nsOf_n3]; rfl]
      have d1 : decide (i < 0) = false := by simp only [decide_eq_false_iff_not]; omega
      have d2 : decide ((N : Int) ≤ i) = false := by simp only [decide_eq_false_iff_not]; omega
      have d3 : decide (k < 0) = false := by simp only [decide_eq_false_iff_not]; omega
      have d4 : decide ((N : Int) ≤ k) = false := by simp only [decide_eq_false_iff_not]; omega
      clear h hRG hik
      go_enter Tryz.func71, Tryz.ntmps71
      go_wp2_with (first
        | (go_at_call 134; (with_reducible refine (retM_of (Minor_any _ N N _ _ i k (HS.out.below ((Below.refl _ w1).alloc (Nat.le_refl _) _) (Nat.le_refl _)) (fun _ => HFIT.out.big (by omega))) HM.out).mono ?_); rintro e w2 ⟨v2, rfl, u2, rfl, hs2, hb2⟩; have HS2 := Lib.hid hs2; have hb12 := ((Below.refl w1.heap.size w1).alloc (Nat.le_refl _) (.cells #[.int .i64 N, .int .i64 N, .slice a1 (cellsF N N (lap ns)).length k1] 29)).trans (hb2.mono (by simp)); have HR2 := Lib.hid (HR1.out.below hb12 (Nat.le_refl _)); have q2 := q1.trans (hb12.mono q1.size); obtain ⟨a2, k2, rfl⟩ := sl_form HS2.out; have r0 := HR2.out.free 0; have r1 := HR2.out.free 1; have r2 := HR2.out.free 2; have y0 := HR2.out.cell 0 _ rfl; have y1 := HR2.out.cell 1 _ rfl; have y2 := HR2.out.cell 2 _ rfl; have hrl := HR2.out.lt; clear hs2 hb2)
        | (go_at_call 16; (with_reducible refine HF2.out.mono ?_); rintro e w1 ⟨v1, rfl, u1, rfl, hs1, hb1⟩; have HS := Lib.hid hs1; obtain ⟨a1, k1, rfl⟩ := sl_form HS.out; have HK1 := Lib.hid (HK.out.below hb1 (Nat.le_refl _)); have HR1 := Lib.hid (HR.out.below hb1 (Nat.le_refl _)); have q1 := q0.trans (hb1.mono q0.size); have g0 := HK1.out.cell 0 _ rfl; have g1 := HK1.out.cell 1 _ rfl; have gl := HK1.out.lt; clear hb1 hs1))
      obtain ⟨hR, hS, hW⟩ := res_done (R := ((N - 1 : Nat) : Int)) (C := ((N - 1 : Nat) : Int)) q2 (by omega) HR2.out HS2.out
      have z0 := hR.cell 0 _ rfl; have z1 := hR.cell 1 _ rfl; have z2 := hR.cell 2 _ rfl
      exact bodyPost_ret (v := .tuple #[.agg #[.int .i64 ((N - 1 : Nat) : Int), .int .i64 ((N - 1 : Nat) : Int), .slice a2 (cellsF (N - 1) (N - 1) (mnr (lap ns) i.toNat k.toNat)).length k2], .int .i64 0]) (by simp [results, Tryz.results71, go_sem, z0, z1, z2]) rfl ⟨_, rfl, _, rfl, hS, hW⟩
    · have hcs : decide (i < 0) = true ∨ (decide (i < 0) = false ∧ decide ((N : Int) ≤ i) = true) ∨ (decide (i < 0) = false ∧ decide ((N : Int) ≤ i) = false ∧ decide (k < 0) = true) ∨ (decide (i < 0) = false ∧ decide ((N : Int) ≤ i) = false ∧ decide (k < 0) = false ∧ decide ((N : Int) ≤ k) = true) := by
        simp only [decide_eq_true_eq, decide_eq_false_iff_not]; omega
      show Calls _ _ _ _ (RetM w (lminS N (ns.map n3) i k).R (lminS N (ns.map n3) i k).C (lminS N (ns.map n3) i k).xs (lminS N (ns.map n3) i k).k)
      rw [show lminS N (ns.map n3) i k = .bad 2 by unfold lminS; rw [if_pos h, if_neg hik]]
      clear h hRG hik
      rcases hcs with d1 | ⟨d1, d2⟩ | ⟨d1, d2, d3⟩ | ⟨d1, d2, d3, d4⟩
      all_goals
        go_enter Tryz.func71, Tryz.ntmps71
        go_wp2_with (go_at_call 16; (with_reducible refine HF2.out.mono ?_); rintro e w1 ⟨v1, rfl, u1, rfl, hs1, hb1⟩; obtain ⟨a1, k1, rfl⟩ := sl_form hs1; have HK1 := Lib.hid (HK.out.below hb1 (Nat.le_refl _)); have HR1 := Lib.hid (HR.out.below hb1 (Nat.le_refl _)); have q1 := q0.trans (hb1.mono q0.size); have g0 := HK1.out.cell 0 _ rfl; have g1 := HK1.out.cell 1 _ rfl; have gl := HK1.out.lt; have r0 := HR1.out.free 0; have r1 := HR1.out.free 1; have r2 := HR1.out.free 2; have y0 := HR1.out.cell 0 _ rfl; have y1 := HR1.out.cell 1 _ rfl; have y2 := HR1.out.cell 2 _ rfl; have hrl := HR1.out.lt; clear hb1 hs1)
        obtain ⟨hR, -, hW⟩ := res_done (R := 0) (C := 0) q1 (by omega) HR1.out (Sl.nil' eS _)
        have hR3 := hR.alloc (.cells #[.int .i64 N, .int .i64 N, .slice a1 (cellsF N N (lap ns)).length k1] 29)
        have hW3 := hW.alloc hW.size (.cells #[.int .i64 N, .int .i64 N, .slice a1 (cellsF N N (lap ns)).length k1] 29)
        generalize (((w1.setCell ⟨w.heap.size + 1, 0, none⟩ (.int .i64 0)).setCell ⟨w.heap.size + 1, 1, none⟩ (.int .i64 0)).setCell ⟨w.heap.size + 1, 2, none⟩ (.slice none 0 0)).alloc (.cells #[.int .i64 N, .int .i64 N, .slice a1 (cellsF N N (lap ns)).length k1] 29) = w3 at hR3 hW3 ⊢
        have z0 := hR3.cell 0 _ rfl; have z1 := hR3.cell 1 _ rfl; have z2 := hR3.cell 2 _ rfl
        exact bodyPost_ret (v := .tuple #[.agg #[.int .i64 0, .int .i64 0, .slice none 0 0], .int .i64 2]) (by simp [results, Tryz.results71, go_sem, z0, z1, z2]) rfl ⟨_, rfl, _, rfl, Sl.nil' _ _, hW3⟩
  · have hne : (chkG n es == 0) = false := by rw [beq_eq_false_iff_ne]; exact h
    have HF2 := Lib.hid (show Calls Tryz.prog 16 #[.agg #[.int .i64 n, .slice ad es.length c]] _ (RetM _ 0 0 [] (chkG n es)) from retM_of HF.out (by unfold fullS; rw [if_neg h]; rfl))
    show Calls _ _ _ _ (RetM w (lminS n es i k).R (lminS n es i k).C (lminS n es i k).xs (lminS n es i k).k)
    rw [show lminS n es i k = .bad (chkG n es) by unfold lminS; rw [if_neg h]]
    obtain ⟨z, hz⟩ : ∃ z, chkG n es = z := ⟨_, rfl⟩
    rw [hz] at hne HF2 ⊢
    clear h hz
    go_enter Tryz.func71, Tryz.ntmps71
    go_wp2_with (go_at_call 16; (with_reducible refine HF2.out.mono ?_); rintro e w1 ⟨v1, rfl, u1, rfl, hs1, hb1⟩; obtain ⟨a1, k1, rfl⟩ := sl_form hs1; have HR1 := Lib.hid (HR.out.below hb1 (Nat.le_refl _)); have q1 := q0.trans (hb1.mono q0.size); have r0 := HR1.out.free 0; have r1 := HR1.out.free 1; have r2 := HR1.out.free 2; have y0 := HR1.out.cell 0 _ rfl; have y1 := HR1.out.cell 1 _ rfl; have y2 := HR1.out.cell 2 _ rfl; have hrl := HR1.out.lt; clear hb1 hs1)
    obtain ⟨hR, -, hW⟩ := res_done (R := 0) (C := 0) q1 (by omega) HR1.out (Sl.nil' eS _)
    have hR3 := hR.alloc (.cells #[.int .i64 0, .int .i64 0, .slice a1 0 k1] 29)
    have hW3 := hW.alloc hW.size (.cells #[.int .i64 0, .int .i64 0, .slice a1 0 k1] 29)
    generalize (((w1.setCell ⟨w.heap.size + 1, 0, none⟩ (.int .i64 0)).setCell ⟨w.heap.size + 1, 1, none⟩ (.int .i64 0)).setCell ⟨w.heap.size + 1, 2, none⟩ (.slice none 0 0)).alloc (.cells #[.int .i64 0, .int .i64 0, .slice a1 0 k1] 29) = w3 at hR3 hW3 ⊢
    have z0 := hR3.cell 0 _ rfl; have z1 := hR3.cell 1 _ rfl; have z2 := hR3.cell 2 _ rfl
    exact bodyPost_ret (v := .tuple #[.agg #[.int .i64 0, .int .i64 0, .slice none 0 0], .int .i64 z]) (by simp [results, Tryz.results71, go_sem, z0, z1, z2]) rfl ⟨_, rfl, _, rfl, Sl.nil' _ _, hW3⟩
end Go.Proofs.YtkkklfikdoibcaaGreatDoor

namespace Go.Proofs.YtkkklfikdoibcaaGreatDoor
open Go.RowKit Go.Shelf
set_option maxRecDepth 100000

set_option maxHeartbeats 2000000 in
theorem Reduced_any (w : World) (n : Int) (v : Value) (es : List (Int × Int × Int)) (q : Int) (hv : SlK e3 3 w v es) (hl : es.length ≤ 1000) (he : Env w) :
    Calls Tryz.prog 18 #[.agg #[.int .i64 n, v], .int .i64 q] w (RetMR w (lminS n es q q)) := by
  have HV := Lib.hid hv; have HE := Lib.hid he
  obtain ⟨ad, c, rfl⟩ := hv.form
  have HB := Lib.hid (((Below.refl w.heap.size w).alloc (Nat.le_refl _) (.cells #[.int .i64 n, .slice ad es.length c] 24)).alloc (by simp) (.cells #[.int .i64 0, .int .i64 0, .slice none 0 0] 29))
  have HR := Lib.hid (Blk.at1 w (.cells #[.int .i64 n, .slice ad es.length c] 24) [.int .i64 0, .int .i64 0, .slice none 0 0] 29)
  have HF := Lib.hid (minor_any _ n _ _ q q (HV.out.below HB.out (Nat.le_refl _)) hl (HE.out.below HB.out (Nat.le_refl _)))
  have q0 := HB.out
  obtain ⟨⟨R, C, xs, k⟩, hm⟩ : ∃ m, lminS n es q q = m := ⟨_, rfl⟩
  rw [hm] at HF ⊢
  have HF2 := Lib.hid (retM_of HF.out rfl)
  show Calls _ _ _ _ (RetM w R C xs k)
  clear hv he hm HF
  go_enter Tryz.func18, Tryz.ntmps18
  go_wp2_with (go_at_call 71; (with_reducible refine HF2.out.mono ?_); rintro e w1 ⟨v1, rfl, u1, rfl, hs1, hb1⟩; have HS := Lib.hid hs1; obtain ⟨a1, k1, rfl⟩ := sl_form HS.out; have HR1 := Lib.hid (HR.out.below hb1 (Nat.le_refl _)); have q1 := q0.trans (hb1.mono q0.size); have r0 := HR1.out.free 0; have r1 := HR1.out.free 1; have r2 := HR1.out.free 2; have y0 := HR1.out.cell 0 _ rfl; have y1 := HR1.out.cell 1 _ rfl; have y2 := HR1.out.cell 2 _ rfl; have hrl := HR1.out.lt; clear hb1 hs1)
  obtain ⟨hR, hS, hW⟩ := res_done (R := R) (C := C) q1 (by omega) HR1.out HS.out
  have z0 := hR.cell 0 _ rfl; have z1 := hR.cell 1 _ rfl; have z2 := hR.cell 2 _ rfl
  exact bodyPost_ret (v := .tuple #[.agg #[.int .i64 R, .int .i64 C, .slice a1 xs.length k1], .int .i64 k]) (by simp [results, Tryz.results18, go_sem, z0, z1, z2]) rfl ⟨_, rfl, _, rfl, hS, hW⟩

/-- A cofactor of the Laplacian. -/
def cofL (n : Nat) (ns : List (Nat × Nat × Nat)) (i k : Nat) : Int := sgn (i + k) * det (n - 1) (mnr (lap ns) i k)
/-- What Cofactor answers. -/
def cofS (n : Int) (es : List (Int × Int × Int)) (i k : Int) : ByteArray × Int :=
  if chkG n es = 0 then (if (0 ≤ i ∧ i < n) ∧ (0 ≤ k ∧ k < n) then (txt (cofL n.toNat (nsOf es) i.toNat k.toNat), 0) else (⟨#[]⟩, 2)) else (⟨#[]⟩, chkG n es)
theorem dn_minor {n : Nat} {ns : List (Nat × Nat × Nat)} (h : ∀ x ∈ ns, x.2.2 ≤ 50) (hl : ns.length ≤ 1000) (hn : n ≤ 12) (i k : Nat) : dn (det (n - 1) (mnr (lap ns) i k)) ≤ 1000 := by
  refine Nat.le_trans (dn_det (D := 6) (n - 1) _ fun a b _ _ => dn_lap h hl _ _) ?_
  have : (n - 1) * (6 + (n - 1)) ≤ 11 * 17 := Nat.mul_le_mul (by omega) (by omega)
  omega
set_option maxHeartbeats 4000000 in
theorem Cofactor_any (w : World) (n : Int) (v : Value) (es : List (Int × Int × Int)) (i k : Int) (hv : SlK e3 3 w v es) (hl : es.length ≤ 1000) (h6 : chkG n es = 0 → n ≤ 7) (he : Env w) :
    Calls Tryz.prog 28 #[.agg #[.int .i64 n, v], .int .i64 i, .int .i64 k] w (Rets fun r w' => r = .tuple #[.string (cofS n es i k).1, .int .i64 (cofS n es i k).2] ∧ Below w.heap.size w w') := by
  have HV := Lib.hid hv; have HE := Lib.hid he
  obtain ⟨ad, c, rfl⟩ := hv.form
  have HB := Lib.hid ((Below.refl w.heap.size w).alloc (Nat.le_refl _) (.cells #[.int .i64 n, .slice ad es.length c] 24))
  have HF := Lib.hid (minor_any _ n _ _ i k (HV.out.below HB.out (Nat.le_refl _)) hl (HE.out.below HB.out (Nat.le_refl _)))
  have HE1 := Lib.hid (HE.out.below HB.out (Nat.le_refl _))
  have q0 := HB.out
  clear hv he
  by_cases hok : chkG n es = 0 ∧ (0 ≤ i ∧ i < n) ∧ (0 ≤ k ∧ k < n)
  · obtain ⟨h, hi, hk⟩ := hok
    obtain ⟨ns, hRG⟩ := rg_of h
    have h7 := h6 h
    obtain ⟨N, rfl⟩ : ∃ N : Nat, n = (N : Int) := ⟨n.toNat, by have := hRG.pos; omega⟩
    obtain ⟨a, rfl⟩ : ∃ a : Nat, i = (a : Int) := ⟨i.toNat, by omega⟩
    obtain ⟨b, rfl⟩ : ∃ b : Nat, k = (b : Int) := ⟨k.toNat, by omega⟩
    have hN1 := hRG.pos
    have hes := hRG.eq
    subst hes
    have hnl : (ns.map n3).length = ns.length := List.length_map _
    rw [show cofS N (ns.map n3) a b = (txt (cofL N ns a b), 0) by unfold cofS; rw [if_pos h, if_pos ⟨hi, hk⟩, nsOf_n3]; rfl]
    rw [hnl] at HB HF HE1 q0 ⊢
    have HF2 := Lib.hid (retM_of HF.out (show lminS N (ns.map n3) a b = ⟨((N - 1 : Nat) : Int), ((N - 1 : Nat) : Int), cellsF (N - 1) (N - 1) (mnr (lap ns) a b), 0⟩ by unfold lminS; rw [if_pos h, if_pos ⟨hi, hk⟩, nsOf_n3]; rfl))
    have HM := Lib.hid (show ∀ x ∈ ns, x.2.2 ≤ 50 from fun x hx => (hRG.rng x hx).2.2.2.1)
    have hll : ns.length ≤ 1000 := by omega
    obtain ⟨D, hD⟩ : ∃ D, det (N - 1) (mnr (lap ns) a b) = D := ⟨_, rfl⟩
    have HDG := Lib.hid (show big D = false from bigD (by rw [← hD]; exact Nat.le_trans (dn_minor HM.out hll (by omega) a b) (by omega)))
    have HDT := Lib.hid (fun (w1 : World) (u : Value) (hs : Sl eS w1 u (cellsF (N - 1) (N - 1) (mnr (lap ns) a b))) (hE : Env w1) => show Calls Tryz.prog 90 #[.agg #[.int .i64 ((N - 1 : Nat) : Int), .int .i64 ((N - 1 : Nat) : Int), u]] w1 (Rets fun v w' => v = .tuple #[.string (txt D), .int .i64 0] ∧ Below w1.heap.size w1 w') from by
      rw [← hD]; exact det_call hs rfl (by omega) (D := 6) (by omega) (fun i k _ _ => dn_lap HM.out hll _ _) hE)
    by_cases hev : (a + b) % 2 = 0
    · have HC := Lib.hid (show cofL N ns a b = D by unfold cofL; rw [sgn_even hev, Int.one_mul, hD])
      have hrem : ((a : Int) + (b : Int)).tmod 2 = 0 := by rw [show (a : Int) + (b : Int) = ((a + b : Nat) : Int) by simp, show (2 : Int) = ((2 : Nat) : Int) from rfl, ← Int.ofNat_tmod, hev]; rfl
      clear h hRG hD h6
      rw [HC.out]
      go_enter Tryz.func28, Tryz.ntmps28
      go_wp2_with (first
        | (go_at_call 90; (with_reducible refine (HDT.out _ _ HS2.out HE2.out).mono ?_); rintro e w2 ⟨v2, rfl, rfl, hb2⟩; have q3 := q2.trans (hb2.mono q2.size); clear hb2)
        | (go_at_call 71; (with_reducible refine HF2.out.mono ?_); rintro e w1 ⟨v1, rfl, u1, rfl, hs1, hb1⟩; have HS := Lib.hid hs1; obtain ⟨a1, k1, rfl⟩ := sl_form HS.out; have q1 := q0.trans (hb1.mono q0.size); have hb12 := (Below.refl w1.heap.size w1).alloc (Nat.le_refl _) (.cells #[.int .i64 ((N - 1 : Nat) : Int), .int .i64 ((N - 1 : Nat) : Int), .slice a1 (cellsF (N - 1) (N - 1) (mnr (lap ns) a b)).length k1] 29); have q2 := q1.trans (hb12.mono q1.size); have HS2 := Lib.hid (HS.out.below hb12 (Nat.le_refl _)); have HE2 := Lib.hid ((HE1.out.below hb1 (Nat.le_refl _)).below hb12 (Nat.le_refl _)); clear hb1 hs1 hb12))
      go_ret2
      exact ⟨_, rfl, rfl, q3⟩
    · have hod : (a + b) % 2 = 1 := by omega
      have HC := Lib.hid (show cofL N ns a b = -D by unfold cofL; rw [sgn_odd hod, hD, Int.neg_mul, Int.one_mul])
      have hrem : ((a : Int) + (b : Int)).tmod 2 = 1 := by rw [show (a : Int) + (b : Int) = ((a + b : Nat) : Int) by simp, show (2 : Int) = ((2 : Nat) : Int) from rfl, ← Int.ofNat_tmod, hod]; rfl
      have HRV := Lib.hid (show resV (-D) = .tuple #[.string (txt (-D)), .int .i64 0] from resV_good (by
        rw [← hD]
        exact bigD (by rw [dn_neg]; exact Nat.le_trans (dn_minor HM.out hll (by omega) a b) (by omega))))
      clear h hRG hD h6 hev
      rw [HC.out]
      go_enter Tryz.func28, Tryz.ntmps28
      go_wp2_with (first
        | (go_at_call 91; (with_reducible refine (Neg_ok _ (txt D) D (Good.of HDG.out) HE3.out).mono ?_); rintro e w3 ⟨v3, rfl, rfl, hb3⟩; rw [HRV.out]; have q4 := q3.trans (hb3.mono q3.size); clear hb3)
        | (go_at_call 90; (with_reducible refine (HDT.out _ _ HS2.out HE2.out).mono ?_); rintro e w2 ⟨v2, rfl, rfl, hb2⟩; have q3 := q2.trans (hb2.mono q2.size); have HE3 := Lib.hid (HE2.out.below hb2 (Nat.le_refl _)); clear hb2)
        | (go_at_call 71; (with_reducible refine HF2.out.mono ?_); rintro e w1 ⟨v1, rfl, u1, rfl, hs1, hb1⟩; have HS := Lib.hid hs1; obtain ⟨a1, k1, rfl⟩ := sl_form HS.out; have q1 := q0.trans (hb1.mono q0.size); have hb12 := (Below.refl w1.heap.size w1).alloc (Nat.le_refl _) (.cells #[.int .i64 ((N - 1 : Nat) : Int), .int .i64 ((N - 1 : Nat) : Int), .slice a1 (cellsF (N - 1) (N - 1) (mnr (lap ns) a b)).length k1] 29); have q2 := q1.trans (hb12.mono q1.size); have HS2 := Lib.hid (HS.out.below hb12 (Nat.le_refl _)); have HE2 := Lib.hid ((HE1.out.below hb1 (Nat.le_refl _)).below hb12 (Nat.le_refl _)); clear hb1 hs1 hb12))
      go_ret2
      exact ⟨_, rfl, rfl, q4⟩
  · obtain ⟨z, hz, hzc⟩ : ∃ z : Int, cofS n es i k = (⟨#[]⟩, z) ∧ (lminS n es i k = .bad z ∧ z ≠ 0) := by
      unfold cofS lminS
      by_cases h : chkG n es = 0
      · rw [if_pos h, if_pos h, if_neg (fun h2 => hok ⟨h, h2⟩), if_neg (fun h2 => hok ⟨h, h2⟩)]
        exact ⟨2, rfl, rfl, by decide⟩
      · rw [if_neg h, if_neg h]
        exact ⟨_, rfl, rfl, h⟩
    have HF2 := Lib.hid (retM_of HF.out hzc.1)
    have hne : (z == 0) = false := by rw [beq_eq_false_iff_ne]; exact hzc.2
    rw [hz]
    clear hok hz hzc h6
    go_enter Tryz.func28, Tryz.ntmps28
    go_wp2_with (go_at_call 71; (with_reducible refine HF2.out.mono ?_); rintro e w1 ⟨v1, rfl, u1, rfl, hs1, hb1⟩; obtain ⟨a1, k1, rfl⟩ := sl_form hs1; have q1 := q0.trans (hb1.mono q0.size); have q2 := q1.alloc q1.size (.cells #[.int .i64 0, .int .i64 0, .slice a1 0 k1] 29); clear hb1 hs1)
    go_ret2
    exact ⟨_, rfl, rfl, q2⟩
theorem Trees_any (w : World) (n : Int) (v : Value) (es : List (Int × Int × Int)) (hv : SlK e3 3 w v es) (hl : es.length ≤ 1000) (h6 : chkG n es = 0 → n ≤ 7) (he : Env w) :
    Calls Tryz.prog 24 #[.agg #[.int .i64 n, v]] w (Rets fun r w' => r = .tuple #[.string (cofS n es 0 0).1, .int .i64 (cofS n es 0 0).2] ∧ Below w.heap.size w w') := by
  have HV := Lib.hid hv; have HE := Lib.hid he
  obtain ⟨ad, c, rfl⟩ := hv.form
  have HB := Lib.hid ((Below.refl w.heap.size w).alloc (Nat.le_refl _) (.cells #[.int .i64 n, .slice ad es.length c] 24))
  have HF := Lib.hid (Cofactor_any _ n _ _ 0 0 (HV.out.below HB.out (Nat.le_refl _)) hl h6 (HE.out.below HB.out (Nat.le_refl _)))
  obtain ⟨⟨x, k⟩, hx⟩ : ∃ p, cofS n es 0 0 = p := ⟨_, rfl⟩
  rw [hx] at HF ⊢
  clear hv he hx h6
  go_enter Tryz.func24, Tryz.ntmps24
  go_wp2_with (go_at_call 28; (with_reducible refine HF.out.mono ?_); rintro e w1 ⟨v1, rfl, rfl, hb1⟩)
  go_ret2
  exact ⟨_, rfl, rfl, HB.out.trans (hb1.mono HB.out.size)⟩
end Go.Proofs.YtkkklfikdoibcaaGreatDoor

namespace Go.Proofs.YtkkklfikdoibcaaGreatDoor
open Go.RowKit Go.Shelf
set_option maxRecDepth 100000

/-- Out of the range of chips. -/
def outB (x : Int) : Bool := decide (x < -1048576) || decide (1048576 < x)
def inB (xs : List Int) : Bool := xs.all fun x => !outB x
theorem within1_any (w : World) (x : Int) : Calls Tryz.prog 136 #[.int .i64 x] w (Rets fun r w' => r = .bool (outB x) ∧ w = w') := by
  have hcs : decide (x < -1048576) = true ∨ (decide (x < -1048576) = false ∧ decide (1048576 < x) = true) ∨ (decide (x < -1048576) = false ∧ decide (1048576 < x) = false) := by
    cases h1 : decide (x < -1048576)
    · cases h2 : decide (1048576 < x)
      · exact .inr (.inr ⟨rfl, rfl⟩)
      · exact .inr (.inl ⟨rfl, rfl⟩)
    · exact .inl rfl
  rcases hcs with d1 | ⟨d1, d2⟩ | ⟨d1, d2⟩
  · have H := Lib.hid (show outB x = true by unfold outB; rw [d1]; rfl)
    go_enter Tryz.func136, Tryz.ntmps136
    go_wp2
    go_ret
    exact ⟨_, rfl, by rw [H.out]; rfl, rfl⟩
  · have H := Lib.hid (show outB x = true by unfold outB; rw [d1, d2]; rfl)
    go_enter Tryz.func136, Tryz.ntmps136
    go_wp2
    go_ret
    exact ⟨_, rfl, by rw [H.out]; rfl, rfl⟩
  · have H := Lib.hid (show outB x = false by unfold outB; rw [d1, d2]; rfl)
    go_enter Tryz.func136, Tryz.ntmps136
    go_wp2
    go_ret
    exact ⟨_, rfl, by rw [H.out]; rfl, rfl⟩
set_option maxHeartbeats 2000000 in
theorem IndexW_ok (w : World) (v : Value) (xs : List Int) (hv : Sl eZ w v xs) :
    Calls Tryz.prog 178 #[v, .func (.func 136) #[] #[]] w (Rets fun r w' => ∃ i : Int, r = .int .i64 i ∧ (0 ≤ i ↔ inB xs = false) ∧ w = w') := by
  obtain ⟨ad, b, o, c, rfl, hi, hp, hcc, hm⟩ := hv.open elemInt
  unfold maxLen at hm
  clear hv
  go_enter Tryz.func178, Tryz.ntmps178
  go_wp2
  go_loopw [8] (fun i wr => ∃ k : Nat, k ≤ xs.length ∧ i = .int .i64 k ∧ Hid (∀ j (h : j < xs.length), j < k → outB xs[j] = false) ∧ Hid (w = wr)) (fun i _ => xs.length - (intOf i).toNat)
  case atStart => exact ⟨0, Nat.zero_le _, rfl, Lib.hid (fun v _ h => absurd h (Nat.not_lt_zero _)), by first | exact Lib.hid rfl | exact Lib.hid trivial⟩
  case round =>
    obtain ⟨k, hk, rfl, hX, hw⟩ := hrel
    obtain rfl := hw.out
    by_cases hkn : k < xs.length
    · have c0 : w.cell? ⟨b, o + k, none⟩ = some (.int .i64 xs[k]) := hp.2 k hkn
      obtain ⟨x, hx⟩ : ∃ x, xs[k] = x := ⟨_, rfl⟩
      rw [hx] at c0
      have HX := Lib.hid hx
      have q1 : (0 : Int) ≤ (k : Int) := by omega
      have q2 : (k : Int) < (xs.length : Int) := by omega
      clear hx
      cases h0 : outB x
      · have H := Lib.hid h0
        clear h0
        go_wp2_with (go_at_call 136; (with_reducible refine (within1_any _ _).mono ?_); rintro e w' ⟨v, rfl, rfl, rfl⟩; rw [H.out])
        go_roundw
        case rel => exact ⟨k + 1, by omega, by go_num, Lib.hid (fun j h hj => by
          by_cases e : j = k
          · subst e; rw [HX.out]; exact H.out
          · exact hX.out j h (by omega)), by first | exact Lib.hid rfl | exact Lib.hid trivial⟩
        case measure => simp [intOf]; omega
      · have H := Lib.hid h0
        clear h0
        go_wp2_with (go_at_call 136; (with_reducible refine (within1_any _ _).mono ?_); rintro e w' ⟨v, rfl, rfl, rfl⟩; rw [H.out])
        go_ret
        exact ⟨_, rfl, _, rfl, ⟨fun _ => by
          unfold inB
          rw [List.all_eq_false]
          exact ⟨x, by rw [← HX.out]; exact List.getElem_mem hkn, by rw [H.out]; decide⟩, fun _ => by omega⟩, rfl⟩
    · obtain rfl : k = xs.length := by omega
      go_wp2
      go_ret
      exact ⟨_, rfl, _, rfl, ⟨fun h => absurd h (by decide), fun h => by
        unfold inB at h
        rw [List.all_eq_false] at h
        obtain ⟨x, hx, h2⟩ := h
        obtain ⟨j, hj, e⟩ := List.mem_iff_getElem.1 hx
        have := hX.out j hj hj
        rw [e] at this
        rw [this] at h2
        exact absurd rfl h2⟩, rfl⟩
theorem ContainsW_ok (w : World) (v : Value) (xs : List Int) (hv : Sl eZ w v xs) :
    Calls Tryz.prog 135 #[v, .func (.func 136) #[] #[]] w (Rets fun r w' => r = .bool (!inB xs) ∧ w = w') := by
  obtain ⟨ad, cap, rfl⟩ := sl_form hv
  have HC := Lib.hid (IndexW_ok w _ xs hv)
  clear hv
  go_enter Tryz.func135, Tryz.ntmps135
  go_wp2_with (go_at_call 178; (with_reducible refine HC.out.mono ?_); rintro e w' ⟨v, rfl, i, rfl, hi, rfl⟩; have HI := Lib.hid hi; clear hi)
  go_ret
  refine ⟨_, rfl, ?_, rfl⟩
  have : decide (0 ≤ i) = !inB xs := by
    cases h : inB xs
    · rw [decide_eq_true (HI.out.2 h)]; rfl
    · rw [decide_eq_false (fun e => by have := HI.out.1 e; rw [h] at this; cases this)]; rfl
  rw [← this]; rfl
theorem within_any (w : World) (v : Value) (xs : List Int) (hv : Sl eZ w v xs) : Calls Tryz.prog 75 #[v] w (Rets fun r w' => r = .bool (inB xs) ∧ w = w') := by
  have HC := Lib.hid (ContainsW_ok w v xs hv)
  obtain ⟨ad, cap, rfl⟩ := sl_form hv
  clear hv
  obtain ⟨t, ht⟩ : ∃ t, inB xs = t := ⟨_, rfl⟩
  rw [ht] at HC ⊢
  clear ht
  cases t
  all_goals
    go_enter Tryz.func75, Tryz.ntmps75
    go_wp2_with (go_at_call 135; (with_reducible refine HC.out.mono ?_); rintro e w' ⟨v, rfl, rfl, rfl⟩)
    go_ret
    exact ⟨_, rfl, rfl, rfl⟩
end Go.Proofs.YtkkklfikdoibcaaGreatDoor

namespace Go.Proofs.YtkkklfikdoibcaaGreatDoor
open Go.RowKit Go.Shelf
set_option maxRecDepth 100000

attribute [local go_sem] Oper.semAt_some

/-- An image as a list. -/
def imgL (n : Nat) (ns : List (Nat × Nat × Nat)) (s : Nat → Int) : List Int := (List.range n).map fun i => img ns s i
theorem imgL_len (n : Nat) (ns : List (Nat × Nat × Nat)) (s : Nat → Int) : (imgL n ns s).length = n := by simp [imgL]
theorem imgL_get {n : Nat} {ns : List (Nat × Nat × Nat)} {s : Nat → Int} {i : Nat} (h : i < (imgL n ns s).length) : (imgL n ns s)[i] = img ns s i := by simp [imgL]
theorem imgL_nil (n : Nat) (s : Nat → Int) : imgL n [] s = List.replicate n 0 := by
  apply List.ext_getElem (by simp [imgL])
  intro i h1 h2
  simp [imgL, img]
theorem img_snoc (ns : List (Nat × Nat × Nat)) (x : Nat × Nat × Nat) (s : Nat → Int) (i : Nat) : img (ns ++ [x]) s i = img ns s i + im1 s x i := by
  simp [img, List.map_append, List.sum_append]
theorem imgL_snoc {n x y m : Nat} {ns : List (Nat × Nat × Nat)} {s : Nat → Int} (hxy : x ≠ y) (_ : x < n) (_ : y < n) (f : Int) (hf : (m : Int) * (s x - s y) = f) :
    imgL n (ns ++ [(x, y, m)]) s = ((imgL n ns s).set x (img ns s x + f)).set y (img ns s y - f) := by
  apply List.ext_getElem (by simp [imgL])
  intro i h1 h2
  have hyx : ¬ y = x := fun e => hxy e.symm
  rw [imgL_get, img_snoc]
  unfold im1
  simp only [hxy, if_false, hf]
  by_cases e2 : y = i
  · subst e2
    rw [List.getElem_set_self, if_neg hyx, if_pos rfl]; omega
  · rw [List.getElem_set_ne e2]
    by_cases e1 : x = i
    · subst e1
      rw [List.getElem_set_self, if_pos rfl, if_neg hxy]; omega
    · rw [List.getElem_set_ne e1, imgL_get, if_neg (fun e => e1 e.symm), if_neg (fun e => e2 e.symm)]; omega
theorem img_filter (s : Nat → Int) (i : Nat) : ∀ ns : List (Nat × Nat × Nat), img (ns.filter nl) s i = img ns s i
  | [] => rfl
  | x :: l => by
    have ih := img_filter s i l
    rw [List.filter_cons]
    by_cases h : nl x = true
    · rw [if_pos h, img_cons, img_cons, ih]
    · rw [if_neg h, ih, img_cons]
      have hx : x.1 = x.2.1 := by simpa [nl] using h
      simp [im1, hx]
theorem img_bd {ns : List (Nat × Nat × Nat)} {s : Nat → Int} {B : Int} (h : ∀ x ∈ ns, x.2.2 ≤ 50) (hB : ∀ k, -B ≤ s k ∧ s k ≤ B) (i : Nat) : -(100 * B * (ns.length : Int)) ≤ img ns s i ∧ img ns s i ≤ 100 * B * (ns.length : Int) := by
  have h0 : 0 ≤ B := by have := hB 0; omega
  have key : ∀ l : List (Nat × Nat × Nat), (∀ x ∈ l, x.2.2 ≤ 50) → (sgl l).length ≤ 50 * l.length := by
    intro l
    induction l with
    | nil => intro _; simp [sgl]
    | cons x l ih =>
      intro hl
      have h1 := ih (fun y hy => hl y (by simp [hy]))
      have h2 := hl x (by simp)
      have e : (sgl (x :: l)).length = x.2.2 + (sgl l).length := by simp [sgl]
      rw [e, List.length_cons]; omega
  have h1 := key ns h
  have h2 := img_le s i B hB ns
  have h3 : (((sgl ns).length : Nat) : Int) * (2 * B) ≤ ((50 * ns.length : Nat) : Int) * (2 * B) := Int.mul_le_mul_of_nonneg_right (by omega) (by omega)
  have h4 : ((50 * ns.length : Nat) : Int) * (2 * B) = 100 * B * (ns.length : Int) := by
    rw [Int.natCast_mul]
    rw [show (100 : Int) * B * (ns.length : Int) = ((50 : Int) * (ns.length : Int)) * (2 * B) by
      rw [Int.mul_comm (100 * B), ← Int.mul_assoc, Int.mul_comm (50 : Int) (ns.length : Int), Int.mul_assoc (ns.length : Int) 50 (2 * B), ← Int.mul_assoc 50 2 B, ← Int.mul_assoc]; rfl]
    rfl
  omega
/-- What Image's loop holds. -/
structure ImgG (w0 : World) (d e D n : Nat) (v sv : Value) (A : List Int) (W : World) : Prop where
  gr : Blk W d [.int .i64 (n : Nat), v] 24
  sb : Blk W (d + 1) [sv] 40
  ob : Blk W e [.slice (some ⟨D, 0, none⟩) n n] 41
  own : W.ownsRow d 3 1 (.slice (some ⟨D, 0, none⟩) n n) n (A.map eZ)
  bel : Below d w0 W
def ImgI (w0 : World) (d e D n : Nat) (v sv : Value) (s : Nat → Int) (pre : List (Nat × Nat × Nat)) (W : World) : Prop := ImgG w0 d e D n v sv (imgL n pre s) W ∧ ∀ x ∈ pre, x.2.2 ≤ 50
theorem ImgI.own (w0 : World) (d e D n B : Nat) (v sv : Value) (s : Nat → Int) (hD : d ≤ B) (h0 : d ≤ w0.heap.size) : OwnFrom B (ImgI w0 d e D n v sv s) := by
  rintro xs A C row ⟨⟨h1, h2, h3, h5, h6⟩, h7⟩ hg hr
  have hr' : ∀ r, row = some r → ∃ o : Obj, A.heap[r]? = some o ∧ o.isCells = false := fun r e => (hr r e).2
  exact ⟨⟨blk_nc h1 hg hr', blk_nc h2 hg hr', blk_nc h3 hg hr', own_nc h5 hg hr', h6.grown hg (Nat.le_trans h0 h6.size) fun k e => Nat.le_trans hD (hr k e).1⟩, h7⟩
theorem ImgG.setS {w0 : World} {d e D n S : Nat} {v sv : Value} {A : List Int} {W : World} (h : ImgG w0 d e D n v sv A W) (hS : d + 1 < S) (hS2 : e < S) (hS3 : D < S) (j : Nat) (u : Value) : ImgG w0 d e D n v sv A (W.setCell ⟨S, j, none⟩ u) :=
  ⟨h.gr.setCell (by omega) _, h.sb.setCell (by omega) _, h.ob.setCell (by omega) _, own_apart h.own (fun e => by simp [Value.ownBlock] at e; omega), h.bel.setCell (by simp; omega) _⟩
theorem ImgG.step {w0 : World} {d e D n : Nat} {v sv : Value} {A : List Int} {W : World} (h : ImgG w0 d e D n v sv A W) (hD : d + 1 < D) (he : D < e) (j : Nat) (z : Int) (u : Value) (hu : u = .int .i64 z) : ImgG w0 d e D n v sv (A.set j z) (W.setCell ⟨D, j, none⟩ u) :=
  ⟨h.gr.setCell (by omega) _, h.sb.setCell (by omega) _, h.ob.setCell (by omega) _, by rw [List.map_set, hu]; exact (h.own.stored j _).1, h.bel.setCell (by simp; omega) _⟩
end Go.Proofs.YtkkklfikdoibcaaGreatDoor

namespace Go.Proofs.YtkkklfikdoibcaaGreatDoor
open Go.RowKit
set_option maxRecDepth 100000

section
variable {ops : Array Oper} {md : Region.Mode} {A : Nat → Bool}
def gro1 (i : Nat) (L : Array Bool) (j : Nat) : Array Bool := if j == i then L else L.setIfInBounds j true
def grow (i : Nat) (rs : List Nat) (L : Array Bool) : Array Bool := rs.foldl (fun L j => gro1 i L j) L
/-- All that can come up before i is not late: the closure of what is ready without i. -/
def sat (md : Region.Mode) (ops : Array Oper) (A : Nat → Bool) (i : Nat) : Nat → Array Bool → Bool
  | 0, _ => true
  | n + 1, L => (Region.ready md ops L).all (fun j => j == i || A j) && sat md ops A i n (grow i (Region.ready md ops L) L)
theorem getD_setB (L : Array Bool) (j k : Nat) : (L.setIfInBounds j true).getD k false = if k = j ∧ j < L.size then true else L.getD k false := by
  simp only [Array.getD_eq_getD_getElem?, Array.getElem?_setIfInBounds]
  by_cases h : j = k
  · subst h
    by_cases hj : j < L.size
    · simp [hj]
    · simp [hj]
  · simp [h, Ne.symm h]
theorem grow_size (i : Nat) : ∀ (rs : List Nat) (L : Array Bool), (grow i rs L).size = L.size
  | [], _ => rfl
  | j :: rs, L => by
    show (grow i rs _).size = _
    rw [grow_size]
    show (gro1 i L j).size = _
    unfold gro1; split <;> simp
theorem grow_mono (i : Nat) : ∀ (rs : List Nat) (L : Array Bool) (k : Nat), L.getD k false = true → (grow i rs L).getD k false = true
  | [], _, _, h => h
  | j :: rs, L, k, h => by
    show (grow i rs _).getD k false = true
    refine grow_mono i rs _ k ?_
    show (gro1 i L j).getD k false = true
    unfold gro1
    split
    · exact h
    · rw [getD_setB]; split <;> simp_all
theorem grow_mem (i : Nat) : ∀ (rs : List Nat) (L : Array Bool) (j : Nat), j ∈ rs → j ≠ i → j < L.size → (grow i rs L).getD j false = true
  | [], _, _, h, _, _ => by cases h
  | q :: rs, L, j, h, hji, hj => by
    show (grow i rs _).getD j false = true
    rcases List.mem_cons.1 h with rfl | h
    · refine grow_mono i rs _ j ?_
      show (gro1 i L j).getD j false = true
      unfold gro1
      rw [if_neg (by simpa using hji), getD_setB, if_pos ⟨rfl, hj⟩]
    · refine grow_mem i rs _ j h hji ?_
      show j < (gro1 i L q).size
      unfold gro1
      split
      · exact hj
      · simpa using hj
theorem grow_true (i : Nat) : ∀ (rs : List Nat) (L : Array Bool) (k : Nat), (grow i rs L).getD k false = true → L.getD k false = true ∨ (k ∈ rs ∧ k ≠ i)
  | [], _, _, h => Or.inl h
  | q :: rs, L, k, h => by
    rcases grow_true i rs _ k h with h1 | ⟨h1, h2⟩
    · have h1 : (gro1 i L q).getD k false = true := h1
      unfold gro1 at h1
      by_cases hq : q == i
      · rw [if_pos hq] at h1; exact Or.inl h1
      · rw [if_neg hq, getD_setB] at h1
        by_cases e : k = q ∧ q < L.size
        · refine Or.inr ⟨by rw [e.1]; exact List.mem_cons_self, ?_⟩
          rw [e.1]; simpa using hq
        · rw [if_neg e] at h1; exact Or.inl h1
    · exact Or.inr ⟨List.mem_cons_of_mem _ h1, h2⟩
theorem un_lt {l : Array Bool} {j : Nat} (h : l.getD j true = false) : j < l.size ∧ l.getD j false = false := by
  rcases Nat.lt_or_ge j l.size with h' | h'
  · refine ⟨h', ?_⟩
    simp [Array.getD_eq_getD_getElem?, h'] at h ⊢
    exact h
  · simp [Array.getD_eq_getD_getElem?, Array.getElem?_eq_none h'] at h
theorem un_of {l : Array Bool} {j : Nat} (h : j < l.size) (h0 : l.getD j false = false) : l.getD j true = false := by
  simp [Array.getD_eq_getD_getElem?, h] at h0 ⊢
  exact h0
theorem early_of (i : Nat) : ∀ (n : Nat) (l L : Array Bool), sat md ops A i n L = true → l.size = L.size → (∀ k, l.getD k false = true → L.getD k false = true) →
    (∀ k, L.getD k false = true → l.getD k false = true ∨ A k = true) → early md ops A i n l = true
  | 0, _, _, _, _, _, _ => rfl
  | n + 1, l, L, h, hsz, hsub, hA => by
    unfold sat at h
    simp only [Bool.and_eq_true] at h
    obtain ⟨h1, h2⟩ := h
    have h1 := List.all_eq_true.1 h1
    unfold early
    refine List.all_eq_true.2 fun j hj => ?_
    by_cases hji : j = i
    · simp [hji]
    · have hm := mem_ready.1 hj
      obtain ⟨hu, o, ho, hall⟩ := hm
      obtain ⟨hjl, hjf⟩ := un_lt hu
      have hrd : L.getD j false = false → j ∈ Region.ready md ops L := fun e => mem_ready.2 ⟨un_of (by omega) e, o, ho, fun e' he hb => hsub _ (hall e' he hb)⟩
      have hAj : A j = true := by
        by_cases e : L.getD j false = true
        · rcases hA j e with e' | e'
          · rw [hjf] at e'; cases e'
          · exact e'
        · have := h1 j (hrd (by simpa using e))
          simpa [hji] using this
      simp only [Bool.or_eq_true, Bool.and_eq_true]
      refine Or.inr ⟨hAj, early_of i n _ (grow i (Region.ready md ops L) L) h2 (by rw [grow_size]; simpa using hsz) (fun k hk => ?_) (fun k hk => ?_)⟩
      · rw [getD_setB] at hk
        by_cases e : k = j ∧ j < l.size
        · obtain ⟨rfl, -⟩ := e
          by_cases e : L.getD k false = true
          · exact grow_mono i _ _ _ e
          · exact grow_mem i _ _ _ (hrd (by simpa using e)) hji (by omega)
        · rw [if_neg e] at hk; exact grow_mono i _ _ _ (hsub k hk)
      · rcases grow_true i _ _ k hk with e | ⟨e, e'⟩
        · rcases hA k e with e2 | e2
          · left; rw [getD_setB]; split
            · rfl
            · exact e2
          · exact Or.inr e2
        · have := h1 k e
          right
          simpa [e'] using this
theorem early_sat {i n : Nat} {l : Array Bool} (h : sat md ops A i n l = true) : early md ops A i n l = true := early_of i n l l h rfl (fun _ h => h) (fun _ h => Or.inl h)
end
end Go.Proofs.YtkkklfikdoibcaaGreatDoor

namespace Go.Proofs.YtkkklfikdoibcaaGreatDoor
open Go.RowKit Go.Shelf
set_option maxRecDepth 100000

attribute [local go_sem] Oper.semAt_some
theorem elemDiv : ElemOk Tryz.prog 41 3 (.int .i64 0) 1 8 :=
  ⟨Tryz.underlying41, info_parts (by kernel_rfl : (Tryz.prog.info? 3).map (fun i => (i.zero, i.size, i.bytes)) = some (some (.int .i64 0), 1, 8)), rfl, by decide, by kernel_rfl, fun _ => by kernel_rfl⟩
theorem elemScr : ElemOk Tryz.prog 40 3 (.int .i64 0) 1 8 :=
  ⟨Tryz.underlying40, info_parts (by kernel_rfl : (Tryz.prog.info? 3).map (fun i => (i.zero, i.size, i.bytes)) = some (some (.int .i64 0), 1, 8)), rfl, by decide, by kernel_rfl, fun _ => by kernel_rfl⟩
def RetL (w : World) (ls : List Int) (k : Int) : Ending → World → Prop := Rets fun v w' => ∃ u, v = .tuple #[u, .int .i64 k] ∧ Sl eZ w' u ls ∧ Below w.heap.size w w'
theorem inB_get {xs : List Int} (h : inB xs = true) (k : Nat) : -1048576 ≤ xs.getD k 0 ∧ xs.getD k 0 ≤ 1048576 := by
  by_cases hk : k < xs.length
  · unfold inB at h
    rw [List.all_eq_true] at h
    have h1 := h _ (List.getElem_mem hk)
    rw [List.getD_eq_getElem?_getD, List.getElem?_eq_getElem hk, Option.getD_some]
    simp only [outB, Bool.not_eq_true', Bool.or_eq_false_iff, decide_eq_false_iff_not] at h1
    omega
  · rw [List.getD_eq_getElem?_getD, List.getElem?_eq_none (by omega), Option.getD_none]
    omega
set_option maxHeartbeats 4000000 in
theorem Image_in (w : World) (n : Nat) (v sv : Value) (ns : List (Nat × Nat × Nat)) (xs : List Int) (hv : SlK e3 3 w v (ns.map n3)) (hs : Sl eZ w sv xs) (hc : chkG n (ns.map n3) = 0) (hn1 : 1 ≤ n) (hn : n ≤ 12) (hrg : ∀ x ∈ ns, x.1 < n ∧ x.2.1 < n ∧ x.2.2 ≤ 50) (hl : ns.length ≤ 1000) (hxl : xs.length = n) (hxi : inB xs = true) (k : Int) (out : List Int) (hout : (inB (imgL n ns fun k => xs.getD k 0) = true ∧ out = (imgL n ns fun k => xs.getD k 0) ∧ k = 0) ∨ (inB (imgL n ns fun k => xs.getD k 0) = false ∧ out = [] ∧ k = 11)) :
    CallsIn Fence.wide 4 Tryz.prog 21 #[.agg #[.int .i64 (n : Nat), v], sv] w (RetL w out k) := by
  obtain ⟨ad, c, rfl⟩ := hv.form
  have hnl : (ns.map n3).length = ns.length := List.length_map _
  have HV := Lib.hid hv; have HRG := Lib.hid hrg; have HC := Lib.hid hc; have HXI := Lib.hid hxi; have HXL := Lib.hid hxl; have HS := Lib.hid hs; have HOUT := Lib.hid hout
  obtain ⟨sa, sb, so, sc, rfl, hsi, hsp, hscc, hscm⟩ := hs.open elemScr
  rw [hnl] at HV ⊢
  rw [hxl] at hsi HS ⊢
  have HSP := Lib.hid hsp
  obtain ⟨s, hsd⟩ : ∃ s : Nat → Int, (fun k => xs.getD k 0) = s := ⟨_, rfl⟩
  rw [hsd] at HOUT
  have HSD := Lib.hid hsd
  have HSB := Lib.hid (show ∀ j, -1048576 ≤ s j ∧ s j ≤ 1048576 from fun j => by rw [← hsd]; exact inB_get hxi j)
  obtain ⟨d, hd⟩ : ∃ d, w.heap.size = d := ⟨_, rfl⟩
  have hnn : ((n : Int) == (n : Int)) = true := by simp
  clear hv hrg hnl hc hxi hxl hs hsp hsd hout
  refine callsIn_of_wp_marks Tryz.func21 rfl trivial ?_ rfl
  simp only [Tryz.ntmps21, List.size_toArray, List.length_cons, List.length_nil, Nat.reduceAdd, Nat.reduceSub, Array.replicate_succ, Array.replicate_zero, List.push_toArray, List.append_toArray, List.nil_append, List.cons_append]
  obtain ⟨W0, hW0⟩ : ∃ W, (w.alloc (.cells #[.int .i64 (n : Nat), .slice ad ns.length c] 24)).alloc (.cells #[.slice sa n sc] 40) = W := ⟨_, rfl⟩
  have s0 : W0.heap.size = d + 2 := by rw [← hW0, ← hd]; simp
  have KG := Lib.hid (show Blk W0 d [.int .i64 (n : Nat), .slice ad ns.length c] 24 by rw [← hW0, ← hd]; exact (Blk.new w _ _).alloc _)
  have KS := Lib.hid (show Blk W0 (d + 1) [.slice sa n sc] 40 by rw [← hW0, ← hd]; exact Blk.at1 w _ _ _)
  have B0 := Lib.hid (show Below d w W0 by rw [← hW0, ← hd]; exact ((Below.refl _ w).alloc (Nat.le_refl _) _).alloc (by simp) _)
  have HW0 := Lib.hid hW0
  have HVW := Lib.hid (show SlK e3 3 W0 (.slice ad ns.length c) (ns.map n3) from HV.out.below B0.out (by omega))
  clear hW0
  gi_wp2_with (first
    | (gi_at_make; refine mkNI elemDiv rfl _ _ rfl n rfl rfl rfl rfl (by omega) (by unfold maxLen; omega) rfl ?_; intro w2 hown hg2; have B12 := Lib.hid ((Below.refl w1.heap.size w1).grown hg2 (Nat.le_refl _) (fun _ h => by cases h)); have KG2 := Lib.hid (KG1.out.below B12.out (Nat.le_refl _)); have KS2 := Lib.hid (KS1.out.below B12.out (Nat.le_refl _)); have HO2 := Lib.hid hown; have B2 := Lib.hid (B1.out.trans (B12.out.mono (by have := B1.out.size; omega))); have s2 : w1.heap.size < w2.heap.size := (HO2.out.lt w1.heap.size rfl).2; have g20 := KG2.out.cell 0 _ rfl; have g21 := KG2.out.cell 1 _ rfl; have hgl2 := KG2.out.lt; clear hown hg2)
    | ((with_reducible refine ⟨wideFn _, callsIn_wide.2 ((links_any _ _ _ ad ns.length c rfl).mono ?_)⟩); rintro e w3 ⟨vf, rfl, rfl, rfl⟩)
    | ((with_reducible refine ⟨wideFn _, callsIn_wide.2 ((within_any _ _ xs HS1.out).mono ?_)⟩); rintro e w3 ⟨vf, rfl, rfl, rfl⟩; rw [HXI.out])
    | ((with_reducible refine ⟨wideFn _, callsIn_wide.2 ((GCheck_any _ _ _ (ns.map n3) (by rw [HW0.out]; exact HVW.out)).mono ?_)⟩); rintro e w1 ⟨vf, rfl, rfl, hb1⟩; rw [HC.out]; rw [HW0.out] at hb1; have B1 := Lib.hid (B0.out.trans (hb1.mono (by omega))); have HS1 := Lib.hid (HS.out.below B1.out (by omega)); have KG1 := Lib.hid (KG.out.below hb1 (Nat.le_refl _)); have KS1 := Lib.hid (KS.out.below hb1 (Nat.le_refl _)); have g0 := KG1.out.cell 0 _ rfl; have g1 := KG1.out.cell 1 _ rfl; have gl := KG1.out.lt; have y0 := KS1.out.cell 0 _ rfl; have yl := KS1.out.lt; clear hb1))
  clear g0 g1 gl y0 yl g20 g21 hgl2
  obtain ⟨D, hDe⟩ : ∃ D, w1.heap.size = D := ⟨_, rfl⟩
  obtain ⟨e, he⟩ : ∃ e, w2.heap.size = e := ⟨_, rfl⟩
  obtain ⟨W, hW⟩ : ∃ W, (w2.alloc (.cells #[.slice (some ⟨w1.heap.size, 0, none⟩) n n] 41)).alloc (.cells #[.int .i64 (n : Nat), .slice ad ns.length c] 24) = W := ⟨_, rfl⟩
  have s3 : W.heap.size = e + 2 := by rw [← hW, ← he]; simp
  have bW : Below w2.heap.size w2 W := by rw [← hW]; exact ((Below.refl _ _).alloc (Nat.le_refl _) _).alloc (by simp) _
  have hD1 : d + 1 < D := by rw [← hDe]; exact KS1.out.lt
  have HI0 := Lib.hid (show ImgI w d e D n (.slice ad ns.length c) (.slice sa n sc) s [] W from ⟨⟨KG2.out.below bW (Nat.le_refl _), KS2.out.below bW (Nat.le_refl _), by
      rw [← hW, ← he, ← hDe]; exact (Blk.new w2 _ _).alloc _, by
      rw [imgL_nil, List.map_replicate, ← hDe]
      exact own_low (own_below HO2.out bW (Nat.le_refl _)) (by omega), B2.out.trans (bW.mono (by omega))⟩, fun x hx => by cases hx⟩)
  have hseq := Lib.hid (links1_seq (w0 := w) (w := W) (B := e + 1) (by rw [hd]; exact HI0.out.1.bel) (show Blk W (e + 1) [.int .i64 (n : Nat), .slice ad ns.length c] 24 by rw [← hW, ← he]; exact Blk.at1 w2 _ _ _) HV.out (4 - 1) (by omega))
  have HS3 := Lib.hid s3
  rw [hW, he, hDe]
  rw [he, hDe] at s2
  clear hW bW s3 HO2 KG2 KS2 KG KS KG1 KS1 HW0 B12 B1 B2 B0 HVW HS1 he hDe
  refine wpIn_rangeA rfl (by omega) (gf := 137) (lb := #[.pointer (some ⟨e + 1, 0, none⟩)]) rfl trivial (enters_of Tryz.func137 (by kernel_rfl) rfl) hseq.out (fun h h' => h.trans h') (fun W' l o o' hl ho hc => (Below.refl _ W').grown (grownBy_putObj' W' l o') (by have := (Array.getElem?_eq_some_iff.1 ho).1; have := HS3.out; omega) (fun k e2 => by cases e2; have := HS3.out; omega)) (fun _ _ _ _ _ h _ _ => h) (Below.refl _ _) (fun _ => rfl) (ImgI w d e D n (.slice ad ns.length c) (.slice sa n sc) s)
    (ImgI.own _ _ _ _ _ _ _ _ _ (by have := HS3.out; omega) (by omega)) (fun pre W1 u j h => ⟨h.1.setS (by have := HS3.out; omega) (by have := HS3.out; omega) (by have := HS3.out; omega) j u, h.2⟩) ?h0 ?round ?done
  case h0 => exact HI0.out
  case round =>
    rintro l pre ⟨x, y, m⟩ W1 hI ⟨hmem, hxy⟩ hlen hll
    simp only at hxy
    have HI := Lib.hid hI; have HLL := Lib.hid hll
    obtain ⟨hx, hy, hm50⟩ := HRG.out _ hmem
    simp only at hx hy hm50
    clear hI hll
    unfold edgeV
    gi_wp2
    refine ⟨KeepsOthers.alloc _ _, (Below.refl _ _).alloc (by have := HI.out.1.bel.size; omega) _, fun ob o' hlo hoc => ?_⟩
    have IW := ImgI.own w d e D n W.heap.size (.slice ad ns.length c) (.slice sa n sc) s (by have := HS3.out; omega) (by omega)
    have hI2 := IW.putObj o' (IW.alloc (.cells #[.int .i64 (x : Nat), .int .i64 (y : Nat), .int .i64 (m : Nat)] 124) HI.out) HLL.out hlo hoc
    have hkX := blk_nc (Blk.new W1 [.int .i64 (x : Nat), .int .i64 (y : Nat), .int .i64 (m : Nat)] 124) (grownBy_putObj' _ l o') (fun r e2 => by cases e2; exact ⟨_, hlo, hoc⟩)
    have hbd : D < W1.heap.size := (HI.out.1.own.lt D rfl).2
    obtain ⟨bX, hbX⟩ : ∃ b, W1.heap.size = b := ⟨_, rfl⟩
    obtain ⟨V, hV⟩ : ∃ V, (W1.alloc (.cells #[.int .i64 (x : Nat), .int .i64 (y : Nat), .int .i64 (m : Nat)] 124)).putObj l o' = V := ⟨_, rfl⟩
    rw [hbX] at hkX hbd ⊢
    rw [hV] at hI2 hkX ⊢
    have HI2 := Lib.hid hI2.1; have HM2 := Lib.hid hI2.2; have KX := Lib.hid hkX
    have hB0 := fun i => img_bd (s := s) (B := 1048576) hI2.2 HSB.out i
    have hpl : pre.length ≤ 1000 := by omega
    obtain ⟨sx, hsx⟩ : ∃ z, s x = z := ⟨_, rfl⟩
    obtain ⟨sy, hsy⟩ : ∃ z, s y = z := ⟨_, rfl⟩
    obtain ⟨F, hF⟩ : ∃ F, (m : Int) * (sx - sy) = F := ⟨_, rfl⟩
    obtain ⟨za, hza⟩ : ∃ z, img pre s x = z := ⟨_, rfl⟩
    obtain ⟨zb, hzb⟩ : ∃ z, img pre s y = z := ⟨_, rfl⟩
    have hbx := HSB.out x; have hby := HSB.out y
    rw [hsx] at hbx
    rw [hsy] at hby
    have hba := hB0 x; have hbb := hB0 y
    rw [hza] at hba
    rw [hzb] at hbb
    have hFb : -104857600 ≤ F ∧ F ≤ 104857600 := by
      rw [← hF]
      have h1 : (m : Int) * (sx - sy) ≤ (m : Int) * 2097152 := Int.mul_le_mul_of_nonneg_left (by omega) (by omega)
      have h2 : (m : Int) * (-2097152) ≤ (m : Int) * (sx - sy) := Int.mul_le_mul_of_nonneg_left (by omega) (by omega)
      omega
    have HSN := Lib.hid (imgL_snoc (n := n) (ns := pre) (s := s) (m := m) hxy hx hy F (by rw [hsx, hsy, hF]))
    rw [hza, hzb] at HSN
    have e1 : IntKind.i64.wrap (sx - sy) = sx - sy := by rw [IntKind.wrap_i64]; omega
    have e2 : IntKind.i64.wrap ((m : Int) * (sx - sy)) = F := by rw [hF, IntKind.wrap_i64]; omega
    have e3 : IntKind.i64.wrap (za + F) = za + F := by rw [IntKind.wrap_i64]; omega
    have e4 : IntKind.i64.wrap (zb - F) = zb - F := by rw [IntKind.wrap_i64]; omega
    have hgx : V.cell? ⟨sb, so + x, none⟩ = some (.int .i64 sx) := by
      have h1 := HSP.out.at HI2.out.bel (by omega) x (by rw [HXL.out]; exact hx)
      rw [h1, ← hsx, ← HSD.out]
      simp [eZ, List.getD_eq_getElem?_getD, show x < xs.length by rw [HXL.out]; exact hx]
    have hgy : V.cell? ⟨sb, so + y, none⟩ = some (.int .i64 sy) := by
      have h1 := HSP.out.at HI2.out.bel (by omega) y (by rw [HXL.out]; exact hy)
      rw [h1, ← hsy, ← HSD.out]
      simp [eZ, List.getD_eq_getElem?_getD, show y < xs.length by rw [HXL.out]; exact hy]
    have px0 : (0 : Int) ≤ (x : Int) := by omega
    have px1 : (x : Int) < (n : Int) := by omega
    have py0 : (0 : Int) ≤ (y : Int) := by omega
    have py1 : (y : Int) < (n : Int) := by omega
    have f0 := HI2.out.sb.cell 0 _ rfl; have fl := HI2.out.sb.lt
    have x0 := KX.out.cell 0 _ rfl; have x1 := KX.out.cell 1 _ rfl; have x2 := KX.out.cell 2 _ rfl; have xl := KX.out.lt
    have hxl : x < (imgL n pre s).length := by rw [imgL_len]; exact hx
    have hyl : y < (imgL n pre s).length := by rw [imgL_len]; exact hy
    obtain ⟨hcx, hfx⟩ := own_get HI2.out.own hxl
    obtain ⟨hcy, hfy⟩ := own_get HI2.out.own hyl
    rw [imgL_get, hza] at hcx
    rw [imgL_get, hzb] at hcy
    have hcx' : V.cell? ⟨D, x, none⟩ = some (.int .i64 za) := hcx
    have hcy' : V.cell? ⟨D, y, none⟩ = some (.int .i64 zb) := hcy
    have o0 := HI2.out.ob.cell 0 _ rfl; have ol := HI2.out.ob.lt
    have hDl := (HI2.out.own.lt D rfl).2
    have heD : e ≠ D := by omega
    have hDe : D ≠ e := by omega
    have hbD : bX ≠ D := by omega
    have hDb : D ≠ bX := by omega
    have hyx : y ≠ x := fun e => hxy e.symm
    clear hlo hoc IW hI2 hkX hbX hV hB0 hsx hsy hF hza hzb hcx hcy hxl hyl
    gi_wp2_with fail
    -- REGION 11
    have hS := (⟨f0, x0, x1, x2, hgx, hgy⟩ : V.drew.cell? ⟨d + 1, 0, none⟩ = some (.slice sa n sc) ∧ V.drew.cell? ⟨bX, 0, none⟩ = some (.int .i64 (x : Nat)) ∧ V.drew.cell? ⟨bX, 1, none⟩ = some (.int .i64 (y : Nat)) ∧ V.drew.cell? ⟨bX, 2, none⟩ = some (.int .i64 (m : Nat)) ∧ V.drew.cell? ⟨sb, so + x, none⟩ = some (.int .i64 sx) ∧ V.drew.cell? ⟨sb, so + y, none⟩ = some (.int .i64 sy))
    refine wpIn_region_plain (by kernel_rfl) (by kernel_rfl) (by rintro ⟨a, w, h⟩; exact h) (wpAny_ofJ (S := fun w' => w'.cell? ⟨d + 1, 0, none⟩ = some (.slice sa n sc) ∧ w'.cell? ⟨bX, 0, none⟩ = some (.int .i64 (x : Nat)) ∧ w'.cell? ⟨bX, 1, none⟩ = some (.int .i64 (y : Nat)) ∧ w'.cell? ⟨bX, 2, none⟩ = some (.int .i64 (m : Nat)) ∧ w'.cell? ⟨sb, so + x, none⟩ = some (.int .i64 sx) ∧ w'.cell? ⟨sb, so + y, none⟩ = some (.int .i64 sy)) (A := fun _ => true) _ _ _ _ ?_)
    show wpAnyJ _ _ _ _ _ _ 15 _ _ V.drew
    refine wpAnyJ_take (i := 0) (oi := { dst := some 31, op := .fieldAddr _ (.tmp 8) 2, type := _, pos := _, after := _, guard := _ }) (v := ?_) rfl (by kernel_rfl) (by kernel_rfl) (by kernel_rfl) (early_sat (by kernel_rfl)) (fun _ _ _ h => h) (Or.inl ⟨by rfl, ?_⟩) hS ?_
    rotate_left
    · intro wl hSw
      obtain ⟨s0, s1, s2, s3, s4, s5⟩ := hSw
      go_simp
      with_reducible rfl
    simp only [Act.put, List.setIfInBounds_toArray, List.set_cons_zero, List.set_cons_succ]
    refine wpAnyJ_take (i := 1) (oi := { dst := some 32, op := .load _ (.tmp 31), type := _, pos := _, after := _, guard := _ }) (v := ?_) rfl (by kernel_rfl) (by kernel_rfl) (by kernel_rfl) (early_sat (by kernel_rfl)) (fun _ _ _ h => h) (Or.inl ⟨by rfl, ?_⟩) hS ?_
    rotate_left
    · intro wl hSw
      obtain ⟨s0, s1, s2, s3, s4, s5⟩ := hSw
      go_simp
      with_reducible rfl
    simp only [Act.put, List.setIfInBounds_toArray, List.set_cons_zero, List.set_cons_succ]
    refine wpAnyJ_take (i := 2) (oi := { dst := some 33, op := .load _ (.tmp 3), type := _, pos := _, after := _, guard := _ }) (v := ?_) rfl (by kernel_rfl) (by kernel_rfl) (by kernel_rfl) (early_sat (by kernel_rfl)) (fun _ _ _ h => h) (Or.inl ⟨by rfl, ?_⟩) hS ?_
    rotate_left
    · intro wl hSw
      obtain ⟨s0, s1, s2, s3, s4, s5⟩ := hSw
      go_simp
      with_reducible rfl
    simp only [Act.put, List.setIfInBounds_toArray, List.set_cons_zero, List.set_cons_succ]
    refine wpAnyJ_take (i := 3) (oi := { dst := some 34, op := .fieldAddr _ (.tmp 8) 0, type := _, pos := _, after := _, guard := _ }) (v := ?_) rfl (by kernel_rfl) (by kernel_rfl) (by kernel_rfl) (early_sat (by kernel_rfl)) (fun _ _ _ h => h) (Or.inl ⟨by rfl, ?_⟩) hS ?_
    rotate_left
    · intro wl hSw
      obtain ⟨s0, s1, s2, s3, s4, s5⟩ := hSw
      go_simp
      with_reducible rfl
    simp only [Act.put, List.setIfInBounds_toArray, List.set_cons_zero, List.set_cons_succ]
    refine wpAnyJ_take (i := 4) (oi := { dst := some 35, op := .load _ (.tmp 34), type := _, pos := _, after := _, guard := _ }) (v := ?_) rfl (by kernel_rfl) (by kernel_rfl) (by kernel_rfl) (early_sat (by kernel_rfl)) (fun _ _ _ h => h) (Or.inl ⟨by rfl, ?_⟩) hS ?_
    rotate_left
    · intro wl hSw
      obtain ⟨s0, s1, s2, s3, s4, s5⟩ := hSw
      go_simp
      with_reducible rfl
    simp only [Act.put, List.setIfInBounds_toArray, List.set_cons_zero, List.set_cons_succ]
    refine wpAnyJ_take (i := 5) (oi := { dst := some 36, op := .indexAddr _ (.tmp 33) (.tmp 35), type := _, pos := _, after := _, guard := _ }) (v := ?_) rfl (by kernel_rfl) (by kernel_rfl) (by kernel_rfl) (early_sat (by kernel_rfl)) (fun _ _ _ h => h) (Or.inl ⟨by rfl, ?_⟩) hS ?_
    rotate_left
    · intro wl hSw
      obtain ⟨s0, s1, s2, s3, s4, s5⟩ := hSw
      go_simp
      with_reducible rfl
    simp only [Act.put, List.setIfInBounds_toArray, List.set_cons_zero, List.set_cons_succ]
    refine wpAnyJ_take (i := 6) (oi := { dst := some 37, op := .load _ (.tmp 36), type := _, pos := _, after := _, guard := _ }) (v := ?_) rfl (by kernel_rfl) (by kernel_rfl) (by kernel_rfl) (early_sat (by kernel_rfl)) (fun _ _ _ h => h) (Or.inl ⟨by rfl, ?_⟩) hS ?_
    rotate_left
    · intro wl hSw
      obtain ⟨s0, s1, s2, s3, s4, s5⟩ := hSw
      go_simp
      with_reducible rfl
    simp only [Act.put, List.setIfInBounds_toArray, List.set_cons_zero, List.set_cons_succ]
    refine wpAnyJ_take (i := 7) (oi := { dst := some 38, op := .load _ (.tmp 3), type := _, pos := _, after := _, guard := _ }) (v := ?_) rfl (by kernel_rfl) (by kernel_rfl) (by kernel_rfl) (early_sat (by kernel_rfl)) (fun _ _ _ h => h) (Or.inl ⟨by rfl, ?_⟩) hS ?_
    rotate_left
    · intro wl hSw
      obtain ⟨s0, s1, s2, s3, s4, s5⟩ := hSw
      go_simp
      with_reducible rfl
    simp only [Act.put, List.setIfInBounds_toArray, List.set_cons_zero, List.set_cons_succ]
    refine wpAnyJ_take (i := 8) (oi := { dst := some 39, op := .fieldAddr _ (.tmp 8) 1, type := _, pos := _, after := _, guard := _ }) (v := ?_) rfl (by kernel_rfl) (by kernel_rfl) (by kernel_rfl) (early_sat (by kernel_rfl)) (fun _ _ _ h => h) (Or.inl ⟨by rfl, ?_⟩) hS ?_
    rotate_left
    · intro wl hSw
      obtain ⟨s0, s1, s2, s3, s4, s5⟩ := hSw
      go_simp
      with_reducible rfl
    simp only [Act.put, List.setIfInBounds_toArray, List.set_cons_zero, List.set_cons_succ]
    refine wpAnyJ_take (i := 9) (oi := { dst := some 40, op := .load _ (.tmp 39), type := _, pos := _, after := _, guard := _ }) (v := ?_) rfl (by kernel_rfl) (by kernel_rfl) (by kernel_rfl) (early_sat (by kernel_rfl)) (fun _ _ _ h => h) (Or.inl ⟨by rfl, ?_⟩) hS ?_
    rotate_left
    · intro wl hSw
      obtain ⟨s0, s1, s2, s3, s4, s5⟩ := hSw
      go_simp
      with_reducible rfl
    simp only [Act.put, List.setIfInBounds_toArray, List.set_cons_zero, List.set_cons_succ]
    refine wpAnyJ_take (i := 10) (oi := { dst := some 41, op := .indexAddr _ (.tmp 38) (.tmp 40), type := _, pos := _, after := _, guard := _ }) (v := ?_) rfl (by kernel_rfl) (by kernel_rfl) (by kernel_rfl) (early_sat (by kernel_rfl)) (fun _ _ _ h => h) (Or.inl ⟨by rfl, ?_⟩) hS ?_
    rotate_left
    · intro wl hSw
      obtain ⟨s0, s1, s2, s3, s4, s5⟩ := hSw
      go_simp
      with_reducible rfl
    simp only [Act.put, List.setIfInBounds_toArray, List.set_cons_zero, List.set_cons_succ]
    refine wpAnyJ_take (i := 11) (oi := { dst := some 42, op := .load _ (.tmp 41), type := _, pos := _, after := _, guard := _ }) (v := ?_) rfl (by kernel_rfl) (by kernel_rfl) (by kernel_rfl) (early_sat (by kernel_rfl)) (fun _ _ _ h => h) (Or.inl ⟨by rfl, ?_⟩) hS ?_
    rotate_left
    · intro wl hSw
      obtain ⟨s0, s1, s2, s3, s4, s5⟩ := hSw
      go_simp
      with_reducible rfl
    simp only [Act.put, List.setIfInBounds_toArray, List.set_cons_zero, List.set_cons_succ]
    refine wpAnyJ_take (i := 12) (oi := { dst := some 43, op := .binOp _ _ (.tmp 37) (.tmp 42) _, type := _, pos := _, after := _, guard := _ }) (v := ?_) rfl (by kernel_rfl) (by kernel_rfl) (by kernel_rfl) (early_sat (by kernel_rfl)) (fun _ _ _ h => h) (Or.inl ⟨by rfl, ?_⟩) hS ?_
    rotate_left
    · intro wl hSw
      obtain ⟨s0, s1, s2, s3, s4, s5⟩ := hSw
      go_simp
      with_reducible rfl
    simp only [Act.put, List.setIfInBounds_toArray, List.set_cons_zero, List.set_cons_succ]
    refine wpAnyJ_take (i := 13) (oi := { dst := some 44, op := .binOp _ _ (.tmp 32) (.tmp 43) _, type := _, pos := _, after := _, guard := _ }) (v := ?_) rfl (by kernel_rfl) (by kernel_rfl) (by kernel_rfl) (early_sat (by kernel_rfl)) (fun _ _ _ h => h) (Or.inl ⟨by rfl, ?_⟩) hS ?_
    rotate_left
    · intro wl hSw
      obtain ⟨s0, s1, s2, s3, s4, s5⟩ := hSw
      go_simp
      with_reducible rfl
    simp only [Act.put, List.setIfInBounds_toArray, List.set_cons_zero, List.set_cons_succ]
    refine wpAnyJ_take (i := 14) (oi := { dst := some 9, op := .assign (.tmp 44), type := _, pos := _, after := _, guard := _ }) (v := ?_) rfl (by kernel_rfl) (by kernel_rfl) (by kernel_rfl) (early_sat (by kernel_rfl)) (fun _ _ _ h => h) (Or.inl ⟨by rfl, ?_⟩) hS ?_
    rotate_left
    · intro wl hSw
      obtain ⟨s0, s1, s2, s3, s4, s5⟩ := hSw
      go_simp
      with_reducible rfl
    simp only [Act.put, List.setIfInBounds_toArray, List.set_cons_zero, List.set_cons_succ]
    refine wpAnyJ_done (by kernel_rfl) ?_ _
    -- BEHIND REGION 11
    gi_wp2_with fail
    have hGd : ImgG w d e D n (.slice ad ns.length c) (.slice sa n sc) (imgL n pre s) V.drew := ⟨HI2.out.gr, HI2.out.sb, HI2.out.ob, HI2.out.own, HI2.out.bel.drew⟩
    exact ⟨((KeepsOthers.drew V).trans (KeepsOthers.setCell _ _ _)).trans (KeepsOthers.setCell _ _ _), (by show Below w.heap.size V _; rw [hd]; exact (((Below.refl d V).drew).setCell (p := ⟨D, x, none⟩) (by simp; omega) _).setCell (p := ⟨D, y, none⟩) (by simp; omega) _), by rw [HSN.out]; exact (hGd.step hD1 s2 x (za + F) _ rfl).step hD1 s2 y (zb - F) _ rfl, fun z hz => by
      rcases List.mem_append.1 hz with hz | hz
      · exact HM2.out z hz
      · simp at hz; subst hz; exact hm50⟩
  case done =>
    rintro D' ys W' hD' rfl hI hK
    have hG : ImgG w d e D n (.slice ad ns.length c) (.slice sa n sc) (imgL n ns s) W' := by
      have := hI.1
      rwa [show imgL n (ns.filter nl) s = imgL n ns s by unfold imgL; congr 1; funext i; exact img_filter s i ns] at this
    have HG := Lib.hid hG; have HKD := Lib.hid hK
    have HWN := Lib.hid (within_any W' (.slice (some ⟨D, 0, none⟩) n n) (imgL n ns s) (by
      have h2 := Sl.ofOwns hG.own
      exact h2))
    have o0 := hG.ob.cell 0 _ rfl; have ol := hG.ob.lt
    clear hI hK hG
    obtain ⟨O, hO⟩ : ∃ O, imgL n ns s = O := ⟨_, rfl⟩
    rw [hO] at HWN HG HOUT
    rcases HOUT.out with ⟨hin, rfl, rfl⟩ | ⟨hin, rfl, rfl⟩
    · rw [hin] at HWN
      gi_wp2_with ((with_reducible refine ⟨wideFn _, callsIn_wide.2 (HWN.out.mono ?_)⟩); rintro ee w8 ⟨v8, rfl, rfl, rfl⟩)
      refine ⟨by simp, .inl ⟨_, _, rfl, run_takeDeferred HKD.out, ?_⟩⟩
      exact ⟨.tuple #[.slice (some ⟨D, 0, none⟩) n n, .int .i64 0], by simp [results, Tryz.results21, go_sem], _, rfl, _, rfl, (Sl.ofOwns HG.out.own).put _ HKD.out rfl,
        (by rw [hd]; exact HG.out.bel.trans (belowK_b (w := w) (by omega) W' D' _ _ (by have := HS3.out; omega) HKD.out rfl rfl))⟩
    · rw [hin] at HWN
      gi_wp2_with ((with_reducible refine ⟨wideFn _, callsIn_wide.2 (HWN.out.mono ?_)⟩); rintro ee w8 ⟨v8, rfl, rfl, rfl⟩)
      refine ⟨by simp, .inl ⟨_, _, rfl, run_takeDeferred HKD.out, ?_⟩⟩
      exact ⟨.tuple #[.slice none 0 0, .int .i64 11], by simp [results, Tryz.results21, go_sem], _, rfl, _, rfl, Sl.nil' eZ _,
        (by rw [hd]; exact HG.out.bel.trans (belowK_b (w := w) (by omega) W' D' _ _ (by have := HS3.out; omega) HKD.out rfl rfl))⟩
end Go.Proofs.YtkkklfikdoibcaaGreatDoor
