/- Matrices by their numbers: what Determinant, Rank, Product and Transpose answer. -/
import Derived.Test.YtfhdmhifdaiehaaGreatDoorPk7
namespace Go.Proofs.YtfhdmhifdaiehaaGreatDoor
open Go.RowKit
set_option maxRecDepth 100000

theorem size_txt (z : Int) : (txt z).size ≤ dn z + 2 := by
  have h := itoa_len z
  simpa [txt, ByteArray.size] using h
theorem fit_cells {r c D : Nat} {A : Mat} (h : ∀ i k, i < r → k < c → dn (A i k) ≤ D) : Fit (D + 2) (cellsF r c A) := by
  intro s hs
  obtain ⟨t, ht, rfl⟩ := List.mem_map.1 hs
  have ht' : t < r * c := by simpa using ht
  have hc : 0 < c := by rcases Nat.eq_zero_or_pos c with e | e; · simp [e] at ht'
                        · exact e
  have := h (t / c) (t % c) (Nat.div_lt_of_lt_mul (by rw [Nat.mul_comm]; exact ht')) (Nat.mod_lt _ hc)
  have := size_txt (A (t / c) (t % c))
  omega
theorem matF_cells {r c i k : Nat} {A : Mat} (hi : i < r) (hk : k < c) (hb : big (A i k) = false) : matF c (cellsF r c A) i k = A i k := by
  unfold matF
  rw [List.getD_eq_getElem?_getD, cellsF_get? A hi hk]
  exact Good.num (.of hb)
theorem rm_cells {r c D : Nat} {A : Mat} (hr : r ≤ 16) (hc : c ≤ 16) (hD : D ≤ 1024) (h : ∀ i k, i < r → k < c → dn (A i k) ≤ D) : RM r c (cellsF r c A) r c :=
  rm_cellsF hr hc fun i k hi hk => bigD (Nat.le_trans (h i k hi hk) hD)
theorem rank_of {xs : List ByteArray} {r c : Nat} (h : RM r c xs r c) : ∃ k, rankS r c xs = (k, 0) ∧ Rk r c (matF c xs) k ∧ k ≤ r ∧ k ≤ c := by
  have hK := Kept.cols (m := r) (n := c) (matF c xs) c (Nat.le_refl _)
  exact ⟨_, by unfold rankS; rw [if_pos h.mchk]; rfl, hK.rk, hK.rank_le⟩
theorem rank_cells {r c D : Nat} {A : Mat} (hr : r ≤ 16) (hc : c ≤ 16) (hD : D ≤ 1024) (h : ∀ i k, i < r → k < c → dn (A i k) ≤ D) : ∃ k, rankS r c (cellsF r c A) = (k, 0) ∧ Rk r c A k ∧ k ≤ r ∧ k ≤ c := by
  obtain ⟨k, h1, h2, h3⟩ := rank_of (rm_cells hr hc hD h)
  exact ⟨k, h1, rk_congr h2 fun i j hi hj => matF_cells hi hj (bigD (Nat.le_trans (h i j hi hj) hD)), h3⟩
theorem det_of {xs : List ByteArray} {n : Nat} (h : RM n n xs n n) : detS n n xs = (txt (det n (matF n xs)), 0) := by
  unfold detS; rw [if_pos h.mchk, if_pos rfl]; rfl
theorem det_cells {n D : Nat} {A : Mat} (hn : n ≤ 16) (hD : D ≤ 1024) (h : ∀ i k, i < n → k < n → dn (A i k) ≤ D) : detS n n (cellsF n n A) = (txt (det n A), 0) := by
  rw [det_of (rm_cells hn hn hD h), det_congr fun i j hi hj => matF_cells hi hj (bigD (Nat.le_trans (h i j hi hj) hD))]
theorem prod_of {xs ys : List ByteArray} {r n p : Nat} (h : RM r n xs r n) (h' : RM n p ys n p) : prodS r n xs n p ys = ⟨r, p, cellsF r p (mulM n (matF n xs) (matF p ys)), 0⟩ := by
  unfold prodS twoM; rw [if_pos h.mchk, if_pos h'.mchk, if_pos rfl]; rfl
theorem tr_of {xs : List ByteArray} {r c : Nat} (h : RM r c xs r c) : trS r c xs = ⟨c, r, cellsF c r (tr (matF c xs)), 0⟩ := by
  unfold trS; rw [if_pos h.mchk]; rfl
theorem RM.self {R C : Int} {xs : List ByteArray} {r c : Nat} (h : RM R C xs r c) : RM r c xs r c := ⟨rfl, rfl, h.r16, h.c16, h.len, h.chk⟩
theorem Fit.big {D : Nat} {xs : List ByteArray} (h : Fit D xs) (hD : D ≤ 1000000) : ∀ s ∈ xs, s.size ≤ 1000000 := fun s hs => Nat.le_trans (h s hs) hD
/-- Functions of matrices, at right ones with few digits. -/
theorem det_call {w : World} {v : Value} {xs : List ByteArray} {n D : Nat} {A : Mat} (hv : Sl eS w v xs) (hx : xs = cellsF n n A) (hn : n ≤ 6) (hD : D ≤ 58) (h : ∀ i k, i < n → k < n → dn (A i k) ≤ D) (he : Env w) :
    Calls Tryz.prog 14 #[.agg #[.int .i64 n, .int .i64 n, v]] w (Rets fun v w' => v = .tuple #[.string (txt (det n A)), .int .i64 0] ∧ Below w.heap.size w w') := by
  subst hx
  exact retS_of (Determinant_any w n n v _ hv ((fit_cells h).mono (by omega)) (fun _ => by omega) he) (det_cells (by omega) (by omega) h)
theorem tr_call {w : World} {v : Value} {xs : List ByteArray} {r c D : Nat} {A : Mat} (hv : Sl eS w v xs) (hx : xs = cellsF r c A) (hr : r ≤ 16) (hc : c ≤ 16) (hD : D ≤ 1000) (h : ∀ i k, i < r → k < c → dn (A i k) ≤ D) :
    Calls Tryz.prog 25 #[.agg #[.int .i64 r, .int .i64 c, v]] w (RetM w c r (cellsF c r (tr A)) 0) := by
  subst hx
  refine retM_of (Transpose_any w r c v _ hv (fun _ => (fit_cells h).big (by omega))) ?_
  rw [tr_of (rm_cells hr hc (by omega) h), cellsF_congr fun i k hi hk => ?_]
  exact matF_cells hk hi (bigD (Nat.le_trans (h k i hk hi) (by omega)))
theorem prod_call {w : World} {v u : Value} {xs ys : List ByteArray} {r n p D : Nat} {A B : Mat} (hv : Sl eS w v xs) (hu : Sl eS w u ys) (hx : xs = cellsF r n A) (hy : ys = cellsF n p B) (hr : r ≤ 16) (hn : n ≤ 16) (hp : p ≤ 16) (hD : D ≤ 498) (hA : ∀ i k, i < r → k < n → dn (A i k) ≤ D) (hB : ∀ i k, i < n → k < p → dn (B i k) ≤ D) (he : Env w) :
    Calls Tryz.prog 24 #[.agg #[.int .i64 r, .int .i64 n, v], .agg #[.int .i64 n, .int .i64 p, u]] w (RetM w r p (cellsF r p (mulM n A B)) 0) := by
  subst hx hy
  refine retM_of (Product_any w r n n p v u _ _ hv hu (fun _ => (fit_cells hA).big (by omega)) (fun _ => (fit_cells hB).big (by omega)) ((fit_cells hA).mono (by omega)) ((fit_cells hB).mono (by omega)) he) ?_
  rw [prod_of (rm_cells hr hn (by omega) hA) (rm_cells hn hp (by omega) hB), cellsF_congr fun i k hi hk => ?_]
  exact sm_congr fun j hj => by rw [matF_cells hi hj (bigD (Nat.le_trans (hA i j hi hj) (by omega))), matF_cells hj hk (bigD (Nat.le_trans (hB j k hj hk) (by omega)))]
theorem rank_call {w : World} {v : Value} {xs : List ByteArray} {r c D k : Nat} {A : Mat} (hv : Sl eS w v xs) (hx : xs = cellsF r c A) (hr : r ≤ 6) (hc : c ≤ 6) (hD : D ≤ 58) (h : ∀ i k, i < r → k < c → dn (A i k) ≤ D) (hk : Rk r c A k) (he : Env w) :
    Calls Tryz.prog 16 #[.agg #[.int .i64 r, .int .i64 c, v]] w (Rets fun v w' => v = .tuple #[.int .i64 k, .int .i64 0] ∧ Below w.heap.size w w') := by
  subst hx
  obtain ⟨k', h1, h2, -⟩ := rank_cells (r := r) (c := c) (D := D) (A := A) (by omega) (by omega) (by omega) h
  obtain rfl := h2.uniq hk
  exact retN_of (Rank_any w r c v _ hv ((fit_cells h).mono (by omega)) (fun _ => by omega) he) h1
end Go.Proofs.YtfhdmhifdaiehaaGreatDoor
