/- Plain law: the rank of a matrix is unique; that of the transposed matrix is the same, that of a product is at most that of each factor. The walks of the reference's Few and of the law's pair. The walks of abelian's order, divides and Check. The walks of slices.IndexFunc and slices.ContainsFunc, for the closures that they are handed; the law's few; the reference's Few of groups. The walk of the reference's division of digits. The walk of the reference's division of digits: the loops. The walks of slices.Clone, DeleteFunc and Equal over texts, and of abelian's Of. The walk of slices.AppendSeq over an iterator whose values lie in memory. The walks of matrix's closures and of checks. The walks of matrix's Make, Unit, Get, Add, Product, Transpose and Minor. -/
import Derived.Test.YtkkklfikdoibcaaGreatDoorPk5
import Derived.Test.YtkkklfikdoibcaaGreatDoorPk4
import Derived.Laws.AppendOwnNone
import Derived.Test.YtkkklfikdoibcaaGreatDoorPk6
import Derived.Lib.SliceRun
import Derived.Sort.QuietIn
import Derived.Sort.LoopGhostIn
import Derived.Test.YtkkklfikdoibcaaGreatDoorPk3
import Derived.Laws.EntriesVeiled
namespace Go.Proofs.YtkkklfikdoibcaaGreatDoor
set_option maxRecDepth 100000

theorem rank_rows {m n : Nat} {A : Mat} {s : Est} (h : Kept m n n A s) : ∃ B : Mat, ∀ i, i < m → ∃ (Q : Int) (w : Nat → Int), Q ≠ 0 ∧ ∀ j, j < n → Q * A i j = sm s.rank (fun t => w t * B t j) := by
  obtain ⟨B, c, hI, -, σ, hσ, hσ2⟩ := h.ex
  refine ⟨B, fun i hi => ?_⟩
  obtain ⟨i', hi', he⟩ := hσ2 i hi
  have hB : ∀ j, A i j = B i' j := fun j => by rw [(hσ i' hi').2 j, he]
  by_cases hlt : i' < s.rank
  · refine ⟨1, fun t => if t = i' then 1 else 0, by omega, fun j _ => ?_⟩
    rw [sm_one _ i' hlt fun t _ ht => by simp [ht], hB]; simp
  · obtain ⟨q, w, hq, hrel⟩ := hI.rel i' (by omega) hi'
    refine ⟨q * s.last, fun t => -w t, Int.mul_ne_zero hq hI.d0, fun j hj => ?_⟩
    have h1 := hrel j hj
    rw [hI.zero i' (by omega) hi' j hj, Int.mul_zero] at h1
    rw [hB]
    have : sm s.rank (fun t => -w t * B t j) = -sm s.rank (fun t => w t * B t j) := by
      rw [← sm_neg]; exact sm_congr fun t _ => by rw [Int.neg_mul]
    rw [this]; omega
/-- The rank of an m × n matrix: some minor of that size is not 0, and all greater ones are. -/
structure Rk (m n : Nat) (A : Mat) (r : Nat) : Prop where
  some : ∃ R C : List Nat, R.length = r ∧ C.length = r ∧ Asc m R ∧ Asc n C ∧ det r (fun i j => A (R.getD i 0) (C.getD j 0)) ≠ 0
  none : ∀ (k : Nat) (ρ γ : Nat → Nat), r < k → (∀ i, i < k → ρ i < m) → (∀ j, j < k → γ j < n) → det k (fun i j => A (ρ i) (γ j)) = 0
theorem Kept.rk {m n : Nat} {A : Mat} {s : Est} (h : Kept m n n A s) : Rk m n A s.rank := ⟨(rank_spec h).1, (rank_spec h).2⟩
theorem asc_at {m : Nat} {R : List Nat} (h : Asc m R) (i : Nat) (hi : i < R.length) : R.getD i 0 < m := by
  rw [List.getD_eq_getElem?_getD, List.getElem?_eq_getElem hi]
  exact h.2 _ (List.getElem_mem hi)
theorem Rk.le {m n r r' : Nat} {A : Mat} (h : Rk m n A r) (h' : Rk m n A r') : r' ≤ r := by
  obtain ⟨R, C, hR, hC, aR, aC, hd⟩ := h'.some
  rcases Nat.lt_or_ge r r' with hl | hl
  · exact absurd (h.none r' _ _ hl (fun i hi => asc_at aR i (by omega)) (fun j hj => asc_at aC j (by omega))) hd
  · exact hl
theorem Rk.uniq {m n r r' : Nat} {A : Mat} (h : Rk m n A r) (h' : Rk m n A r') : r = r' := Nat.le_antisymm (h'.le h) (h.le h')
theorem Rk.tr {m n r : Nat} {A : Mat} (h : Rk m n A r) : Rk n m (tr A) r := by
  refine ⟨?_, fun k ρ γ hk hρ hγ => ?_⟩
  · obtain ⟨R, C, hR, hC, aR, aC, hd⟩ := h.some
    refine ⟨C, R, hC, hR, aC, aR, ?_⟩
    rw [← det_tr] at hd
    exact hd
  · rw [← det_tr]
    exact h.none k γ ρ hk hγ hρ
theorem rk_congr {m n r : Nat} {A B : Mat} (h : Rk m n A r) (he : ∀ i j, i < m → j < n → A i j = B i j) : Rk m n B r := by
  refine ⟨?_, fun k ρ γ hk hρ hγ => ?_⟩
  · obtain ⟨R, C, hR, hC, aR, aC, hd⟩ := h.some
    refine ⟨R, C, hR, hC, aR, aC, ?_⟩
    rw [← det_congr fun i j hi hj => he _ _ (asc_at aR i (by omega)) (asc_at aC j (by omega))]
    exact hd
  · rw [← h.none k ρ γ hk hρ hγ]
    exact (det_congr fun i j hi hj => he _ _ (hρ i hi) (hγ j hj)).symm
theorem sm_swap_mul (n r : Nat) (w : Nat → Int) (B : Mat) (u : Nat → Int) : sm n (fun k => sm r (fun t => w t * B t k) * u k) = sm r (fun t => w t * sm n (fun k => B t k * u k)) := by
  have e : ∀ k, sm r (fun t => w t * B t k) * u k = sm r (fun t => w t * (B t k * u k)) := fun k => by
    rw [Int.mul_comm, ← sm_mul]
    exact sm_congr fun t _ => by rw [Int.mul_comm, Int.mul_assoc]
  rw [sm_congr (g := fun k => sm r (fun t => w t * (B t k * u k))) fun k _ => e k, sm_comm]
  exact sm_congr fun t _ => by rw [sm_mul]
/-- The rank of a product is at most that of the first factor. -/
theorem rank_left {m n p z : Nat} {A B : Mat} {s : Est} (h : Kept m n n A s) (hz : Rk m p (mulM n A B) z) : z ≤ s.rank := by
  rcases Nat.lt_or_ge s.rank z with hl | hl
  · obtain ⟨R, C, hR, hC, aR, aC, hd⟩ := hz.some
    obtain ⟨Y, hY⟩ := rank_rows h
    have H : ∀ i, i < z → ∃ (Q : Int) (w : Nat → Int), Q ≠ 0 ∧ ∀ j, j < n → Q * A (R.getD i 0) j = sm s.rank (fun t => w t * Y t j) := fun i hi => hY _ (asc_at aR i (by omega))
    refine absurd (det_comb hl _ (fun t j => sm n (fun k => Y t k * B k (C.getD j 0))) (fun i => if h : i < z then (H i h).choose else 1) (fun i => if h : i < z then (H i h).choose_spec.choose else fun _ => 0) (fun i hi => ?_) (fun i j hi hj => ?_)) hd
    · simp only [dif_pos hi]; exact (H i hi).choose_spec.choose_spec.1
    · simp only [dif_pos hi]
      have h2 := (H i hi).choose_spec.choose_spec.2
      obtain ⟨Q, hQ⟩ : ∃ Q, (H i hi).choose = Q := ⟨_, rfl⟩
      obtain ⟨w, hw⟩ : ∃ w, (H i hi).choose_spec.choose = w := ⟨_, rfl⟩
      rw [hw] at h2 ⊢
      rw [hQ] at h2
      show (H i hi).choose * mulM n A B (R.getD i 0) (C.getD j 0) = _
      rw [hQ, mulM, ← sm_mul, ← sm_swap_mul]
      exact sm_congr fun k hk => by rw [← h2 k hk, Int.mul_assoc]
  · exact hl
theorem tr_mul (n : Nat) (A B : Mat) : tr (mulM n A B) = mulM n (tr B) (tr A) := by
  funext i j
  exact sm_congr fun k _ => Int.mul_comm _ _
/-- The rank of a product is at most that of the second factor. -/
theorem rank_right {m n p z y : Nat} {A B : Mat} (hy : Rk n p B y) (hz : Rk m p (mulM n A B) z) : z ≤ y := by
  have h1 := Kept.cols (m := p) (n := n) (tr B) n (Nat.le_refl _)
  have h2 := hz.tr
  rw [tr_mul] at h2
  have h3 := rank_left h1 h2
  rwa [← hy.tr.uniq h1.rk] at h3
theorem Kept.rank_le {m n : Nat} {A : Mat} {s : Est} (h : Kept m n n A s) : s.rank ≤ m ∧ s.rank ≤ n := by
  refine ⟨by obtain ⟨B, c, hI, -⟩ := h.ex; exact hI.rk, ?_⟩
  have h1 := Kept.cols (m := n) (n := m) (tr A) m (Nat.le_refl _)
  rw [h.rk.tr.uniq h1.rk]
  obtain ⟨B, c, hI, -⟩ := h1.ex; exact hI.rk
/-- A square matrix has full rank exactly if its determinant is not 0. -/
theorem full_iff {n : Nat} {A : Mat} {s : Est} (h : Kept n n n A s) : det n A ≠ 0 ↔ s.rank = n := by
  have h1 := elim_det A h
  have hr := h.rank_le.1
  obtain ⟨B, c, hI, -⟩ := h.ex
  by_cases e : s.rank < n
  · rw [h1, if_pos e]; omega
  · rw [h1, if_neg e]
    have h2 : sgB s.neg ≠ 0 := by cases s.neg <;> simp [sgB]
    exact ⟨fun _ => by omega, fun _ => Int.mul_ne_zero h2 hI.d0⟩
end Go.Proofs.YtkkklfikdoibcaaGreatDoor

namespace Go.Proofs.YtkkklfikdoibcaaGreatDoor
open Go.RowKit
set_option maxRecDepth 100000

/-- Is a text short, or at fault and not too long? -/
def few (s : ByteArray) : Bool := decide (s.size ≤ 60) || (decide (s.size ≤ 2048) && (chk s.data.toList == 3))
theorem few_size {s : ByteArray} (h : few s = true) : s.size ≤ 2048 := by
  simp [few] at h; omega

end Go.Proofs.YtkkklfikdoibcaaGreatDoor

namespace Go.Proofs.YtkkklfikdoibcaaGreatDoor
open Go.RowKit
set_option maxRecDepth 100000

theorem g2' : Good ⟨#[50]⟩ 2 := good_lit (by decide) (by decide)
theorem fmod_small {x y : Int} (h : x ≠ 0) (hx : big x = false) : big (Int.fmod y x) = false :=
  (big_iff _).2 (Nat.lt_trans (fmod_abs y x h) ((big_iff _).1 hx))
theorem before_succ (xs : List ByteArray) (k : Nat) (h : k < xs.length) : before xs (k + 1) = some xs[k] := by simp [before, h]
/-- What the check of a group holds at its k-th number. -/
structure At (xs : List ByteArray) (k : Nat) : Prop where
  le : k ≤ xs.length
  eq : gchk xs = gstep (before xs k) (xs.drop k)
  prev : ∀ h : 0 < k, ∃ z, Good (xs[k - 1]'(by omega)) z ∧ 2 ≤ z
theorem At.start {xs : List ByteArray} (h : xs.length ≤ 16) : At xs 0 := ⟨Nat.zero_le _, by unfold gchk; rw [if_neg (by omega)]; rfl, fun h => absurd h (by omega)⟩
theorem At.next {xs : List ByteArray} {k : Nat} (h : At xs k) (hk : k < xs.length) (h0 : chk xs[k].data.toList = 0) (h2 : ¬ num xs[k] < 2) (hf : fits (before xs k) xs[k] = true) : At xs (k + 1) :=
  ⟨hk, by rw [h.eq, List.drop_eq_getElem_cons hk, gstep, if_pos h0, if_neg h2, if_pos hf, before_succ xs k hk], fun _ => ⟨num xs[k], by simpa using good_num h0, by omega⟩⟩
theorem At.val {xs : List ByteArray} {k : Nat} (h : At xs k) (hk : k < xs.length) : gchk xs = if chk xs[k].data.toList = 0 then (if num xs[k] < 2 then 2 else if fits (before xs k) xs[k] then gstep (some xs[k]) (xs.drop (k + 1)) else 9) else chk xs[k].data.toList := by
  rw [h.eq, List.drop_eq_getElem_cons hk, gstep]
theorem At.done {xs : List ByteArray} (h : At xs xs.length) : gchk xs = 0 := by rw [h.eq, List.drop_length]; cases before xs xs.length <;> rfl

end Go.Proofs.YtkkklfikdoibcaaGreatDoor

namespace Go.Proofs.YtkkklfikdoibcaaGreatDoor
open Go.RowKit
set_option maxRecDepth 100000

/-- Is it the text of 1? -/
def isOne (s : ByteArray) : Bool := s.toList == [49]
theorem first_hit (p : ByteArray → Bool) : ∀ (xs : List ByteArray), xs.any p = true → ∃ m, ∃ h : m < xs.length, p xs[m] = true ∧ ∀ j (hj : j < m), p (xs[j]'(by omega)) = false
  | [], h => by simp at h
  | x :: l, h => by
    by_cases hx : p x = true
    · exact ⟨0, by simp, hx, fun j hj => absurd hj (by omega)⟩
    · obtain ⟨m, hm, h1, h2⟩ := first_hit p l (by simpa [hx] using h)
      refine ⟨m + 1, by simpa using hm, by simpa using h1, fun j hj => ?_⟩
      cases j with
      | zero => simpa using hx
      | succ j => simpa using h2 j (by omega)
/-- Has a list more than 20 texts, or a long one? -/
def bad (xs : List ByteArray) : Bool := decide (20 < xs.length) || xs.any fun s => !few s
/-- Is a group's number short, or at fault? -/
def ok05 (s : ByteArray) : Bool := decide (s.size ≤ 30) || (decide (s.size < 2048) && (chk s.data.toList != 0))
def few05 (xs : List ByteArray) : Bool := (xs.take 20).all ok05 && (decide (xs.length ≤ 8) || (decide (16 < xs.length) && decide (xs.length < 1000)))
theorem few05_step (xs : List ByteArray) (k : Nat) (h : k < xs.length) (h20 : k < 20) (ho : ok05 xs[k] = true) : ((xs.take 20).drop k).all ok05 = ((xs.take 20).drop (k + 1)).all ok05 := by
  have hk : k < (xs.take 20).length := by simp; omega
  rw [List.drop_eq_getElem_cons hk, List.all_cons, List.getElem_take, ho, Bool.true_and]
theorem few05_bad (xs : List ByteArray) (k : Nat) (h : k < xs.length) (h20 : k < 20) (ho : ok05 xs[k] = false) : few05 xs = false := by
  have hk : k < (xs.take 20).length := by simp; omega
  have : (xs.take 20).all ok05 = false := by
    rw [List.all_eq_false]
    exact ⟨xs[k], by rw [← List.getElem_take (h := hk)]; exact List.getElem_mem hk, by simp [ho]⟩
  simp [few05, this]
end Go.Proofs.YtkkklfikdoibcaaGreatDoor

namespace Go.Proofs.YtkkklfikdoibcaaGreatDoor
open Go.RowKit
set_option maxRecDepth 100000

/-- The slice's block is not below B. -/
def From (B : Nat) (v : Value) : Prop := ∀ b o p n c, v = .slice (some ⟨b, o, p⟩) n c → B ≤ b
theorem From.mono {B B' : Nat} {v : Value} (h : From B' v) (hb : B ≤ B') : From B v := fun b o p n c e => Nat.le_trans hb (h b o p n c e)
theorem From.none {B n c : Nat} : From B (.slice none n c) := fun b o p n c e => by cases e
theorem From.len {B n c : Nat} {a : Option Addr} (h : From B (.slice a n c)) (n' c' : Nat) : From B (.slice a n' c') := fun b o p n c e => by cases e; exact h b o p _ _ rfl
theorem From.ofOwns {w : World} {base e sz n : Nat} {v : Value} {xs : List Value} (h : w.ownsRow base e sz v n xs) : From base v := by
  rcases h.2 with ⟨rfl, _⟩ | ⟨g, cap, cur, rfl, hg, _⟩
  · exact From.none
  · intro b o p n c e; cases e; exact hg
theorem Sl.setFrom {w : World} {v : Value} {xs : List Nat} {B g k : Nat} {u : Value} (h : Sl eI w v xs) (hf : From B v) (hg : g < B) : Sl eI (w.setCell ⟨g, k, none⟩ u) v xs := by
  obtain ⟨a, b, o, c, rfl, ha, hc, hm, hn, hx⟩ := h
  refine ⟨a, b, o, c, rfl, ha, hc, hm, hn, fun h => by have := hx.1 h; simpa [World.setCell] using this, fun i hi => ?_⟩
  have hb : B ≤ b := hf b o Option.none _ _ (by rw [ha (by omega)])
  rw [← hx.2 i hi]
  exact World.cell?_of_block (w := w) (Below.heap_setCell _ _ _ _ (show b ≠ g by omega))

section
variable {P : Program} {t e : TypeId} {z : Value} {bytes : Nat} {ops : Array Oper} {rest : List Oper} {o : Oper} {a : Act} {Q : Exit → Act → World → Prop}
/-- 'append([]T{u}, xs...)'. -/
theorem appS {α : Type} {enc : α → Value} (hE : ElemOk P t e z 1 bytes) (hgd : o.guard = none) (s x : Operand) (ho : o.op = .call { callee := .builtin .append, args := #[s, x], argTypes := #[t, t] })
    {u v : Value} {xs : List α} {B : Nat} {w0 W : World} (hs : a.eval s = .slice (some ⟨w0.heap.size, 0, none⟩) 1 1) (hx : a.eval x = v) (hv : Sl enc w0 v xs) (hb : Below B W w0) (hB : B ≤ w0.heap.size)
    (h2 : ∀ y, (enc y).oneCell' = true) (hn : (1 + xs.length) * bytes ≤ 140737488355328) (hn' : 1 + xs.length ≤ maxLen)
    (h : ∀ v' w', w'.ownsRow w0.heap.size e 1 v' (1 + xs.length) (u :: xs.map enc) → Below B W w' → wpList P ops Q rest (a.put o.dst v') w') :
    wpList P ops Q (o :: rest) a (w0.alloc (.cells #[u] e)) := by
  obtain ⟨i, hi, hz, hsz, hby⟩ := hE.info
  have hown : (w0.alloc (.cells #[u] e)).ownsRow w0.heap.size e 1 (.slice (some ⟨w0.heap.size, 0, none⟩) 1 1) 1 [u] := ⟨rfl, .inr ⟨w0.heap.size, 1, #[u], rfl, by omega, heap_alloc_new w0 _, by omega, by simp [maxLen], rfl, rfl⟩⟩
  have hv := hv.below ((Below.refl _ w0).alloc (Nat.le_refl _) (.cells #[u] e)) (Nat.le_refl _)
  obtain ⟨ad, b, off, c, rfl, ha, hc, hm, hnn, hcell⟩ := hv
  cases ad with
  | none =>
    have hc0 := hnn rfl
    have hl0 : xs.length = 0 := by omega
    obtain rfl : xs = [] := List.length_eq_zero_iff.1 hl0
    subst hc0
    refine wpList_append_own_none hgd s x t ho w0.heap.size e i 1 hE.und hi _ 1 [u] hs hown hx ?_
    exact h _ _ hown (hb.alloc (by omega) _)
  | some ad =>
    have hnews : ∀ j y, (xs.map enc)[j]? = some y → (w0.alloc (.cells #[u] e)).cell? (ad.add j) = some y := by
      intro j y hj
      have hj' : j < xs.length := by have := (List.getElem?_eq_some_iff.1 hj).1; simpa using this
      have := ha (by omega)
      cases this
      have h3 := hcell.2 j hj'
      simp [hj'] at hj
      rw [show (⟨b, off, none⟩ : Addr).add j = ⟨b, off + j, none⟩ by simp [Addr.add], h3, hj]
    refine wpList_append_own _ hgd s x t ho w0.heap.size e i z 1 bytes hE.und hi hz hsz hby hE.cells hE.pos _ 1 [u] hs hown ad xs.length c (xs.map enc) hx (by simp) hnews (by intro y hy; obtain ⟨y', _, rfl⟩ := List.mem_map.1 hy; exact h2 y') hn' hn (by simp) ?_
    intro v' w' ho' hg _
    exact h v' w' ho' ((hb.alloc (by omega) _).grown hg (by simp; omega) (fun j hj => by have := (hown.lt j hj).1; omega))
end

set_option maxHeartbeats 400000 in
theorem cut_from (w : World) (v : Value) (xs : List Nat) (hv : Sl eI w v xs) :
    Calls Tryz.prog 225 #[v] w (Rets fun v' w' => Sl eI w' v' (trim xs) ∧ (∀ B, From B v → From B v') ∧ w = w') := by
  have HV := Lib.hid hv
  obtain ⟨a, b, o, c, rfl, hi, hx, hc, hm⟩ := hv.open elemInt
  clear hv
  unfold maxLen at hm
  go_enter Tryz.func225, Tryz.ntmps225
  go_wp2
  go_loop [3] (fun v => ∃ k : Nat, k ≤ xs.length ∧ v = .int .i64 k ∧ Hid (trim (xs.take k) = trim xs)) (fun v => (intOf v).toNat)
  case atStart => exact ⟨xs.length, Nat.le_refl _, rfl, Lib.hid (by simp)⟩
  case round =>
    obtain ⟨k, hk, rfl, HT⟩ := hrel
    rcases k with _ | k
    · go_wp2
      go_ret
      exact ⟨_, rfl, by rw [← HT.out]; exact HV.out.take 0 (Nat.zero_le _), fun B h => h.len _ _, rfl⟩
    · have hp : (0 : Int) < ((k + 1 : Nat) : Int) := by omega
      have h1 : w.cell? ⟨b, o + k, none⟩ = some (.int .i64 (xs[k] : Nat)) := hx.2 k (by omega)
      go_wp2
      · go_round
        case rel =>
          have h0 : ((xs[k] : Nat) == (0 : Int)) = true := by assumption
          have h0 : xs[k] = 0 := by simpa using h0
          exact ⟨k, by omega, by go_num, Lib.hid (by rw [← HT.out, take_snoc xs k (by omega), h0, trim_snoc_zero])⟩
        case measure => simp [intOf]
      · go_ret
        have h0 : ((xs[k] : Nat) == (0 : Int)) = false := by assumption
        have h0 : xs[k] ≠ 0 := by simpa using h0
        exact ⟨_, rfl, by rw [← HT.out, take_snoc xs k (by omega), trim_snoc _ _ h0, ← take_snoc xs k (by omega)]; exact HV.out.take (k + 1) hk, fun B h => h.len _ _, rfl⟩


set_option maxHeartbeats 1000000 in
theorem taken_from (w : World) (x y : Value) (m n : Nat) (hx : Sl eI w x (digs 10 m)) (hy : Sl eI w y (digs 10 n)) (hl : (digs 10 m).length ≤ 1000000) (hmn : n ≤ m) :
    Calls Tryz.prog 194 #[x, y] w (Rets fun v w' => Sl eI w' v (digs 10 (m - n)) ∧ From w.heap.size v ∧ Below w.heap.size w w') := by
  have hle := digs_len_mono 10 (by omega) hmn
  have ba := digs_lt 10 m (by omega)
  have bb := digs_lt 10 n (by omega)
  have va := val_digs 10 m (by omega)
  have vb := val_digs 10 n (by omega)
  generalize digs 10 m = xs at *
  generalize digs 10 n = ys at *
  have HX := Lib.hid hx; have HY := Lib.hid hy
  obtain ⟨ad, bl, o, c, rfl, hi, hp, -, -⟩ := hx.open elemInt
  obtain ⟨a', b', o', c', rfl, hi', hq, -, -⟩ := hy.open elemInt
  have BX := Lib.hid ba; have BY := Lib.hid bb; have VA := Lib.hid va; have VB := Lib.hid vb; have HLE := Lib.hid hle; have HMN := Lib.hid hmn
  clear ba bb va vb hx hy hle hq hi' hmn
  go_enter Tryz.func194, Tryz.ntmps194
  go_wp2
  go_loopw [5, 6, 7] (fun out bw i wr => ∃ (k c : Nat) (os : List Nat), k ≤ xs.length ∧ i = .int .i64 k ∧ bw = .int .i64 c ∧ c ≤ 1 ∧ Hid (os.length = k) ∧ Hid (∀ a ∈ os, a < 10) ∧
      Hid (val 10 (xs.take k) + 10 ^ k * c = val 10 os + val 10 (ys.take k)) ∧ wr.ownsRow w.heap.size 3 1 out os.length (os.map eI) ∧ Below w.heap.size w wr) (fun _ _ i _ => xs.length - (intOf i).toNat)
  case atStart => exact ⟨0, 0, [], by omega, rfl, rfl, by omega, Lib.hid rfl, Lib.hid (by simp), Lib.hid (by simp [val]), World.ownsRow_nil _ _ _ _, Below.refl _ _⟩
  case round =>
    obtain ⟨k, cy, os, hk, rfl, rfl, hcy, hol, hos, hv, hown, hb⟩ := hrel
    have hbs := hb.size
    by_cases hlt : k < xs.length
    · have hbp := BX.out xs[k] (List.getElem_mem hlt)
      have h1 : wr.cell? ⟨bl, o + k, none⟩ = some (.int .i64 (xs[k] : Nat)) := hp.at hb (Nat.le_refl _) k hlt
      have hgx : xs.getD k 0 = xs[k] := by simp [hlt]
      obtain ⟨d, hd⟩ : ∃ d, d = xs[k] := ⟨_, rfl⟩
      obtain ⟨d', hd'⟩ : ∃ d, ys.getD k 0 = d := ⟨_, rfl⟩
      have hdl' : d' < 10 := by rw [← hd']; exact getD_lt BY.out (by omega)
      rw [← hd] at h1 hbp hgx
      have HGX := Lib.hid hgx
      have HD' := Lib.hid hd'
      have HDG := Lib.hid (digit_d ys k d' hd')
      have hol2 : os.length ≤ 1000000 := by rw [hol.out]; omega
      clear hd hd' hgx
      have hbk := hb
      by_cases hneg : d < cy + d'
      · have HR := Lib.hid (less_step 10 xs ys os k cy (d + 10 - cy - d') 1 hol.out hos.out hv.out (by omega) (by rw [HGX.out, HD'.out]; omega))
        go_wp2
        go_quiet ((go_at_call 226; exact Calls.quiet_of_same (HDG.out _ _ (HY.out.below (below_drewN hb _) (Nat.le_refl _)))))
        have hbk := below_drewN hb nq
        have hok := own_drewN hown nq
        have hbs2 : w.heap.size ≤ (wr.drewN nq).heap.size := hbk.size
        clear hown hb hbs
        go_wp2_with (at_builtin; refine app1 elemInt rfl _ _ rfl rfl rfl hok hbk (Nat.le_refl _) hbs2 rfl (by simp [Value.oneCell']) (by omega) (by unfold maxLen; omega) ?_; intro v' w2 hown' hb')
        have ev : (d : Int) - d' - cy + 10 = ((d + 10 - cy - d' : Nat) : Int) := by omega
        rw [ev] at hown'
        go_roundw
        case rel => exact ⟨k + 1, 1, os ++ [d + 10 - cy - d'], by omega, by go_num, rfl, by omega, Lib.hid (by simp [hol.out]), Lib.hid HR.out.2.1, Lib.hid HR.out.2.2, by simpa [eI] using hown', hb'⟩
        case measure => simp [intOf]; omega
      · have HR := Lib.hid (less_step 10 xs ys os k cy (d - cy - d') 0 hol.out hos.out hv.out (by omega) (by rw [HGX.out, HD'.out]; omega))
        go_wp2
        go_quiet ((go_at_call 226; exact Calls.quiet_of_same (HDG.out _ _ (HY.out.below (below_drewN hb _) (Nat.le_refl _)))))
        have hbk := below_drewN hb nq
        have hok := own_drewN hown nq
        have hbs2 : w.heap.size ≤ (wr.drewN nq).heap.size := hbk.size
        clear hown hb hbs
        go_wp2_with (at_builtin; refine app1 elemInt rfl _ _ rfl rfl rfl hok hbk (Nat.le_refl _) hbs2 rfl (by simp [Value.oneCell']) (by omega) (by unfold maxLen; omega) ?_; intro v' w2 hown' hb')
        have ev : (d : Int) - d' - cy = ((d - cy - d' : Nat) : Int) := by omega
        rw [ev] at hown'
        go_roundw
        case rel => exact ⟨k + 1, 0, os ++ [d - cy - d'], by omega, by go_num, rfl, by omega, Lib.hid (by simp [hol.out]), Lib.hid HR.out.2.1, Lib.hid HR.out.2.2, by simpa [eI] using hown', hb'⟩
        case measure => simp [intOf]; omega
    · obtain rfl : k = xs.length := by omega
      have hfin : val 10 os = m - n := by
        have h1 := hv.out
        rw [List.take_of_length_le (Nat.le_refl _), List.take_of_length_le HLE.out, VA.out, VB.out] at h1
        have h2 := val_lt 10 os hos.out
        rw [hol.out] at h2
        have h3 := HMN.out
        rcases (show cy = 0 ∨ cy = 1 by omega) with rfl | rfl <;> omega
      have HF := Lib.hid hfin; clear hfin
      go_wp2_with fail
      refine (cut_from _ _ os (Sl.ofOwns hown)).mono ?_
      rintro e w2 ⟨v2, rfl, hs2, hf2, rfl⟩
      have HS2 := Lib.hid hs2; have HF2 := Lib.hid (hf2 _ (From.ofOwns hown)); clear hs2 hf2
      go_wp2
      go_ret
      exact ⟨_, rfl, by rw [← trim_of 10 os _ (by omega) hos.out HF.out]; exact HS2.out, HF2.out, hb⟩
end Go.Proofs.YtkkklfikdoibcaaGreatDoor

namespace Go.Proofs.YtkkklfikdoibcaaGreatDoor
open Go.RowKit
set_option maxRecDepth 100000

theorem Sl.uniqueI {w : World} {v : Value} {xs ys : List Nat} (h : Sl eI w v xs) (h' : Sl eI w v ys) : xs = ys := by
  obtain ⟨a, b, o, c, rfl, ha, -, -, -, hx⟩ := h
  obtain ⟨a', b', o', c', he, ha', -, -, -, hx'⟩ := h'
  injection he with e1 e2 e3
  refine List.ext_getElem e2 fun i h1 h2 => ?_
  have p1 := ha (by omega)
  have p2 := ha' (by omega)
  rw [← e1, p1] at p2
  injection p2 with p2
  injection p2 with q1 q2
  have c1 := hx.2 i h1
  have c2 := hx'.2 i h2
  rw [← q1, ← q2, c1] at c2
  simp [eI] at c2
  exact_mod_cast c2
open Classical in
/-- The natural number that a slice of digits reads as. -/
noncomputable def rdD (w : World) (v : Value) : Nat := if h : ∃ n, Sl eI w v (digs 10 n) then Classical.choose h else 0
theorem rdD_eq {w : World} {v : Value} {n : Nat} (h : Sl eI w v (digs 10 n)) : rdD w v = n := by
  have hex : ∃ n, Sl eI w v (digs 10 n) := ⟨n, h⟩
  unfold rdD
  rw [dif_pos hex]
  have := (Classical.choose_spec hex).uniqueI h
  have e := congrArg (val 10) this
  rwa [val_digs _ _ (by omega), val_digs _ _ (by omega)] at e
theorem own_lt {w : World} {base e g n cap : Nat} {xs : List Value} (h : w.ownsRow base e 1 (.slice (some ⟨g, 0, none⟩) n cap) n xs) : g < w.heap.size := by
  rcases h.2 with ⟨h0, _⟩ | ⟨g', cap', cur, he, _, hg, _⟩
  · cases h0
  · cases he; exact (Array.getElem?_eq_some_iff.1 hg).1
theorem trim_cons (x r : Nat) (hx : x < 10) : trim (x :: digs 10 r) = digs 10 (x + 10 * r) :=
  trim_of 10 _ _ (by omega) (by intro a ha; rcases List.mem_cons.1 ha with rfl | h; exact hx; exact digs_lt 10 r (by omega) a h) (by rw [val, val_digs _ _ (by omega)])
theorem zeros_val (n : Nat) : val 10 (List.replicate n 0) = 0 := by
  induction n with
  | zero => rfl
  | succ n ih => rw [List.replicate_succ, val, ih]

end Go.Proofs.YtkkklfikdoibcaaGreatDoor

namespace Go.Proofs.YtkkklfikdoibcaaGreatDoor
open Go.RowKit
set_option maxRecDepth 100000

section
variable {P : Program} {t e : TypeId} {z : Value} {bytes : Nat} {ops : Array Oper} {rest : List Oper} {o : Oper} {a : Act} {Q : Exit → Act → World → Prop}
/-- 'append([]T{}, xs...)', xs not nil. -/
theorem appC {α : Type} {enc : α → Value} (hE : ElemOk P t e z 1 bytes) (hgd : o.guard = none) (s x : Operand) (ho : o.op = .call { callee := .builtin .append, args := #[s, x], argTypes := #[t, t] })
    {xs : List α} {B : Nat} {w0 w1 W : World} {v : Value} {ad : Addr} {c : Nat} (hown : w1.ownsRow w0.heap.size e 1 v 0 []) (hb1 : Below B W w1) (hs0 : w0.heap.size ≤ w1.heap.size) (hBw : B ≤ w0.heap.size) (hs : a.eval s = v) (hx : a.eval x = .slice (some ad) xs.length c) (hv : Sl enc w1 (.slice (some ad) xs.length c) xs)
    (h2 : ∀ y, (enc y).oneCell' = true) (hn : xs.length * bytes ≤ 140737488355328) (hn' : xs.length ≤ maxLen)
    (h : ∀ v' w', w'.ownsRow w0.heap.size e 1 v' xs.length (xs.map enc) → Below B W w' → wpList P ops Q rest (a.put o.dst v') w') :
    wpList P ops Q (o :: rest) a w1 := by
  obtain ⟨i, hi, hz, hsz, hby⟩ := hE.info
  obtain ⟨ad', b, off, c', he, ha, hc, hm, hnn, hcell⟩ := hv
  cases he
  have hnews : ∀ j y, (xs.map enc)[j]? = some y → w1.cell? (ad.add j) = some y := by
    intro j y hj
    have hj' : j < xs.length := by have := (List.getElem?_eq_some_iff.1 hj).1; simpa using this
    have := ha (by omega)
    cases this
    have h3 := hcell.2 j hj'
    simp [hj'] at hj
    rw [show (⟨b, off, none⟩ : Addr).add j = ⟨b, off + j, none⟩ by simp [Addr.add], h3, hj]
  refine wpList_append_own _ hgd s x t ho w0.heap.size e i z 1 bytes hE.und hi hz hsz hby hE.cells hE.pos _ 0 [] hs hown ad xs.length c (xs.map enc) hx (by simp) hnews (by intro y hy; obtain ⟨y', _, rfl⟩ := List.mem_map.1 hy; exact h2 y') (by rw [Nat.zero_add]; exact hn') (by rw [Nat.zero_add]; exact hn) hs0 ?_
  intro v' w' ho' hg _
  rw [Nat.zero_add, List.nil_append] at ho'
  exact h v' w' ho' (hb1.grown hg (by omega) (fun j hj => by have := (hown.lt j hj).1; omega))
end

theorem nil_no (a : Addr) (n c : Nat) (w : World) : (binOp BinOp.eql 27 (.slice (some a) n c) (.slice none 0 0)).run Tryz.prog w = .ok (.bool false) w := by kernel_rfl
theorem nil_yes (w : World) : (binOp BinOp.eql 27 (.slice none 0 0) (.slice none 0 0)).run Tryz.prog w = .ok (.bool true) w := by kernel_rfl
set_option maxHeartbeats 1000000 in
theorem clone_any (w : World) (v : Value) (xs : List ByteArray) (hv : Sl eS w v xs) (hl : xs.length ≤ 1000000) :
    Calls Tryz.prog 203 #[v] w (Rets fun v' w' => w'.ownsRow w.heap.size 48 1 v' xs.length (xs.map eS) ∧ Below w.heap.size w w') := by
  have HV := Lib.hid hv
  have hn1 := nil_no
  have hn2 := nil_yes
  obtain ⟨a, b, o, c, rfl, ha, hc, hm, hn0, hp⟩ := hv
  cases a with
  | none =>
    have hc0 := hn0 rfl
    have hl0 : xs.length = 0 := by omega
    obtain rfl : xs = [] := List.length_eq_zero_iff.1 hl0
    subst hc0
    clear HV ha hp hn0
    go_enter Tryz.func203, Tryz.ntmps203
    go_wp2
    go_ret
    exact ⟨_, rfl, World.ownsRow_nil _ _ _ _, Below.refl _ _⟩
  | some a =>
    clear ha hp hn0
    have HO : Hid ((w.alloc (.cells #[] 48)).ownsRow w.heap.size 48 1 (.slice (some ⟨w.heap.size, 0, none⟩) 0 0) 0 []) := Lib.hid ⟨rfl, .inr ⟨w.heap.size, 0, #[], rfl, by omega, heap_alloc_new w _, by omega, by simp [maxLen], rfl, rfl⟩⟩
    have HB0 := Lib.hid ((Below.refl w.heap.size w).alloc (Nat.le_refl _) (.cells #[] 48))
    go_enter Tryz.func203, Tryz.ntmps203
    go_wp2_with (at_builtin; refine appC elemStr rfl _ _ rfl (w0 := w) HO.out HB0.out (by simp) (Nat.le_refl _) rfl rfl (HV.out.below HB0.out (Nat.le_refl _)) (fun y => by simp [eS, Value.oneCell']) (by omega) (by unfold maxLen; omega) ?_; intro v' w2 hown' hb'; have HO2 := Lib.hid hown'; clear hown')
    go_ret
    exact ⟨_, rfl, HO2.out, hb'⟩

theorem size_sc (b : Nat) : ∀ (vs : List Value) (o : Nat) (w : World), (w.setCells b o vs).heap.size = w.heap.size
  | [], _, _ => rfl
  | _ :: r, o, _ => by rw [World.setCells, size_sc b r]; simp
theorem below_sc {B b : Nat} {a : World} (hb : B ≤ b) : ∀ (vs : List Value) (o : Nat) (w : World), Below B a w → Below B a (w.setCells b o vs)
  | [], _, _, h => h
  | v :: r, o, _, h => below_sc hb r (o + 1) _ (h.setCell hb v)
theorem take_filter (p : ByteArray → Bool) (xs : List ByteArray) (j : Nat) (h : j < xs.length) : (xs.take (j + 1)).filter p = (xs.take j).filter p ++ (if p xs[j] then [xs[j]] else []) := by
  rw [List.take_succ_eq_append_getElem h, List.filter_append]
  congr 1
  by_cases hp : p xs[j] <;> simp [hp]
end Go.Proofs.YtkkklfikdoibcaaGreatDoor

namespace Go.Proofs.YtkkklfikdoibcaaGreatDoor
open Go.RowKit Go.Shelf
set_option maxRecDepth 100000

attribute [local go_sem] Oper.semAt_some

/-- All below B stands, and so do all blocks of texts. -/
def KpR (B : Nat) (W W' : World) : Prop := Below B W W' ∧ ∀ (b : Nat) (cs : Array Value) (m : Nat × Nat), W.heap[b]? = some (Obj.cells cs 48 m) → W'.heap[b]? = some (Obj.cells cs 48 m)
theorem KpR.tr {B : Nat} {X Y Z : World} (h : KpR B X Y) (h' : KpR B Y Z) : KpR B X Z := ⟨h.1.trans h'.1, fun b cs m e => h'.2 b cs m (h.2 b cs m e)⟩
theorem KpR.put {B : Nat} (W : World) (l : Nat) (o o' : Obj) (hB : B ≤ l) (ho : W.heap[l]? = some o) (hc : o.isCells = false) : KpR B W (W.putObj l o') := by
  refine ⟨(Below.refl B W).grown (grownBy_putObj' W l o') (by have := (Array.getElem?_eq_some_iff.1 ho).1; omega) (fun k e => by cases e; omega), fun b cs m e => ?_⟩
  have hne : b ≠ l := fun e2 => by subst e2; rw [ho] at e; cases e; exact absurd hc (by simp [Obj.isCells])
  exact (World.putObj_heap_other hne).trans e
theorem KpR.below {B K : Nat} {W W' : World} (h : Below K W W') (hB : W.heap.size ≤ K) (hBK : B ≤ K) : KpR B W W' := ⟨h.mono hBK, fun b _ _ e => (h.block b (Nat.lt_of_lt_of_le (Array.getElem?_eq_some_iff.1 e).1 hB)).trans e⟩
theorem KpR.own {B : Nat} {W W' : World} (h : KpR B W W') {b n : Nat} {v : Value} {ys : List Value} (ho : W.ownsRow b 48 1 v n ys) : W'.ownsRow b 48 1 v n ys :=
  ⟨ho.1, ho.2.imp_right fun ⟨g, cap, cur, h1, h2, h3, r⟩ => ⟨g, cap, cur, h1, h2, h.2 _ _ _ h3, r⟩⟩
theorem own_low {w : World} {b b' e s n : Nat} {v : Value} {ys : List Value} (h : w.ownsRow b e s v n ys) (hb : b' ≤ b) : w.ownsRow b' e s v n ys :=
  ⟨h.1, h.2.imp_right fun ⟨g, cap, cur, h1, h2, r⟩ => ⟨g, cap, cur, h1, Nat.le_trans hb h2, r⟩⟩
/-- Blocks of texts stand behind 'rows = append(rows, row)'. -/
theorem texts_appended {W w1 : World} {B n₀ k : Nat} {v v' : Value} {xs : List Value} {tmp : Obj} (hv : Boxed w1 B 147 v) (hrow : W.ownsRow n₀ 27 1 v k xs) (hgrow : (W.alloc tmp).grownBy w1 v.ownBlock) :
    ∀ (b : Nat) (cs : Array Value) (q : Nat × Nat), W.heap[b]? = some (Obj.cells cs 48 q) → (w1.setCell ⟨B, 0, none⟩ v').heap[b]? = some (Obj.cells cs 48 q) := by
  intro b cs m e
  have hlt : b < W.heap.size := (Array.getElem?_eq_some_iff.1 e).1
  have e1 : (W.alloc tmp).heap[b]? = some (Obj.cells cs 48 m) := (Below.heap_alloc _ _ _ hlt).trans e
  have hne : some b ≠ v.ownBlock := by
    rcases hrow.2 with ⟨rfl, _⟩ | ⟨g, cap, cur, rfl, _, hgb, _⟩
    · simp [Value.ownBlock]
    · intro e2
      obtain rfl : b = g := by simpa [Value.ownBlock] using e2
      rw [e] at hgb; cases hgb
  have e2 : w1.heap[b]? = some (Obj.cells cs 48 m) := (hgrow.block b (by simp; omega) hne).trans e1
  refine (Below.heap_setCell _ _ _ _ (show b ≠ B from fun e3 => ?_)).trans e2
  subst e3
  rw [show w1.heap[b]? = _ from hv] at e2
  cases e2

set_option maxHeartbeats 2000000 in
theorem appendSeq_in {α : Type} (va : α → Option Addr) (vn vc : α → Nat) {Gd : Nat → α → World → Prop} {S : List α → World → Prop} {N : Nat} (hN : N ≤ 1000000) (w : World) (lb : Array Value)
    (hseq : ∀ n, 1 ≤ n → SeqG Fence.wide n Tryz.prog 202 lb (fun x => #[.slice (va x) (vn x) (vc x)]) (KpR w.heap.size) Gd S N w)
    (hGs : ∀ s x (W : World), Gd s x W → s ≤ W.heap.size) (hGb : ∀ s x (W : World) (l : Nat) (o o' : Obj), Gd s x W → W.heap[l]? = some o → o.isCells = false → Gd s x (W.putObj l o'))
    (hSb : ∀ xs (W : World) (l : Nat) (o o' : Obj), S xs W → W.heap[l]? = some o → o.isCells = false → S xs (W.putObj l o')) :
    CallsIn Fence.wide 4 Tryz.prog 201 #[.slice none 0 0, .func (.func 202) #[] lb] w (Rets fun v w' => ∃ xs : List α, S xs w' ∧ w'.ownsRow w.heap.size 27 1 v xs.length (xs.map fun x => .slice (va x) (vn x) (vc x)) ∧ Below w.heap.size w w') := by
  have HSQ := Lib.hid hseq; have HGB := Lib.hid hGb; have HSB := Lib.hid hSb; have HGS := Lib.hid hGs
  clear hseq hGb hSb hGs
  refine callsIn_of_wp_marks Tryz.func201 rfl trivial ?_ rfl
  simp only [Tryz.ntmps201, List.size_toArray, List.length_cons, List.length_nil, Nat.reduceAdd, Nat.reduceSub, Array.replicate_succ, Array.replicate_zero, List.push_toArray, List.append_toArray, List.nil_append, List.cons_append]
  gi_wp2
  obtain ⟨i0, hi, hz0, hz1, hz2⟩ := info_parts (by kernel_rfl : (Tryz.prog.info? 27).map (fun i => (i.zero, i.size, i.bytes)) = some (some (.slice none 0 0), 1, 24))
  have bL := Boxed.new w 147 (.slice none 0 0)
  have hB0 : Below w.heap.size w (w.alloc (.cells #[.slice none 0 0] 147)) := (Below.refl _ _).alloc (Nat.le_refl _) _
  have hB1 : w.heap.size ≤ (w.alloc (.cells #[.slice none 0 0] 147)).heap.size := by simp
  refine wpIn_rangeG rfl (by omega) (gf := 202) (lb := lb) rfl trivial (enters_of Tryz.func202 (by kernel_rfl) rfl)
    (encs := fun x => #[.slice (va x) (vn x) (vc x)]) (HSQ.out _ (by omega)) KpR.tr (fun W l o o' hl ho hc => KpR.put W l o o' (by have := hl; simp at this; omega) ho hc) HGB.out HSB.out hB0 (fun _ => rfl)
    (fun pre W => (∃ v, Boxed W w.heap.size 147 v ∧ W.ownsRow (w.heap.size + 4) 27 1 v pre.length (pre.map fun x => .slice (va x) (vn x) (vc x)) ∧ True) ∧ Below w.heap.size w W)
    (OwnFrom.and (Own.from (holdsRow_own (w.heap.size + 4) w.heap.size 147 27 1 (fun pre : List α => pre.length) (fun pre => pre.map fun x => .slice (va x) (vn x) (vc x)) (fun _ _ => True)) _) (ownFrom_below (Nat.le_refl _) hB1))
    (fun pre W1 j u hI => by
      obtain ⟨⟨v, hv, hrow, -⟩, hB⟩ := hI
      refine ⟨⟨v, (Below.heap_setCell _ _ _ _ (by simp; omega)).trans hv, own_off hrow (by simp), trivial⟩, hB.setCell (by simp; omega) _⟩)
    ⟨⟨_, bL, World.ownsRow_nil _ _ _ _, trivial⟩, hB0⟩
    (fun x => { tmps := #[.slice none 0 0, .func (.func 202) #[] lb, .pointer (some ⟨w.heap.size, 0, none⟩), undef, .slice none 0 0, .slice (va x) (vn x) (vc x), .func (.func 202) #[] lb, .slice (va x) (vn x) (vc x), undef, undef, undef, undef, undef], defers := [] }) ?assign ?body ?done
  case assign =>
    intro l x W K hK
    gi_wp2
    exact hK
  case body =>
    rintro l pre x W ⟨⟨v, hv, hrow, -⟩, hB⟩ hgd hlt
    have hs := HGS.out _ _ _ hgd
    have hc := hv.cell
    have hBs : w.heap.size + 3 ≤ W.heap.size := by have := hs; simp at this; omega
    gi_wp2_with (gi_at_builtin; go_loud (refine wpListIn_append_own _ rfl _ _ 147 rfl (w.heap.size + 4) 27 i0 (.slice none 0 0) 1 24 Tryz.underlying147 hi hz0 hz1 hz2 rfl (by decide) _ _ _ rfl (hrow.alloc _) ⟨W.heap.size, 0, none⟩ 1 1 [.slice (va x) (vn x) (vc x)] rfl rfl (cell_one_new _ _ _) (by simp [Value.oneCell']) (by unfold maxLen; omega) (by omega) (by first | (simp; done) | (simp; omega)) ?_; intro v' w1 hown' hgrow _; obtain ⟨g', cap', rfl⟩ := ownsRow_succ hown'; obtain ⟨hv1, hv2, -, hk2, hb2⟩ := hv.appended (by decide) (own_low hrow (by omega)) (by omega) (Nat.le_refl _) (own_low hown' (by omega)) hgrow; have hr2 := hown'.kept (grownBy_setCell' w1 w.heap.size (.slice (some ⟨g', 0, none⟩) (pre.length + 1) cap')) (.inr (hv1.not_row (by decide) hown').symm); have hc1 := hv1.cell; have hf1 := hv1.frozen))
    exact ⟨hk2, ⟨hb2, texts_appended hv1 hrow hgrow⟩, ⟨_, hv2, by simpa using hr2, trivial⟩, hB.trans hb2⟩
  case done =>
    rintro D xs W hD hS ⟨⟨v, hv, hrow, -⟩, hB⟩ hK
    have hc := hv.cell
    have hDg : w.heap.size + 1 ≤ D := by simpa using hD
    gi_wp2
    refine ⟨by simp, .inl ⟨_, _, rfl, run_takeDeferred hK, ?_⟩⟩
    exact ⟨v, by simp [results, Tryz.results201, go_sem], _, rfl, xs, HSB.out _ _ _ _ _ hS hK rfl, ownsRow_putObj (own_low hrow (by omega)) _ hK rfl, hB.trans (belowK_b (w := w) (Nat.le_refl _) W D _ _ (by omega) hK rfl rfl)⟩
end Go.Proofs.YtkkklfikdoibcaaGreatDoor

namespace Go.Proofs.YtkkklfikdoibcaaGreatDoor
open Go.RowKit
set_option maxRecDepth 100000

/-- A list of texts stands where a block without texts is written. -/
theorem Sl.off {w : World} {g : Nat} {cs : List Value} {T : TypeId} {v : Value} {xs : List ByteArray} (h : Sl eS w v xs) (hk : Blk w g cs T) (hc : ∀ (j : Nat) (s : ByteArray), cs[j]? ≠ some (.string s)) (j : Nat) (u : Value) : Sl eS (w.setCell ⟨g, j, none⟩ u) v xs := by
  obtain ⟨a, b, o, c, rfl, ha, hcc, hm, hn, hx⟩ := h
  refine ⟨a, b, o, c, rfl, ha, hcc, hm, hn, fun h0 => by simpa using hx.1 h0, fun i hi => ?_⟩
  have h1 := hx.2 i hi
  have hne : b ≠ g := fun e => by
    subst e
    have hb : w.heap[b]? = _ := hk
    have : (cs.toArray)[o + i]? = some (.string xs[i]) := by
      have h2 := h1
      simp only [World.cell?, hb] at h2
      simpa [eS] using h2
    exact hc _ _ (by simpa using this)
  exact (World.cell?_of_block (Below.heap_setCell _ _ _ _ hne)).trans h1
/-- The result's cell takes a matrix. -/
theorem res_done {w wr : World} {g : Nat} {R C : Int} {u : Value} {os : List ByteArray} (hB : Below w.heap.size w wr) (hg : w.heap.size ≤ g) (hr : Blk wr g [.int .i64 0, .int .i64 0, .slice none 0 0] 29) (hs : Sl eS wr u os) :
    Blk (((wr.setCell ⟨g, 0, none⟩ (.int .i64 R)).setCell ⟨g, 1, none⟩ (.int .i64 C)).setCell ⟨g, 2, none⟩ u) g [.int .i64 R, .int .i64 C, u] 29 ∧
    Sl eS (((wr.setCell ⟨g, 0, none⟩ (.int .i64 R)).setCell ⟨g, 1, none⟩ (.int .i64 C)).setCell ⟨g, 2, none⟩ u) u os ∧
    Below w.heap.size w (((wr.setCell ⟨g, 0, none⟩ (.int .i64 R)).setCell ⟨g, 1, none⟩ (.int .i64 C)).setCell ⟨g, 2, none⟩ u) := by
  have no : ∀ (a b : Int) (sl : Value), (∀ s, sl ≠ .string s) → ∀ (j : Nat) (s : ByteArray), [Value.int .i64 a, .int .i64 b, sl][j]? ≠ some (.string s) := by
    intro a b sl hsl j s
    match j with
    | 0 => simp
    | 1 => simp
    | 2 => simp [hsl s]
    | j + 3 => simp
  have r1 := hr.set 0 (.int .i64 R)
  have r2 := r1.set 1 (.int .i64 C)
  refine ⟨by simpa using r2.set 2 u, ?_, ((hB.setCell hg _).setCell hg _).setCell hg _⟩
  exact ((hs.off hr (no 0 0 _ (by simp)) 0 _).off r1 (no R 0 _ (by simp)) 1 _).off r2 (no R C _ (by simp)) 2 _
theorem sl_form {α : Type} {enc : α → Value} {w : World} {v : Value} {xs : List α} (h : Sl enc w v xs) : ∃ a c, v = .slice a xs.length c := by
  obtain ⟨a, b, o, c, rfl, -⟩ := h; exact ⟨a, c, rfl⟩
theorem Up.start (w : World) : Up w.heap.size w w := ⟨Nat.le_refl _, Below.refl _ _⟩
theorem Up.bel {h : Nat} {W w : World} (H : Up h W w) : Below h W w := H.2
/-- Three cells of two blocks. -/
theorem held_two {h g1 g2 : Nat} {W : World} {a b c d e f : Value} {T T' : TypeId} (h1 : Blk W g1 [a, b, c] T) (h2 : Blk W g2 [d, e, f] T') (hg1 : g1 < h) (hg2 : g2 < h) : ∀ w', Up h W w' → Up h W w' ∧ (w'.cell? ⟨g1, 0, none⟩ = some a ∧ w'.cell? ⟨g1, 1, none⟩ = some b ∧ w'.cell? ⟨g1, 2, none⟩ = some c) ∧ w'.cell? ⟨g2, 0, none⟩ = some d ∧ w'.cell? ⟨g2, 1, none⟩ = some e ∧ w'.cell? ⟨g2, 2, none⟩ = some f :=
  fun _ H => ⟨H, ⟨(H.box h1 hg1).cell 0 _ rfl, (H.box h1 hg1).cell 1 _ rfl, (H.box h1 hg1).cell 2 _ rfl⟩, (H.box h2 hg2).cell 0 _ rfl, (H.box h2 hg2).cell 1 _ rfl, (H.box h2 hg2).cell 2 _ rfl⟩

set_option maxHeartbeats 1000000 in
theorem Make1_any (w : World) (gL gC : Nat) (v : Value) (ls : List Int) (c i k : Nat) (z : Int) (hL : Blk w gL [v] 39) (hC : Blk w gC [.int .i64 (c : Nat)] 3) (hv : Sl eZ w v ls) (_hl : ls.length ≤ 256) (hz : ls[i * c + k]? = some z) (h0 : -9223372036854775808 ≤ z) (h1 : z ≤ 9223372036854775807) (he : Env w) :
    Calls Tryz.prog 173 #[.int .i64 i, .int .i64 k, .pointer (some ⟨gL, 0, none⟩), .pointer (some ⟨gC, 0, none⟩)] w (Rets fun v w' => v = .tuple #[.string (txt z), .int .i64 0] ∧ Below w.heap.size w w') := by
  have HE := Lib.hid he; have H0 := Lib.hid h0; have H1 := Lib.hid h1
  obtain ⟨ad, b, o, cap, rfl, hx, hp, hcc, hm⟩ := hv.open elemInt
  unfold maxLen at hm
  obtain ⟨h, hs⟩ := List.getElem?_eq_some_iff.1 hz
  have h1 : w.cell? ⟨b, o + (i * c + k), none⟩ = some (eZ ls[i * c + k]) := hp.2 _ h
  obtain ⟨j, hj⟩ : ∃ j : Nat, i * c + k = j := ⟨_, rfl⟩
  obtain ⟨m, hmm⟩ : ∃ m : Nat, i * c = m := ⟨_, rfl⟩
  have hmi : (i : Int) * (c : Int) = (m : Int) := by rw [← Int.natCast_mul, hmm]
  simp only [hj] at h1 h hs
  have hji : (m : Int) + (k : Int) = (j : Int) := by omega
  rw [hs] at h1
  unfold eZ at h1
  have c0 := hL.cell 0 _ rfl; have c1 := hC.cell 0 _ rfl
  clear hv hj hmm hs hz h0 he hL hC
  go_enter Tryz.func173, Tryz.ntmps173
  go_wp2_with (go_at_call 151; (with_reducible refine (Of_any _ z H0.out H1.out HE.out).mono ?_); rintro e w1 ⟨v, rfl, rfl, hb1⟩)
  go_ret2
  exact ⟨_, rfl, rfl, hb1⟩
set_option maxHeartbeats 1000000 in
theorem Transpose1_any (w : World) (g : Nat) (R : Int) (v : Value) (xs : List ByteArray) (c i k : Nat) (s : ByteArray) (hk : Blk w g [.int .i64 R, .int .i64 c, v] 29) (hv : Sl eS w v xs) (hl : xs.length ≤ 256) (hs : xs[k * c + i]? = some s) :
    Calls Tryz.prog 96 #[.int .i64 i, .int .i64 k, .pointer (some ⟨g, 0, none⟩)] w (Rets fun v w' => v = .tuple #[.string s, .int .i64 0] ∧ Below w.heap.size w w') := by
  have HV := Lib.hid hv; have HS := Lib.hid hs; have HL := Lib.hid hl
  obtain ⟨a, cap, rfl⟩ := sl_form hv
  have c0 := hk.cell 0 _ rfl; have c1 := hk.cell 1 _ rfl; have c2 := hk.cell 2 _ rfl
  clear hv hs hk hl
  go_enter Tryz.func96, Tryz.ntmps96
  go_wp2_with (go_at_call 97; (with_reducible refine (Mat_any _ R (c : Int) _ xs c k i s HV.out rfl HL.out HS.out).mono ?_); rintro e w1 ⟨v, rfl, rfl, hb1⟩)
  go_ret2
  exact ⟨_, rfl, rfl, hb1⟩
/-- A column's or a row's number, without the one that is gone. -/
theorem Minor1_any (w : World) (i r : Nat) (hi : i ≤ 1000000) :
    Calls Tryz.prog 176 #[.int .i64 i, .int .i64 r] w (Rets fun v w' => v = .int .i64 (sk r i : Nat) ∧ w = w') := by
  by_cases h : i < r
  · have hq : ¬ r ≤ i := by omega
    have HO := Lib.hid (show sk r i = i by simp [sk, h])
    clear h
    go_enter Tryz.func176, Tryz.ntmps176
    go_wp2
    go_ret
    exact ⟨_, rfl, by rw [HO.out]; rfl, rfl⟩
  · have hq : r ≤ i := by omega
    have HO := Lib.hid (show ((sk r i : Nat) : Int) = (i : Int) + 1 by simp [sk, h])
    clear h
    go_enter Tryz.func176, Tryz.ntmps176
    go_wp2
    go_ret
    exact ⟨_, rfl, by rw [HO.out]; rfl, rfl⟩
theorem goodsT : ∀ zs : List Int, (∀ z ∈ zs, big z = false) → Goods (zs.map txt) zs ∧ chks (zs.map txt) = 0
  | [], _ => ⟨trivial, rfl⟩
  | z :: l, h => by
    obtain ⟨h1, h2⟩ := goodsT l fun x hx => h x (List.mem_cons_of_mem _ hx)
    have hg : Good (txt z) z := .of (h z (by simp))
    exact ⟨⟨hg, h1⟩, by rw [List.map_cons, chks, if_pos hg.chk, h2]⟩
/-- The terms of an entry of a product. -/
def terms (A B : Mat) (i k q : Nat) : List Int := (List.range q).map fun j => A i j * B j k
theorem terms_len (A B : Mat) (i k q : Nat) : (terms A B i k q).length = q := by simp [terms]
theorem terms_succ (A B : Mat) (i k q : Nat) : terms A B i k (q + 1) = terms A B i k q ++ [A i q * B q k] := by simp [terms, List.range_succ]
theorem terms_sum (A B : Mat) (i k : Nat) : ∀ n, (terms A B i k n).sum = mulM n A B i k
  | 0 => rfl
  | n + 1 => by rw [terms_succ, List.sum_append, terms_sum A B i k n]; simp [mulM, sm]
set_option maxHeartbeats 4000000 in
theorem product1_any (w : World) (g1 g2 : Nat) (R R' : Int) (v v' : Value) (xs ys : List ByteArray) (n p i k : Nat) (A B : Mat) (h1 : Blk w g1 [.int .i64 R, .int .i64 n, v] 29) (h2 : Blk w g2 [.int .i64 R', .int .i64 p, v'] 29) (hv : Sl eS w v xs) (hu : Sl eS w v' ys) (hl : xs.length ≤ 256) (hl' : ys.length ≤ 256) (hn : n ≤ 16)
    (hx : ∀ j, j < n → xs[i * n + j]? = some (txt (A i j))) (hy : ∀ j, j < n → ys[j * p + k]? = some (txt (B j k))) (gx : ∀ j, j < n → big (A i j) = false) (gy : ∀ j, j < n → big (B j k) = false) (gm : ∀ j, j < n → big (A i j * B j k) = false) (gs : big (mulM n A B i k) = false) (he : Env w) :
    Calls Tryz.prog 161 #[.int .i64 i, .int .i64 k, .pointer (some ⟨g1, 0, none⟩), .pointer (some ⟨g2, 0, none⟩)] w (Rets fun r w' => r = .tuple #[.string (txt (mulM n A B i k)), .int .i64 0] ∧ Below w.heap.size w w') := by
  have HV := Lib.hid hv; have HU := Lib.hid hu; have HX := Lib.hid hx; have HY := Lib.hid hy; have HL := Lib.hid hl; have HL' := Lib.hid hl'
  have HE := Lib.hid he; have GX := Lib.hid gx; have GY := Lib.hid gy; have GM := Lib.hid gm
  have HH := Lib.hid (held_two h1 h2 h1.lt h2.lt)
  have H1 := Lib.hid h1; have H2 := Lib.hid h2
  have HB := Lib.hid (Below.refl w.heap.size w); have HU0 := Lib.hid (Up.start w)
  obtain ⟨hG, hC⟩ := goodsT (terms A B i k n) fun z hz => by
    obtain ⟨j, hj, rfl⟩ := List.mem_map.1 hz
    exact gm j (by simpa using hj)
  have HG := Lib.hid hG; have HC := Lib.hid hC
  have HS := Lib.hid (show resV (terms A B i k n).sum = .tuple #[.string (txt (mulM n A B i k)), .int .i64 0] by rw [terms_sum]; unfold resV; rw [gs]; rfl)
  obtain ⟨a, cap, rfl⟩ := sl_form hv
  obtain ⟨a', cap', rfl⟩ := sl_form hu
  obtain ⟨-, ⟨c0, c1, c2⟩, d0, d1, d2⟩ := HH.out w ⟨Nat.le_refl _, Below.refl _ _⟩
  clear hv hu hx hy hl hl' h1 h2 he gx gy gs gm hG hC
  go_enter Tryz.func161, Tryz.ntmps161
  go_wp2
  go_loopw [8, 14] (fun l j wr => ∃ q : Nat, q ≤ n ∧ j = .int .i64 q ∧ Hid (wr.ownsRow w.heap.size 48 1 l q (((terms A B i k q).map txt).map eS)) ∧ Up w.heap.size w wr) (fun _ j _ => n - (intOf j).toNat)
  case atStart => exact ⟨0, Nat.zero_le _, rfl, Lib.hid (World.ownsRow_nil _ _ _ _), ⟨Nat.le_refl _, Below.refl _ _⟩⟩
  case round =>
    clear c0 c1 c2 d0 d1 d2
    obtain ⟨q, hq, rfl, hO, hU⟩ := hrel
    have hBL := hU.2
    have HHr := Lib.hid (held_two (H1.out.below hBL (Nat.le_refl _)) (H2.out.below hBL (Nat.le_refl _)) (Nat.lt_of_lt_of_le H1.out.lt hBL.size) (Nat.lt_of_lt_of_le H2.out.lt hBL.size))
    obtain ⟨-, ⟨c0, c1, c2⟩, d0, d1, d2⟩ := HHr.out wr ⟨Nat.le_refl _, Below.refl _ _⟩
    by_cases hqn : q < n
    · have HX' := Lib.hid (HX.out q hqn); have HY' := Lib.hid (HY.out q hqn)
      have gx := GX.out q hqn; have gy := GY.out q hqn
      have HGX := Lib.hid gx; have HGY := Lib.hid gy
      have HR := Lib.hid (show resV (A i q * B q k) = .tuple #[.string (txt (A i q * B q k)), .int .i64 0] by unfold resV; rw [GM.out q hqn]; rfl)
      have HT := Lib.hid (show ((terms A B i k (q + 1)).map txt).map eS = ((terms A B i k q).map txt).map eS ++ [.string (txt (A i q * B q k))] by rw [terms_succ]; simp [eS])
      have HVr := Lib.hid (HV.out.below hBL (Nat.le_refl _)); have HUr := Lib.hid (HU.out.below hBL (Nat.le_refl _)); have HEr := Lib.hid (HE.out.below hBL (Nat.le_refl _)); have HBr := Lib.hid (Below.refl wr.heap.size wr); have HU0 := Lib.hid (Up.start wr)
      clear gx gy hU
      go_wp2_with fail
      go_region_held3 (fun w' => Up wr.heap.size wr w' ∧ (w'.cell? ⟨g1, 0, none⟩ = some (.int .i64 R) ∧ w'.cell? ⟨g1, 1, none⟩ = some (.int .i64 (n : Nat)) ∧ w'.cell? ⟨g1, 2, none⟩ = some (.slice a xs.length cap)) ∧ w'.cell? ⟨g2, 0, none⟩ = some (.int .i64 R') ∧ w'.cell? ⟨g2, 1, none⟩ = some (.int .i64 (p : Nat)) ∧ w'.cell? ⟨g2, 2, none⟩ = some (.slice a' ys.length cap'))
        (((refine HHr.out _ ?_); first
          | with_reducible exact HU0.out.drew
          | with_reducible exact Up.call (And.left (by assumption)) (by assumption)
          | with_reducible assumption
          | with_reducible exact And.left (by assumption)))
        (first
          | (go_at_call_of 97 (Value.agg #[Value.int .i64 R, Value.int .i64 (n : Int), Value.slice a xs.length cap]); (with_reducible refine (Mat_any _ R (n : Int) _ xs n i q _ (Up.sl (And.left (by assumption)) HVr.out HBr.out (Nat.le_refl _)) rfl HL.out HX'.out).mono ?_); rintro e w4 ⟨u4, rfl, rfl, hb4⟩)
          | (go_at_call_of 97 (Value.agg #[Value.int .i64 R', Value.int .i64 (p : Int), Value.slice a' ys.length cap']); (with_reducible refine (Mat_any _ R' (p : Int) _ ys p q k _ (Up.sl (And.left (by assumption)) HUr.out HBr.out (Nat.le_refl _)) rfl HL'.out HY'.out).mono ?_); rintro e w5 ⟨u5, rfl, rfl, hb5⟩)
          | (go_at_call 162; (with_reducible refine (Mul_ok _ _ _ (A i q) (B q k) (.of HGX.out) (.of HGY.out) (HEr.out.below (Up.bel (And.left (by assumption))) (Nat.le_refl _))).mono ?_); rintro e w6 ⟨u6, rfl, rfl, hb6⟩; rw [HR.out]))
      all_goals
        go_wp2_with (at_builtin; refine app1 (news := [.string (txt (A i q * B q k))]) elemStr rfl _ _ rfl rfl rfl (own_below hO.out (Up.bel (And.left (by assumption))) (Nat.le_refl _)) (hBL.trans ((Up.bel (And.left (by assumption))).mono hBL.size)) (Nat.le_refl _) (Nat.le_trans hBL.size (Up.bel (And.left (by assumption))).size) rfl (by simp [Value.oneCell']) (by omega) (by unfold maxLen; omega) ?_; intro v7 w7 hown7 hb7; have HO7 := Lib.hid hown7; clear hown7)
        go_roundw
        case rel => exact ⟨q + 1, by omega, by go_num, Lib.hid (by rw [HT.out]; exact HO7.out), Nat.le_refl _, hb7⟩
        case measure => simp [intOf]; omega
    · obtain rfl : q = n := by omega
      have HSl := Lib.hid (Sl.ofOwns (enc := eS) (xs := (terms A B i k q).map txt) (by have := hO.out; rwa [show (q : Nat) = ((terms A B i k q).map txt).length by simp [terms]] at this))
      go_wp2_with (go_at_call 163; (with_reducible refine (Sum_ok _ _ _ _ HSl.out (by simp [terms]; omega) HG.out HC.out (HE.out.below hBL (Nat.le_refl _))).mono ?_); rintro e w6 ⟨u6, rfl, rfl, hb6⟩; rw [HS.out])
      go_ret2
      exact ⟨_, rfl, rfl, Up.bel (hU.call hb6)⟩
/-- A matrix, the function that leaves out a number, a row and a column. -/
theorem held_min {h g1 g2 g3 g4 : Nat} {W : World} {a b c d e f : Value} {T T1 T2 T3 : TypeId} (h1 : Blk W g1 [a, b, c] T) (h2 : Blk W g2 [d] T1) (h3 : Blk W g3 [e] T2) (h4 : Blk W g4 [f] T3) (hg1 : g1 < h) (hg2 : g2 < h) (hg3 : g3 < h) (hg4 : g4 < h) :
    ∀ w', Up h W w' → Up h W w' ∧ (w'.cell? ⟨g1, 0, none⟩ = some a ∧ w'.cell? ⟨g1, 1, none⟩ = some b ∧ w'.cell? ⟨g1, 2, none⟩ = some c) ∧ w'.cell? ⟨g2, 0, none⟩ = some d ∧ w'.cell? ⟨g3, 0, none⟩ = some e ∧ w'.cell? ⟨g4, 0, none⟩ = some f :=
  fun _ H => ⟨H, ⟨(H.box h1 hg1).cell 0 _ rfl, (H.box h1 hg1).cell 1 _ rfl, (H.box h1 hg1).cell 2 _ rfl⟩, (H.box h2 hg2).cell 0 _ rfl, (H.box h3 hg3).cell 0 _ rfl, (H.box h4 hg4).cell 0 _ rfl⟩
set_option maxHeartbeats 4000000 in
theorem Minor2_any (w : World) (g gf gr gc : Nat) (R : Int) (v : Value) (xs : List ByteArray) (c i k r0 k0 : Nat) (s : ByteArray) (hk : Blk w g [.int .i64 R, .int .i64 c, v] 29) (hf : Blk w gf [.func (.func 176) #[] #[]] 233) (hr : Blk w gr [.int .i64 r0] 3) (hc : Blk w gc [.int .i64 k0] 3)
    (hv : Sl eS w v xs) (hl : xs.length ≤ 256) (hi : i ≤ 1000000) (hkk : k ≤ 1000000) (hs : xs[sk r0 i * c + sk k0 k]? = some s) :
    Calls Tryz.prog 177 #[.int .i64 i, .int .i64 k, .pointer (some ⟨g, 0, none⟩), .pointer (some ⟨gf, 0, none⟩), .pointer (some ⟨gr, 0, none⟩), .pointer (some ⟨gc, 0, none⟩)] w (Rets fun v w' => v = .tuple #[.string s, .int .i64 0] ∧ Below w.heap.size w w') := by
  have HV := Lib.hid hv; have HS := Lib.hid hs; have HL := Lib.hid hl
  have HB := Lib.hid (Below.refl w.heap.size w); have HU0 := Lib.hid (Up.start w)
  have HH := Lib.hid (held_min hk hf hr hc hk.lt hf.lt hr.lt hc.lt)
  obtain ⟨a, cap, rfl⟩ := sl_form hv
  obtain ⟨-, ⟨c0, c1, c2⟩, d0, d1, d2⟩ := HH.out w ⟨Nat.le_refl _, Below.refl _ _⟩
  clear hv hs hk hf hr hc hl
  go_enter Tryz.func177, Tryz.ntmps177
  go_wp2_with fail
  go_region_held3 (fun w' => Up w.heap.size w w' ∧ (w'.cell? ⟨g, 0, none⟩ = some (.int .i64 R) ∧ w'.cell? ⟨g, 1, none⟩ = some (.int .i64 (c : Nat)) ∧ w'.cell? ⟨g, 2, none⟩ = some (.slice a xs.length cap)) ∧ w'.cell? ⟨gf, 0, none⟩ = some (.func (.func 176) #[] #[]) ∧ w'.cell? ⟨gr, 0, none⟩ = some (.int .i64 (r0 : Nat)) ∧ w'.cell? ⟨gc, 0, none⟩ = some (.int .i64 (k0 : Nat)))
    (((refine HH.out _ ?_); first
      | with_reducible exact HU0.out.drew
      | with_reducible exact Up.call (And.left (by assumption)) (by assumption)
      | with_reducible assumption
      | with_reducible exact And.left (by assumption)))
    (first
      | (go_at_call_of 176 (Value.int .i64 (i : Int)); (with_reducible refine (Minor1_any _ i r0 hi).mono ?_); rintro e w4 ⟨u4, rfl, rfl, rfl⟩)
      | (go_at_call_of 176 (Value.int .i64 (k : Int)); (with_reducible refine (Minor1_any _ k k0 hkk).mono ?_); rintro e w5 ⟨u5, rfl, rfl, rfl⟩)
      | (go_at_call 97; (with_reducible refine (Mat_any _ R (c : Int) _ xs c _ _ _ (Up.sl (And.left (by assumption)) HV.out HB.out (Nat.le_refl _)) rfl HL.out HS.out).mono ?_); rintro e w6 ⟨u6, rfl, rfl, hb6⟩))
  all_goals
    go_wp2_with fail
    go_ret2
    exact ⟨_, rfl, rfl, Up.bel (And.left (by assumption))⟩
/-- The first error of two matrices. -/
def twoM (R C : Int) (xs : List ByteArray) (R' C' : Int) (ys : List ByteArray) : Int := if mchkM R C xs = 0 then mchkM R' C' ys else mchkM R C xs
end Go.Proofs.YtkkklfikdoibcaaGreatDoor

namespace Go.Proofs.YtkkklfikdoibcaaGreatDoor
open Go.RowKit
set_option maxRecDepth 100000

theorem filledA_make (w : World) (r c : Nat) (q0 q1 : Value) (A : Mat) (hr : r ≤ 16) (hc : c ≤ 16)
    (hF : ∀ i k w', i < r → k < c → Below w.heap.size w w' → Calls Tryz.prog 173 #[.int .i64 i, .int .i64 k, q0, q1] w' (Rets fun v w'' => v = .tuple #[.string (txt (A i k)), .int .i64 0] ∧ Below w'.heap.size w' w'')) :
    Calls Tryz.prog 95 #[.int .i64 r, .int .i64 c, .func (.func 173) #[] #[q0, q1]] w (Rets fun v' w' => ∃ u, v' = .tuple #[.agg #[.int .i64 r, .int .i64 c, u], .int .i64 0] ∧ Sl eS w' u (cellsF r c A) ∧ Below w.heap.size w w') :=
  filled_make w r c q0 q1 _ (cellsF_len _ _ _) hr hc fun i k h w' hi hk hb => by rw [cellsF_get A hk h]; exact hF i k w' hi hk hb
theorem filledA_product (w : World) (r c : Nat) (q0 q1 : Value) (A : Mat) (hr : r ≤ 16) (hc : c ≤ 16)
    (hF : ∀ i k w', i < r → k < c → Below w.heap.size w w' → Calls Tryz.prog 161 #[.int .i64 i, .int .i64 k, q0, q1] w' (Rets fun v w'' => v = .tuple #[.string (txt (A i k)), .int .i64 0] ∧ Below w'.heap.size w' w'')) :
    Calls Tryz.prog 95 #[.int .i64 r, .int .i64 c, .func (.func 161) #[] #[q0, q1]] w (Rets fun v' w' => ∃ u, v' = .tuple #[.agg #[.int .i64 r, .int .i64 c, u], .int .i64 0] ∧ Sl eS w' u (cellsF r c A) ∧ Below w.heap.size w w') :=
  filled_product w r c q0 q1 _ (cellsF_len _ _ _) hr hc fun i k h w' hi hk hb => by rw [cellsF_get A hk h]; exact hF i k w' hi hk hb
theorem filledA_transpose (w : World) (r c : Nat) (q0 : Value) (A : Mat) (hr : r ≤ 16) (hc : c ≤ 16)
    (hF : ∀ i k w', i < r → k < c → Below w.heap.size w w' → Calls Tryz.prog 96 #[.int .i64 i, .int .i64 k, q0] w' (Rets fun v w'' => v = .tuple #[.string (txt (A i k)), .int .i64 0] ∧ Below w'.heap.size w' w'')) :
    Calls Tryz.prog 95 #[.int .i64 r, .int .i64 c, .func (.func 96) #[] #[q0]] w (Rets fun v' w' => ∃ u, v' = .tuple #[.agg #[.int .i64 r, .int .i64 c, u], .int .i64 0] ∧ Sl eS w' u (cellsF r c A) ∧ Below w.heap.size w w') :=
  filled_transpose w r c q0 _ (cellsF_len _ _ _) hr hc fun i k h w' hi hk hb => by rw [cellsF_get A hk h]; exact hF i k w' hi hk hb
theorem filledA_minor (w : World) (r c : Nat) (q0 q1 q2 q3 : Value) (A : Mat) (hr : r ≤ 16) (hc : c ≤ 16)
    (hF : ∀ i k w', i < r → k < c → Below w.heap.size w w' → Calls Tryz.prog 177 #[.int .i64 i, .int .i64 k, q0, q1, q2, q3] w' (Rets fun v w'' => v = .tuple #[.string (txt (A i k)), .int .i64 0] ∧ Below w'.heap.size w' w'')) :
    Calls Tryz.prog 95 #[.int .i64 r, .int .i64 c, .func (.func 177) #[] #[q0, q1, q2, q3]] w (Rets fun v' w' => ∃ u, v' = .tuple #[.agg #[.int .i64 r, .int .i64 c, u], .int .i64 0] ∧ Sl eS w' u (cellsF r c A) ∧ Below w.heap.size w w') :=
  filled_minor w r c q0 q1 q2 q3 _ (cellsF_len _ _ _) hr hc fun i k h w' hi hk hb => by rw [cellsF_get A hk h]; exact hF i k w' hi hk hb
/-- A matrix or an error. -/
structure MR where
  R : Int
  C : Int
  xs : List ByteArray
  k : Int
def MR.bad (k : Int) : MR := ⟨0, 0, [], k⟩
def RetM (w : World) (R C : Int) (xs : List ByteArray) (k : Int) : Ending → World → Prop := Rets fun v w' => ∃ u, v = .tuple #[.agg #[.int .i64 R, .int .i64 C, u], .int .i64 k] ∧ Sl eS w' u xs ∧ Below w.heap.size w w'
def RetMR (w : World) (m : MR) : Ending → World → Prop := RetM w m.R m.C m.xs m.k
theorem Sl.nil' {α : Type} (enc : α → Value) (w : World) : Sl enc w (.slice none 0 0) [] := Sl.ofOwns (base := 0) (e := 0) (World.ownsRow_nil _ _ _ _)
theorem Blk.at1 (w : World) (o : Obj) (cs : List Value) (T : TypeId) : Blk ((w.alloc o).alloc (.cells cs.toArray T)) (w.heap.size + 1) cs T := by
  have := Blk.new (w.alloc o) cs T; rwa [World.size_alloc] at this
theorem Blk.at2 (w : World) (o o' : Obj) (cs : List Value) (T : TypeId) : Blk (((w.alloc o).alloc o').alloc (.cells cs.toArray T)) (w.heap.size + 1 + 1) cs T := by
  have := Blk.at1 (w.alloc o) o' cs T; rwa [World.size_alloc] at this
theorem Blk.at3 (w : World) (o o' o'' : Obj) (cs : List Value) (T : TypeId) : Blk ((((w.alloc o).alloc o').alloc o'').alloc (.cells cs.toArray T)) (w.heap.size + 1 + 1 + 1) cs T := by
  have := Blk.at2 (w.alloc o) o' o'' cs T; rwa [World.size_alloc] at this

/-- What Transpose answers. -/
def trS (R C : Int) (xs : List ByteArray) : MR := if mchkM R C xs = 0 then ⟨C, R, cellsF C.toNat R.toNat (tr (matF C.toNat xs)), 0⟩ else .bad (mchkM R C xs)
theorem RM.get {R C : Int} {xs : List ByteArray} {r c i k : Nat} (h : RM R C xs r c) (hi : i < r) (hk : k < c) : xs[i * c + k]? = some (txt (matF c xs i k)) := by
  have hp := h.place hi hk
  rw [List.getElem?_eq_getElem hp, (h.good hi hk).eq]
set_option maxHeartbeats 2000000 in
theorem Transpose_any (w : World) (R C : Int) (v : Value) (xs : List ByteArray) (hv : Sl eS w v xs) (hsz : xs.length ≤ 256 → ∀ s ∈ xs, s.size ≤ 1000000) :
    Calls Tryz.prog 31 #[.agg #[.int .i64 R, .int .i64 C, v]] w (RetMR w (trS R C xs)) := by
  have HV := Lib.hid hv; have HSZ := Lib.hid hsz
  obtain ⟨ad, cap, rfl⟩ := sl_form hv
  by_cases h : mchkM R C xs = 0
  · obtain ⟨r, c, hrm⟩ := rm_of h
    obtain rfl := hrm.rows; obtain rfl := hrm.cols
    show Calls _ _ _ _ (RetM w (trS r c xs).R (trS r c xs).C (trS r c xs).xs (trS r c xs).k)
    rw [show trS r c xs = ⟨c, r, cellsF c r (tr (matF c xs)), 0⟩ by unfold trS; rw [if_pos h]; rfl]
    have H := Lib.hid h; have HRM := Lib.hid hrm
    have HT := Lib.hid (fun i k (hi : i < c) (hk : k < r) => show xs[k * c + i]? = some (txt (tr (matF c xs) i k)) from hrm.get hk hi)
    have HB := Lib.hid (((Below.refl w.heap.size w).alloc (Nat.le_refl _) (.cells #[.int .i64 r, .int .i64 c, .slice ad xs.length cap] 29)).alloc (by simp) (.cells #[.int .i64 0, .int .i64 0, .slice none 0 0] 29))
    have q0 := HB.out
    have HK := Lib.hid ((Blk.new w [.int .i64 r, .int .i64 c, .slice ad xs.length cap] 29).alloc (.cells #[.int .i64 0, .int .i64 0, .slice none 0 0] 29))
    have HR := Lib.hid (Blk.at1 w (.cells #[.int .i64 r, .int .i64 c, .slice ad xs.length cap] 29) [.int .i64 0, .int .i64 0, .slice none 0 0] 29)
    clear hv hsz h hrm
    go_enter Tryz.func31, Tryz.ntmps31
    go_wp2_with (first
      | (go_at_call 95; (with_reducible refine (filledA_transpose _ c r (.pointer (some ⟨w.heap.size, 0, none⟩)) (tr (matF c xs)) HRM.out.c16 HRM.out.r16 fun i k w' hi hk hb => Transpose1_any w' w.heap.size r _ xs c i k _ (HK.out.below hb (Nat.le_refl _)) (HV.out.below hb (Nat.le_refl _)) HRM.out.l256 (HT.out i k hi hk)).mono ?_); rintro e w2 ⟨v, rfl, x2, rfl, s2, h2⟩; have HS := Lib.hid s2; obtain ⟨a2, k2, rfl⟩ := sl_form s2; clear s2; have HV := Lib.hid (HV.out.below h2 (Nat.le_refl _)); have HK := Lib.hid (HK.out.below h2 (Nat.le_refl _)); have c2_HK_0 := HK.out.cell 0 _ rfl; have c2_HK_1 := HK.out.cell 1 _ rfl; have c2_HK_2 := HK.out.cell 2 _ rfl; have HR := Lib.hid (HR.out.below h2 (Nat.le_refl _)); have f2_HR_0 := HR.out.free 0; have f2_HR_1 := HR.out.free 1; have f2_HR_2 := HR.out.free 2; have c2_HR_0 := HR.out.cell 0 _ rfl; have c2_HR_1 := HR.out.cell 1 _ rfl; have c2_HR_2 := HR.out.cell 2 _ rfl; have q2 := q1.trans (h2.mono q1.size))
      | (go_at_call 94; (with_reducible refine (MCheck_any _ r c _ xs (HV.out.below HB.out (Nat.le_refl _)) HSZ.out).mono ?_); rintro e w1 ⟨v, rfl, rfl, h1⟩; rw [H.out]; have HV := Lib.hid (HV.out.below HB.out (Nat.le_refl _)); have HV := Lib.hid (HV.out.below h1 (Nat.le_refl _)); have HK := Lib.hid (HK.out.below h1 (Nat.le_refl _)); have c1_HK_0 := HK.out.cell 0 _ rfl; have c1_HK_1 := HK.out.cell 1 _ rfl; have c1_HK_2 := HK.out.cell 2 _ rfl; have HR := Lib.hid (HR.out.below h1 (Nat.le_refl _)); have f1_HR_0 := HR.out.free 0; have f1_HR_1 := HR.out.free 1; have f1_HR_2 := HR.out.free 2; have c1_HR_0 := HR.out.cell 0 _ rfl; have c1_HR_1 := HR.out.cell 1 _ rfl; have c1_HR_2 := HR.out.cell 2 _ rfl; have q1 := q0.trans (h1.mono q0.size)))
    obtain ⟨hR, hS, hW⟩ := res_done (R := c) (C := r) q2 (by omega) HR.out HS.out
    have z0 := hR.cell 0 _ rfl; have z1 := hR.cell 1 _ rfl; have z2 := hR.cell 2 _ rfl
    exact bodyPost_ret (v := .tuple #[.agg #[.int .i64 c, .int .i64 r, .slice a2 (cellsF c r (tr (matF c xs))).length k2], .int .i64 0]) (by simp [results, Tryz.results31, go_sem, z0, z1, z2]) rfl ⟨_, rfl, _, rfl, hS, hW⟩
  · have hne : (mchkM R C xs != 0) = true := by simp [h]
    show Calls _ _ _ _ (RetM w (trS R C xs).R (trS R C xs).C (trS R C xs).xs (trS R C xs).k)
    rw [show trS R C xs = .bad (mchkM R C xs) by unfold trS; rw [if_neg h]]
    have HB := Lib.hid (((Below.refl w.heap.size w).alloc (Nat.le_refl _) (.cells #[.int .i64 R, .int .i64 C, .slice ad xs.length cap] 29)).alloc (by simp) (.cells #[.int .i64 0, .int .i64 0, .slice none 0 0] 29))
    have q0 := HB.out
    have HR := Lib.hid (Blk.at1 w (.cells #[.int .i64 R, .int .i64 C, .slice ad xs.length cap] 29) [.int .i64 0, .int .i64 0, .slice none 0 0] 29)
    clear hv hsz h
    go_enter Tryz.func31, Tryz.ntmps31
    go_wp2_with (first
      | (go_at_call 94; (with_reducible refine (MCheck_any _ R C _ xs (HV.out.below HB.out (Nat.le_refl _)) HSZ.out).mono ?_); rintro e w1 ⟨v, rfl, rfl, h1⟩; have HR := Lib.hid (HR.out.below h1 (Nat.le_refl _)); have f1_HR_0 := HR.out.free 0; have f1_HR_1 := HR.out.free 1; have f1_HR_2 := HR.out.free 2; have c1_HR_0 := HR.out.cell 0 _ rfl; have c1_HR_1 := HR.out.cell 1 _ rfl; have c1_HR_2 := HR.out.cell 2 _ rfl; have q1 := q0.trans (h1.mono q0.size)))
    obtain ⟨hR, hS, hW⟩ := res_done (R := 0) (C := 0) q1 (by omega) HR.out (Sl.nil' eS _)
    have z0 := hR.cell 0 _ rfl; have z1 := hR.cell 1 _ rfl; have z2 := hR.cell 2 _ rfl
    exact bodyPost_ret (v := .tuple #[.agg #[.int .i64 0, .int .i64 0, .slice none 0 0], .int .i64 (mchkM R C xs)]) (by simp [results, Tryz.results31, go_sem, z0, z1, z2]) rfl ⟨_, rfl, _, rfl, hS, hW⟩

/-- What Unit answers. -/
def unitS (n : Int) : MR := if sideB n = true then ⟨n, n, cellsF n.toNat n.toNat one, 0⟩ else .bad 2
/-- What Get answers. -/
def getS (R C : Int) (xs : List ByteArray) (i k : Int) : ByteArray × Int := if MthereS R C xs i k = 0 then (txt (matF C.toNat xs i.toNat k.toNat), 0) else (⟨#[]⟩, MthereS R C xs i k)
theorem there_of {R C : Int} {xs : List ByteArray} {i k : Int} (h : MthereS R C xs i k = 0) : ∃ r c a b : Nat, RM R C xs r c ∧ i = (a : Int) ∧ k = (b : Int) ∧ a < r ∧ b < c := by
  unfold MthereS at h
  by_cases hm : mchkM R C xs = 0
  · rw [if_pos hm] at h
    obtain ⟨r, c, hrm⟩ := rm_of hm
    have h1 := hrm.rows; have h2 := hrm.cols
    by_cases hh : i < 0 ∨ R ≤ i ∨ k < 0 ∨ C ≤ k
    · rw [if_pos hh] at h; omega
    · exact ⟨r, c, i.toNat, k.toNat, hrm, by omega, by omega, by omega, by omega⟩
  · rw [if_neg hm] at h; exact absurd h hm
/-- What Make answers. -/
def makeS (R C : Int) (ls : List Int) : MR := if sideB R = true then (if sideB C = true then (if (ls.length : Int) = R * C then ⟨R, C, ls.map txt, 0⟩ else .bad 8) else .bad 2) else .bad 2
def listM (c : Nat) (ls : List Int) : Mat := fun i k => ls.getD (i * c + k) 0
theorem cells_list {r c : Nat} {ls : List Int} (h : ls.length = r * c) : ls.map txt = cellsF r c (listM c ls) := by
  refine List.ext_getElem (by rw [List.length_map, cellsF_len, h]) fun t h1 h2 => ?_
  simp only [cellsF, listM, List.getElem_map, List.getElem_range]
  have hl : t < ls.length := by simpa using h1
  rw [show t / c * c + t % c = t by rw [Nat.mul_comm]; exact Nat.div_add_mod t c, List.getD_eq_getElem?_getD, List.getElem?_eq_getElem hl]; rfl
theorem make_at {v : Value} (ls : List Int) (r c i k gL gC : Nat) (w : World) (hl : ls.length = r * c) (hl2 : ls.length ≤ 256) (hi : i < r) (hk : k < c) (hL : Blk w gL [v] 39) (hC : Blk w gC [.int .i64 (c : Nat)] 3) (hv : Sl eZ w v ls) (hz : ∀ z ∈ ls, -9223372036854775808 ≤ z ∧ z ≤ 9223372036854775807) (he : Env w) :
    Calls Tryz.prog 173 #[.int .i64 i, .int .i64 k, .pointer (some ⟨gL, 0, none⟩), .pointer (some ⟨gC, 0, none⟩)] w (Rets fun v w' => v = .tuple #[.string (txt (listM c ls i k)), .int .i64 0] ∧ Below w.heap.size w w') := by
  have h : i * c + k < ls.length := by rw [hl]; exact mul_lt hi hk
  have e : listM c ls i k = ls[i * c + k] := by unfold listM; rw [List.getD_eq_getElem?_getD, List.getElem?_eq_getElem h]; rfl
  have hz := hz _ (List.getElem_mem h)
  rw [e]
  exact Make1_any w gL gC v ls c i k _ hL hC hv hl2 (List.getElem?_eq_getElem h) hz.1 hz.2 he
set_option maxHeartbeats 4000000 in
theorem Make_any (w : World) (R C : Int) (v : Value) (ls : List Int) (hv : Sl eZ w v ls) (hz : ∀ z ∈ ls, -9223372036854775808 ≤ z ∧ z ≤ 9223372036854775807) (he : Env w) :
    Calls Tryz.prog 131 #[.int .i64 R, .int .i64 C, v] w (RetMR w (makeS R C ls)) := by
  have HV := Lib.hid hv; have HZ := Lib.hid hz; have HE := Lib.hid he
  obtain ⟨ad, cap, rfl⟩ := sl_form hv
  clear hv hz he
  by_cases hR : sideB R = true
  · by_cases hC : sideB C = true
    · have hm2 := side_mul hR hC
      obtain ⟨p, hRC⟩ : ∃ p, R * C = p := ⟨_, rfl⟩
      rw [hRC] at hm2
      have H1 := Lib.hid hR; have H2 := Lib.hid hC
      by_cases hl : (ls.length : Int) = p
      · have hne : ((ls.length : Int) != p) = false := by simp [hl]
        obtain ⟨h0, h1⟩ := (sideB_iff R).1 hR
        obtain ⟨h2, h3⟩ := (sideB_iff C).1 hC
        obtain ⟨r, rfl⟩ : ∃ r : Nat, R = (r : Int) := ⟨R.toNat, by omega⟩
        obtain ⟨c, rfl⟩ : ∃ c : Nat, C = (c : Int) := ⟨C.toNat, by omega⟩
        have hr : r ≤ 16 := by omega
        have hc : c ≤ 16 := by omega
        have hln : ls.length = r * c := by
          have : ((r * c : Nat) : Int) = (r : Int) * (c : Int) := Int.natCast_mul _ _
          omega
        have HLN := Lib.hid hln
        have hl256 : ls.length ≤ 256 := by omega
        show Calls _ _ _ _ (RetM w (makeS r c ls).R (makeS r c ls).C (makeS r c ls).xs (makeS r c ls).k)
        rw [show makeS r c ls = ⟨r, c, cellsF r c (listM c ls), 0⟩ by unfold makeS; rw [if_pos hR, if_pos hC, if_pos (by rw [hRC]; exact hl), cells_list hln]]
        have HB := Lib.hid ((((Below.refl w.heap.size w).alloc (Nat.le_refl _) (.cells #[.int .i64 c] 3)).alloc (by simp) (.cells #[.slice ad ls.length cap] 39)).alloc (by simp; omega) (.cells #[.int .i64 0, .int .i64 0, .slice none 0 0] 29))
        have q0 := HB.out
        have HKC := Lib.hid (((Blk.new w [.int .i64 c] 3).alloc (.cells #[.slice ad ls.length cap] 39)).alloc (.cells #[.int .i64 0, .int .i64 0, .slice none 0 0] 29))
        have HKL := Lib.hid ((Blk.at1 w (.cells #[.int .i64 c] 3) [.slice ad ls.length cap] 39).alloc (.cells #[.int .i64 0, .int .i64 0, .slice none 0 0] 29))
        have HR := Lib.hid (Blk.at2 w (.cells #[.int .i64 c] 3) (.cells #[.slice ad ls.length cap] 39) [.int .i64 0, .int .i64 0, .slice none 0 0] 29)
        have HV := Lib.hid (HV.out.below HB.out (Nat.le_refl _))
        have HE := Lib.hid (HE.out.below HB.out (Nat.le_refl _))
        have g0 := HKC.out.cell 0 _ rfl; have g1 := HKL.out.cell 0 _ rfl
        clear hR hC hl hln h0 h1 h2 h3
        go_enter Tryz.func131, Tryz.ntmps131
        go_wp2_with (first
          | (go_at_call 95; (with_reducible refine (filledA_make _ r c (.pointer (some ⟨w.heap.size + 1, 0, none⟩)) (.pointer (some ⟨w.heap.size, 0, none⟩)) (listM c ls) hr hc fun i k w' hi hk hb => make_at ls r c i k _ _ w' HLN.out hl256 hi hk (HKL.out.below hb (Nat.le_refl _)) (HKC.out.below hb (Nat.le_refl _)) (HV.out.below hb (Nat.le_refl _)) HZ.out (HE.out.below hb (Nat.le_refl _))).mono ?_); rintro e w3 ⟨v, rfl, x3, rfl, s3, h3⟩; have HS := Lib.hid s3; obtain ⟨a3, k3, rfl⟩ := sl_form s3; clear s3; have HR := Lib.hid (HR.out.below h3 (Nat.le_refl _)); have f3_HR_0 := HR.out.free 0; have f3_HR_1 := HR.out.free 1; have f3_HR_2 := HR.out.free 2; have c3_HR_0 := HR.out.cell 0 _ rfl; have c3_HR_1 := HR.out.cell 1 _ rfl; have c3_HR_2 := HR.out.cell 2 _ rfl; have q3 := q2.trans (h3.mono q2.size))
          | (go_at_call_of 155 (Value.int .i64 c); (with_reducible refine (Mside_any _ c).mono ?_); rintro e w' ⟨v, rfl, rfl, rfl⟩; rw [H2.out]; have q2 := q1)
          | (go_at_call_of 155 (Value.int .i64 r); (with_reducible refine (Mside_any _ r).mono ?_); rintro e w' ⟨v, rfl, rfl, rfl⟩; rw [H1.out]; have q1 := q0))
        obtain ⟨hR, hS, hW⟩ := res_done (R := r) (C := c) q3 (by omega) HR.out HS.out
        have z0 := hR.cell 0 _ rfl; have z1 := hR.cell 1 _ rfl; have z2 := hR.cell 2 _ rfl
        exact bodyPost_ret (v := .tuple #[.agg #[.int .i64 r, .int .i64 c, .slice a3 (cellsF r c (listM c ls)).length k3], .int .i64 0]) (by simp [results, Tryz.results131, go_sem, z0, z1, z2]) rfl ⟨_, rfl, _, rfl, hS, hW⟩
      · have hne : ((ls.length : Int) != p) = true := by simp [hl]
        show Calls _ _ _ _ (RetM w (makeS R C ls).R (makeS R C ls).C (makeS R C ls).xs (makeS R C ls).k)
        rw [show makeS R C ls = .bad 8 by unfold makeS; rw [if_pos hR, if_pos hC, if_neg (by rw [hRC]; exact hl)]]
        have HB := Lib.hid ((((Below.refl w.heap.size w).alloc (Nat.le_refl _) (.cells #[.int .i64 C] 3)).alloc (by simp) (.cells #[.slice ad ls.length cap] 39)).alloc (by simp; omega) (.cells #[.int .i64 0, .int .i64 0, .slice none 0 0] 29))
        have q0 := HB.out
        have HKC := Lib.hid (((Blk.new w [.int .i64 C] 3).alloc (.cells #[.slice ad ls.length cap] 39)).alloc (.cells #[.int .i64 0, .int .i64 0, .slice none 0 0] 29))
        have HKL := Lib.hid ((Blk.at1 w (.cells #[.int .i64 C] 3) [.slice ad ls.length cap] 39).alloc (.cells #[.int .i64 0, .int .i64 0, .slice none 0 0] 29))
        have HR := Lib.hid (Blk.at2 w (.cells #[.int .i64 C] 3) (.cells #[.slice ad ls.length cap] 39) [.int .i64 0, .int .i64 0, .slice none 0 0] 29)
        have HV := Lib.hid (HV.out.below HB.out (Nat.le_refl _))
        have HE := Lib.hid (HE.out.below HB.out (Nat.le_refl _))
        have g0 := HKC.out.cell 0 _ rfl; have g1 := HKL.out.cell 0 _ rfl
        clear hR hC hl
        go_enter Tryz.func131, Tryz.ntmps131
        go_wp2_with (first
          | (go_at_call_of 155 (Value.int .i64 C); (with_reducible refine (Mside_any _ C).mono ?_); rintro e w' ⟨v, rfl, rfl, rfl⟩; rw [H2.out]; have q2 := q1)
          | (go_at_call_of 155 (Value.int .i64 R); (with_reducible refine (Mside_any _ R).mono ?_); rintro e w' ⟨v, rfl, rfl, rfl⟩; rw [H1.out]; have q1 := q0))
        exact bodyPost_ret (v := .tuple #[.agg #[.int .i64 0, .int .i64 0, .slice none 0 0], .int .i64 8]) (by simp [results, Tryz.results131, go_sem]) rfl ⟨_, rfl, _, rfl, Sl.nil' _ _, HB.out⟩
    · have H1 := Lib.hid hR; have H2 := Lib.hid (show sideB C = false by simpa using hC)
      show Calls _ _ _ _ (RetM w (makeS R C ls).R (makeS R C ls).C (makeS R C ls).xs (makeS R C ls).k)
      rw [show makeS R C ls = .bad 2 by unfold makeS; rw [if_pos hR, if_neg hC]]
      have HB := Lib.hid ((((Below.refl w.heap.size w).alloc (Nat.le_refl _) (.cells #[.int .i64 C] 3)).alloc (by simp) (.cells #[.slice ad ls.length cap] 39)).alloc (by simp; omega) (.cells #[.int .i64 0, .int .i64 0, .slice none 0 0] 29))
      have q0 := HB.out
      have HKC := Lib.hid (((Blk.new w [.int .i64 C] 3).alloc (.cells #[.slice ad ls.length cap] 39)).alloc (.cells #[.int .i64 0, .int .i64 0, .slice none 0 0] 29))
      have HKL := Lib.hid ((Blk.at1 w (.cells #[.int .i64 C] 3) [.slice ad ls.length cap] 39).alloc (.cells #[.int .i64 0, .int .i64 0, .slice none 0 0] 29))
      have HR := Lib.hid (Blk.at2 w (.cells #[.int .i64 C] 3) (.cells #[.slice ad ls.length cap] 39) [.int .i64 0, .int .i64 0, .slice none 0 0] 29)
      have HV := Lib.hid (HV.out.below HB.out (Nat.le_refl _))
      have HE := Lib.hid (HE.out.below HB.out (Nat.le_refl _))
      have g0 := HKC.out.cell 0 _ rfl; have g1 := HKL.out.cell 0 _ rfl
      clear hR hC
      go_enter Tryz.func131, Tryz.ntmps131
      go_wp2_with (first
        | (go_at_call_of 155 (Value.int .i64 C); (with_reducible refine (Mside_any _ C).mono ?_); rintro e w' ⟨v, rfl, rfl, rfl⟩; rw [H2.out]; have q2 := q1)
        | (go_at_call_of 155 (Value.int .i64 R); (with_reducible refine (Mside_any _ R).mono ?_); rintro e w' ⟨v, rfl, rfl, rfl⟩; rw [H1.out]; have q1 := q0))
      exact bodyPost_ret (v := .tuple #[.agg #[.int .i64 0, .int .i64 0, .slice none 0 0], .int .i64 2]) (by simp [results, Tryz.results131, go_sem]) rfl ⟨_, rfl, _, rfl, Sl.nil' _ _, HB.out⟩
  · have H1 := Lib.hid (show sideB R = false by simpa using hR)
    show Calls _ _ _ _ (RetM w (makeS R C ls).R (makeS R C ls).C (makeS R C ls).xs (makeS R C ls).k)
    rw [show makeS R C ls = .bad 2 by unfold makeS; rw [if_neg hR]]
    have HB := Lib.hid ((((Below.refl w.heap.size w).alloc (Nat.le_refl _) (.cells #[.int .i64 C] 3)).alloc (by simp) (.cells #[.slice ad ls.length cap] 39)).alloc (by simp; omega) (.cells #[.int .i64 0, .int .i64 0, .slice none 0 0] 29))
    have q0 := HB.out
    have HKC := Lib.hid (((Blk.new w [.int .i64 C] 3).alloc (.cells #[.slice ad ls.length cap] 39)).alloc (.cells #[.int .i64 0, .int .i64 0, .slice none 0 0] 29))
    have HKL := Lib.hid ((Blk.at1 w (.cells #[.int .i64 C] 3) [.slice ad ls.length cap] 39).alloc (.cells #[.int .i64 0, .int .i64 0, .slice none 0 0] 29))
    have HR := Lib.hid (Blk.at2 w (.cells #[.int .i64 C] 3) (.cells #[.slice ad ls.length cap] 39) [.int .i64 0, .int .i64 0, .slice none 0 0] 29)
    have HV := Lib.hid (HV.out.below HB.out (Nat.le_refl _))
    have HE := Lib.hid (HE.out.below HB.out (Nat.le_refl _))
    have g0 := HKC.out.cell 0 _ rfl; have g1 := HKL.out.cell 0 _ rfl
    clear hR
    go_enter Tryz.func131, Tryz.ntmps131
    go_wp2_with (first
      | (go_at_call_of 155 (Value.int .i64 R); (with_reducible refine (Mside_any _ R).mono ?_); rintro e w' ⟨v, rfl, rfl, rfl⟩; rw [H1.out]; have q1 := q0))
    exact bodyPost_ret (v := .tuple #[.agg #[.int .i64 0, .int .i64 0, .slice none 0 0], .int .i64 2]) (by simp [results, Tryz.results131, go_sem]) rfl ⟨_, rfl, _, rfl, Sl.nil' _ _, HB.out⟩

/-- What Minor answers. -/
def minS (R C : Int) (xs : List ByteArray) (i k : Int) : MR := if MthereS R C xs i k = 0 then ⟨R - 1, C - 1, cellsF (R.toNat - 1) (C.toNat - 1) (mnr (matF C.toNat xs) i.toNat k.toNat), 0⟩ else .bad (MthereS R C xs i k)
set_option maxHeartbeats 4000000 in
theorem Minor_any (w : World) (R C : Int) (v : Value) (xs : List ByteArray) (i k : Int) (hv : Sl eS w v xs) (hsz : xs.length ≤ 256 → ∀ s ∈ xs, s.size ≤ 1000000) :
    Calls Tryz.prog 134 #[.agg #[.int .i64 R, .int .i64 C, v], .int .i64 i, .int .i64 k] w (RetMR w (minS R C xs i k)) := by
  have HV := Lib.hid hv; have HSZ := Lib.hid hsz
  obtain ⟨ad, cap, rfl⟩ := sl_form hv
  clear hv hsz
  by_cases h : MthereS R C xs i k = 0
  · have H := Lib.hid h
    obtain ⟨r, c, a, b, hrm, rfl, rfl, ha, hb⟩ := there_of h
    obtain rfl := hrm.rows; obtain rfl := hrm.cols
    have HRM := Lib.hid hrm
    have e1 : (r : Int) - 1 = ((r - 1 : Nat) : Int) := by omega
    have e2 : (c : Int) - 1 = ((c - 1 : Nat) : Int) := by omega
    have E1 := Lib.hid e1; have E2 := Lib.hid e2
    have hr16 := hrm.r16; have hc16 := hrm.c16
    have HM := Lib.hid (fun x y (hx : x < r - 1) (hy : y < c - 1) => show xs[sk a x * c + sk b y]? = some (txt (mnr (matF c xs) a b x y)) from hrm.get (show sk a x < r by have := sk_lt (r := a) hx; omega) (show sk b y < c by have := sk_lt (r := b) hy; omega))
    show Calls _ _ _ _ (RetM w (minS r c xs a b).R (minS r c xs a b).C (minS r c xs a b).xs (minS r c xs a b).k)
    rw [show minS r c xs a b = ⟨((r - 1 : Nat) : Int), ((c - 1 : Nat) : Int), cellsF (r - 1) (c - 1) (mnr (matF c xs) a b), 0⟩ by unfold minS; rw [if_pos h, e1, e2]; rfl]
    have HB := Lib.hid (((((Below.refl w.heap.size w).alloc (Nat.le_refl _) (.cells #[.int .i64 r, .int .i64 c, .slice ad xs.length cap] 29)).alloc (by simp) (.cells #[.int .i64 a] 3)).alloc (by simp; omega) (.cells #[.int .i64 b] 3)).alloc (by simp; omega) (.cells #[.int .i64 0, .int .i64 0, .slice none 0 0] 29))
    have q0 := HB.out
    have HK := Lib.hid ((((Blk.new w [.int .i64 r, .int .i64 c, .slice ad xs.length cap] 29).alloc (.cells #[.int .i64 a] 3)).alloc (.cells #[.int .i64 b] 3)).alloc (.cells #[.int .i64 0, .int .i64 0, .slice none 0 0] 29))
    have HKi := Lib.hid (((Blk.at1 w (.cells #[.int .i64 r, .int .i64 c, .slice ad xs.length cap] 29) [.int .i64 a] 3).alloc (.cells #[.int .i64 b] 3)).alloc (.cells #[.int .i64 0, .int .i64 0, .slice none 0 0] 29))
    have HKk := Lib.hid ((Blk.at2 w (.cells #[.int .i64 r, .int .i64 c, .slice ad xs.length cap] 29) (.cells #[.int .i64 a] 3) [.int .i64 b] 3).alloc (.cells #[.int .i64 0, .int .i64 0, .slice none 0 0] 29))
    have HR := Lib.hid (Blk.at3 w (.cells #[.int .i64 r, .int .i64 c, .slice ad xs.length cap] 29) (.cells #[.int .i64 a] 3) (.cells #[.int .i64 b] 3) [.int .i64 0, .int .i64 0, .slice none 0 0] 29)
    have HV := Lib.hid (HV.out.below HB.out (Nat.le_refl _))
    clear h hrm
    go_enter Tryz.func134, Tryz.ntmps134
    go_wp2_with (first
      | (go_at_call 95; go_loud (with_reducible refine (filledA_minor _ (r - 1) (c - 1) (.pointer (some ⟨w.heap.size, 0, none⟩)) (.pointer (some ⟨w1.heap.size, 0, none⟩)) (.pointer (some ⟨w.heap.size + 1, 0, none⟩)) (.pointer (some ⟨w.heap.size + 1 + 1, 0, none⟩)) (mnr (matF c xs) a b) (by omega) (by omega) fun x y w' hx hy hb => Minor2_any w' w.heap.size w1.heap.size (w.heap.size + 1) (w.heap.size + 1 + 1) r _ xs c x y a b _ ((HK.out.alloc _).below hb (Nat.le_refl _)) ((Blk.new w1 [.func (.func 176) #[] #[]] 233).below hb (Nat.le_refl _)) ((HKi.out.alloc _).below hb (Nat.le_refl _)) ((HKk.out.alloc _).below hb (Nat.le_refl _)) ((HV.out.below ((Below.refl w1.heap.size w1).alloc (Nat.le_refl _) _) (Nat.le_refl _)).below hb (Nat.le_refl _)) HRM.out.l256 (by omega) (by omega) (HM.out x y hx hy)).mono ?_); rintro e w2 ⟨v, rfl, x2, rfl, s2, h2⟩; have h2 := ((Below.refl w1.heap.size w1).alloc (Nat.le_refl _) (.cells #[.func (.func 176) #[] #[]] 233)).trans (h2.mono (by simp)); have HS := Lib.hid s2; obtain ⟨a2, k2, rfl⟩ := sl_form s2; clear s2; have HV := Lib.hid (HV.out.below h2 (Nat.le_refl _)); have HK := Lib.hid (HK.out.below h2 (Nat.le_refl _)); have c2_HK_0 := HK.out.cell 0 _ rfl; have c2_HK_1 := HK.out.cell 1 _ rfl; have c2_HK_2 := HK.out.cell 2 _ rfl; have HR := Lib.hid (HR.out.below h2 (Nat.le_refl _)); have f2_HR_0 := HR.out.free 0; have f2_HR_1 := HR.out.free 1; have f2_HR_2 := HR.out.free 2; have c2_HR_0 := HR.out.cell 0 _ rfl; have c2_HR_1 := HR.out.cell 1 _ rfl; have c2_HR_2 := HR.out.cell 2 _ rfl; have q2 := q1.trans (h2.mono q1.size))
      | (go_at_call 175; (with_reducible refine (Mthere_any _ r c _ xs a b HV.out HSZ.out).mono ?_); rintro e w1 ⟨v, rfl, rfl, h1⟩; rw [H.out]; have HKi := Lib.hid (HKi.out.below h1 (Nat.le_refl _)); have HKk := Lib.hid (HKk.out.below h1 (Nat.le_refl _)); have HK9 := Lib.hid ((HK.out.below h1 (Nat.le_refl _)).alloc (.cells #[.func (.func 176) #[] #[]] 233)); have m0 := HK9.out.cell 0 _ rfl; have m1 := HK9.out.cell 1 _ rfl; have HV := Lib.hid (HV.out.below h1 (Nat.le_refl _)); have HK := Lib.hid (HK.out.below h1 (Nat.le_refl _)); have c1_HK_0 := HK.out.cell 0 _ rfl; have c1_HK_1 := HK.out.cell 1 _ rfl; have c1_HK_2 := HK.out.cell 2 _ rfl; have HR := Lib.hid (HR.out.below h1 (Nat.le_refl _)); have f1_HR_0 := HR.out.free 0; have f1_HR_1 := HR.out.free 1; have f1_HR_2 := HR.out.free 2; have c1_HR_0 := HR.out.cell 0 _ rfl; have c1_HR_1 := HR.out.cell 1 _ rfl; have c1_HR_2 := HR.out.cell 2 _ rfl; have q1 := q0.trans (h1.mono q0.size)))
    obtain ⟨hR, hS, hW⟩ := res_done (R := ((r - 1 : Nat) : Int)) (C := ((c - 1 : Nat) : Int)) q2 (by omega) HR.out HS.out
    have z0 := hR.cell 0 _ rfl; have z1 := hR.cell 1 _ rfl; have z2 := hR.cell 2 _ rfl
    exact bodyPost_ret (v := .tuple #[.agg #[.int .i64 ((r - 1 : Nat) : Int), .int .i64 ((c - 1 : Nat) : Int), .slice a2 (cellsF (r - 1) (c - 1) (mnr (matF c xs) a b)).length k2], .int .i64 0]) (by simp [results, Tryz.results134, go_sem, z0, z1, z2]) rfl ⟨_, rfl, _, rfl, hS, hW⟩
  · have hne : (MthereS R C xs i k != 0) = true := by simp [h]
    show Calls _ _ _ _ (RetM w (minS R C xs i k).R (minS R C xs i k).C (minS R C xs i k).xs (minS R C xs i k).k)
    rw [show minS R C xs i k = .bad (MthereS R C xs i k) by unfold minS; rw [if_neg h]]
    have HB := Lib.hid (((((Below.refl w.heap.size w).alloc (Nat.le_refl _) (.cells #[.int .i64 R, .int .i64 C, .slice ad xs.length cap] 29)).alloc (by simp) (.cells #[.int .i64 i] 3)).alloc (by simp; omega) (.cells #[.int .i64 k] 3)).alloc (by simp; omega) (.cells #[.int .i64 0, .int .i64 0, .slice none 0 0] 29))
    have q0 := HB.out
    have HK := Lib.hid ((((Blk.new w [.int .i64 R, .int .i64 C, .slice ad xs.length cap] 29).alloc (.cells #[.int .i64 i] 3)).alloc (.cells #[.int .i64 k] 3)).alloc (.cells #[.int .i64 0, .int .i64 0, .slice none 0 0] 29))
    have HKi := Lib.hid (((Blk.at1 w (.cells #[.int .i64 R, .int .i64 C, .slice ad xs.length cap] 29) [.int .i64 i] 3).alloc (.cells #[.int .i64 k] 3)).alloc (.cells #[.int .i64 0, .int .i64 0, .slice none 0 0] 29))
    have HKk := Lib.hid ((Blk.at2 w (.cells #[.int .i64 R, .int .i64 C, .slice ad xs.length cap] 29) (.cells #[.int .i64 i] 3) [.int .i64 k] 3).alloc (.cells #[.int .i64 0, .int .i64 0, .slice none 0 0] 29))
    have HR := Lib.hid (Blk.at3 w (.cells #[.int .i64 R, .int .i64 C, .slice ad xs.length cap] 29) (.cells #[.int .i64 i] 3) (.cells #[.int .i64 k] 3) [.int .i64 0, .int .i64 0, .slice none 0 0] 29)
    have HV := Lib.hid (HV.out.below HB.out (Nat.le_refl _))
    clear h
    go_enter Tryz.func134, Tryz.ntmps134
    go_wp2_with (first
      | (go_at_call 175; (with_reducible refine (Mthere_any _ R C _ xs i k HV.out HSZ.out).mono ?_); rintro e w1 ⟨v, rfl, rfl, h1⟩; have HR := Lib.hid (HR.out.below h1 (Nat.le_refl _)); have f1_HR_0 := HR.out.free 0; have f1_HR_1 := HR.out.free 1; have f1_HR_2 := HR.out.free 2; have c1_HR_0 := HR.out.cell 0 _ rfl; have c1_HR_1 := HR.out.cell 1 _ rfl; have c1_HR_2 := HR.out.cell 2 _ rfl; have q1 := q0.trans (h1.mono q0.size)))
    obtain ⟨hR, hS, hW⟩ := res_done (R := 0) (C := 0) q1 (by omega) HR.out (Sl.nil' eS _)
    have z0 := hR.cell 0 _ rfl; have z1 := hR.cell 1 _ rfl; have z2 := hR.cell 2 _ rfl
    exact bodyPost_ret (v := .tuple #[.agg #[.int .i64 0, .int .i64 0, .slice none 0 0], .int .i64 (MthereS R C xs i k)]) (by simp [results, Tryz.results134, go_sem, z0, z1, z2]) rfl ⟨_, rfl, _, rfl, hS, hW⟩
end Go.Proofs.YtkkklfikdoibcaaGreatDoor
