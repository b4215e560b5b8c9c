/- Plain: where pointers lead; the cycles that they have. The walk of euler's cycles. The walks of slices.ContainsFunc at rows of numbers, with Check's closure. Plain law: a chip that walks along turning pointers on a balanced digraph goes along each arc once and is back. The walk of euler's Check. The walk of euler's Walk at unicycles. The walks of euler's Ends, of the reference's SameInts and Same at equal unicycles. The walks of the reference's Between, Valence, Degree. The walks of the reference's Valence and Degree. Plain: the two-way digraph of a right graph. -/
import Derived.Test.YtajldhonffoopaaPk2
import Derived.Maps.OwnSet
namespace Go.Proofs.Ytajldhonffoopaa

/-- k steps along pointers. -/
def it (p : List Nat) : Nat → Nat → Nat
  | 0, v => v
  | k + 1, v => p.getD (it p k v) 0
theorem it_add (p : List Nat) (a b v : Nat) : it p (a + b) v = it p a (it p b v) := by
  induction a with
  | zero => rw [Nat.zero_add]; rfl
  | succ a ih => rw [Nat.succ_add]; show p.getD (it p (a + b) v) 0 = p.getD (it p a (it p b v)) 0; rw [ih]
theorem it_lt {p : List Nat} {n : Nat} (hp : ∀ v, v < n → p.getD v 0 < n) (k v : Nat) (hv : v < n) : it p k v < n := by
  induction k with
  | zero => exact hv
  | succ k ih => exact hp _ ih
theorem pigeon : ∀ (n : Nat) (f : Nat → Nat), (∀ i, i ≤ n → f i < n) → ∃ i j, i < j ∧ j ≤ n ∧ f i = f j
  | 0, f, h => absurd (h 0 (Nat.le_refl _)) (Nat.not_lt_zero _)
  | n + 1, f, h => by
    by_cases hx : ∃ i, i ≤ n ∧ f i = f (n + 1)
    · obtain ⟨i, hi, he⟩ := hx
      exact ⟨i, n + 1, by omega, Nat.le_refl _, he⟩
    · have hne : ∀ i, i ≤ n → f i ≠ f (n + 1) := fun i hi he => hx ⟨i, hi, he⟩
      obtain ⟨i, j, hij, hj, he⟩ := pigeon n (fun i => if f i < f (n + 1) then f i else f i - 1) (fun i hi => by
        have h1 := h i (by omega)
        have h2 := h (n + 1) (Nat.le_refl _)
        have h3 := hne i hi
        split <;> omega)
      refine ⟨i, j, hij, by omega, ?_⟩
      have h3 := hne i (by omega)
      have h4 := hne j hj
      split at he <;> split at he <;> omega
/-- Behind n steps one is on a cycle of at most n steps. -/
theorem periodic {p : List Nat} {n : Nat} (hp : ∀ v, v < n → p.getD v 0 < n) (v : Nat) (hv : v < n) : ∃ d, 1 ≤ d ∧ d ≤ n ∧ it p d (it p n v) = it p n v := by
  obtain ⟨i, j, hij, hj, he⟩ := pigeon n (fun k => it p k v) (fun k _ => it_lt hp k v hv)
  refine ⟨j - i, by omega, by omega, ?_⟩
  rw [← it_add, show j - i + n = (n - i) + j by omega, it_add, ← he, ← it_add, show n - i + i = n by omega]
theorem it_mul {p : List Nat} {d c : Nat} (h : it p d c = c) (k : Nat) : it p (k * d) c = c := by
  induction k with
  | zero => rw [Nat.zero_mul]; rfl
  | succ k ih => rw [Nat.succ_mul, it_add, h, ih]
theorem it_mod {p : List Nat} {d c : Nat} (h : it p d c = c) (k : Nat) : it p (k % d) c = it p k c := by
  have h1 := Nat.div_add_mod k d
  rw [Nat.mul_comm] at h1
  conv => rhs; rw [← h1, Nat.add_comm, it_add, it_mul h]
/-- From where one comes one gets back. -/
theorem it_back {p : List Nat} {d c : Nat} (hd : 1 ≤ d) (h : it p d c = c) (k : Nat) : ∃ j, it p j (it p k c) = c :=
  ⟨d * k - k, by
    rw [← it_add]
    have : k ≤ d * k := Nat.le_mul_of_pos_left k hd
    rw [show d * k - k + k = k * d by rw [Nat.sub_add_cancel this, Nat.mul_comm]]
    exact it_mul h k⟩
theorem it_succ' (p : List Nat) (k v : Nat) : it p (k + 1) v = it p k (p.getD v 0) := by rw [it_add]; rfl
/-- How many steps it is to C (at most n). -/
def stepsTo (p : List Nat) (n C x : Nat) : Nat := (List.range (n + 1)).findIdx fun i => decide (it p i x = C)
theorem stepsTo_lt {p : List Nat} {n C x : Nat} (hx : x ≠ C) (h : ∃ i, i ≤ n ∧ it p i x = C) : stepsTo p n C (p.getD x 0) < stepsTo p n C x := by
  obtain ⟨i, hi, he⟩ := h
  have h1 : List.findIdx (fun i => decide (it p i x = C)) (List.range (n + 1)) < (List.range (n + 1)).length := List.findIdx_lt_length_of_exists ⟨i, by simp; omega, by simpa using he⟩
  have h2 := List.findIdx_getElem (w := h1)
  rw [List.getElem_range, decide_eq_true_iff] at h2
  rw [List.length_range] at h1
  obtain ⟨s, hs⟩ : ∃ s, stepsTo p n C x = s := ⟨_, rfl⟩
  have hs' : List.findIdx (fun i => decide (it p i x = C)) (List.range (n + 1)) = s := hs
  rw [hs'] at h1 h2
  rw [hs]
  cases s with
  | zero => exact absurd h2 hx
  | succ s =>
    rw [it_succ'] at h2
    refine Nat.lt_succ_of_le ?_
    refine Nat.le_of_not_lt fun hlt => ?_
    have := List.not_of_lt_findIdx hlt
    simp at this
    exact this h2
/-- m is the least vertex to which one comes from c. -/
def Lst (p : List Nat) (c m : Nat) : Prop := (∃ j, m = it p j c) ∧ ∀ j, m ≤ it p j c
theorem Lst.unique {p : List Nat} {c m m' : Nat} (h : Lst p c m) (h' : Lst p c m') : m = m' := by
  obtain ⟨⟨j, hj⟩, hl⟩ := h
  obtain ⟨⟨j', hj'⟩, hl'⟩ := h'
  have a := hl j'; rw [← hj'] at a
  have b := hl' j; rw [← hj] at b
  omega
/-- The keys: of each vertex the least on the cycle to which it leads. -/
def Keys (p : List Nat) (n : Nat) (ks : List Nat) : Prop := ks.length ≤ n ∧ ∀ v (h : v < ks.length), Lst p (it p n v) ks[v]
/-- One cycle, and at lies on it: all lead to at. -/
theorem uni_of {p : List Nat} {n at_ : Nat} (hp : ∀ v, v < n → p.getD v 0 < n) {ks : List Nat} (hk : Keys p n ks) (hn : ks.length = n) (hall : ∀ a ∈ ks, ∀ b ∈ ks, a = b) (hon : ∃ v, v < n ∧ ∃ i, i < n ∧ it p i (it p n v) = at_) : ∀ v, v < n → ∃ i, it p i v = at_ := by
  intro v hv
  obtain ⟨u, hu, i, -, hi⟩ := hon
  have hv' : v < ks.length := by rw [hn]; exact hv
  have hu' : u < ks.length := by rw [hn]; exact hu
  obtain ⟨⟨j, hj⟩, -⟩ := hk.2 v hv'
  obtain ⟨⟨j', hj'⟩, -⟩ := hk.2 u hu'
  have he := hall _ (List.getElem_mem hv') _ (List.getElem_mem hu')
  obtain ⟨d, hd, -, hper⟩ := periodic hp u hu
  obtain ⟨e, he2⟩ := it_back hd hper j'
  -- from c_v to the common least, on to c_u, on to at
  refine ⟨i + (e + (j + n)), ?_⟩
  rw [it_add, it_add, it_add, ← hj, he, hj', he2, hi]
/-- All lead to at: there is one cycle, and at lies on it. -/
theorem of_uni {p : List Nat} {n at_ : Nat} (hp : ∀ v, v < n → p.getD v 0 < n) (hat : ∀ v, v < n → ∃ i, it p i v = at_) {ks : List Nat} (hk : Keys p n ks) :
    (∀ a ∈ ks, ∀ b ∈ ks, a = b) ∧ ∀ v, v < n → ∃ i, i < n ∧ it p i (it p n v) = at_ := by
  have hon : ∀ v, v < n → ∃ i, i < n ∧ it p i (it p n v) = at_ := fun v hv => by
    obtain ⟨d, hd, hdn, hper⟩ := periodic hp v hv
    obtain ⟨i, hi⟩ := hat _ (it_lt hp n v hv)
    exact ⟨i % d, Nat.lt_of_lt_of_le (Nat.mod_lt _ hd) hdn, by rw [it_mod hper]; exact hi⟩
  refine ⟨fun a ha b hb => ?_, hon⟩
  obtain ⟨v, hv, rfl⟩ := List.mem_iff_getElem.1 ha
  obtain ⟨u, hu, rfl⟩ := List.mem_iff_getElem.1 hb
  have hvn : v < n := Nat.lt_of_lt_of_le hv hk.1
  have hun : u < n := Nat.lt_of_lt_of_le hu hk.1
  have key : ∀ x y (hx : x < ks.length) (hy : y < ks.length), x < n → y < n → ks[x] ≤ ks[y] := fun x y hx hy hxn hyn => by
    obtain ⟨-, hl⟩ := hk.2 x hx
    obtain ⟨⟨j, hj⟩, -⟩ := hk.2 y hy
    -- c_x leads to at, at leads (on y's cycle) to ks[y]
    obtain ⟨i, -, hi⟩ := hon x hxn
    obtain ⟨i', -, hi'⟩ := hon y hyn
    obtain ⟨d, hd, -, hper⟩ := periodic hp y hyn
    obtain ⟨e, he⟩ := it_back hd hper i'
    rw [hi'] at he
    have h1 := hl (j + (e + i))
    rw [it_add, it_add, hi, he, ← hj] at h1
    exact h1
  exact Nat.le_antisymm (key v u hv hu hvn hun) (key u v hu hv hun hvn)
end Go.Proofs.Ytajldhonffoopaa

namespace Go.Proofs.Ytajldhonffoopaa
open Go.RowKit Go.Maps
set_option maxRecDepth 100000

theorem lawI : Keyed Try.prog 3 := int_keyed Try.underlying3
/-- What cycles answers. -/
def CycP (p : List Nat) (n at_ : Nat) (r : Value) (w w' : World) : Prop := ∃ (c : Int) (t : Bool), r = .tuple #[.int .i64 c, .bool t] ∧ Below w.heap.size w w' ∧ ((c = 1 ∧ t = true) ↔ ∀ v, v < n → ∃ i, it p i v = at_)
def mset (ks : List Nat) : DataW Unit := setOf (.lit (.bool true)) (ks.map fun k => Lit.int .i64 (k : Nat))
theorem mset_snoc (ks : List Nat) (m : Nat) : mset (ks ++ [m]) = (mset ks).put (Lit.int .i64 (m : Nat)) (.lit (.bool true)) := by simp [mset, setOf_snoc]

def lk (k : Nat) : Lit := Lit.int .i64 (k : Nat)
def ddS (acc : List Nat) (x : Nat) : List Nat := if x ∈ acc then acc else acc ++ [x]
theorem any_lk (x : Nat) : ∀ l : List Nat, (l.map lk).any (fun y => y.sameKey (lk x)) = decide (x ∈ l)
  | [] => by simp
  | a :: r => by
    rw [List.map_cons, List.any_cons, any_lk x r]
    have : (lk a).sameKey (lk x) = decide (IntKind.i64 = IntKind.i64 ∧ (a : Int) = (x : Int)) := rfl
    rw [this]
    by_cases e : a = x
    · subst e; simp
    · have e1 : ¬ (a : Int) = (x : Int) := by omega
      have e2 : ¬ x = a := fun h => e h.symm
      simp [e1, e2]
theorem fold_dd : ∀ (ks acc : List Nat), (ks.map lk).foldl addKey (acc.map lk) = (ks.foldl ddS acc).map lk
  | [], acc => rfl
  | x :: r, acc => by
    rw [List.map_cons, List.foldl_cons, List.foldl_cons, ← fold_dd r]
    congr 1
    unfold addKey ddS
    rw [any_lk]
    by_cases h : x ∈ acc <;> simp [h]
theorem dd_inv : ∀ (ks acc : List Nat), acc.Nodup → (ks.foldl ddS acc).Nodup ∧ ∀ x, x ∈ ks.foldl ddS acc ↔ x ∈ acc ∨ x ∈ ks
  | [], acc, h => ⟨h, fun x => by simp⟩
  | y :: r, acc, h => by
    have h2 : (ddS acc y).Nodup := by
      unfold ddS
      split
      · exact h
      · rename_i hy
        rw [List.nodup_append]
        exact ⟨h, by simp, fun a ha b hb e => by simp at hb; subst hb; subst e; exact hy ha⟩
    obtain ⟨h3, h4⟩ := dd_inv r (ddS acc y) h2
    refine ⟨h3, fun x => ?_⟩
    rw [List.foldl_cons, h4]
    unfold ddS
    split
    · rename_i hy
      constructor
      · rintro (h | h)
        · exact .inl h
        · exact .inr (List.mem_cons_of_mem _ h)
      · rintro (h | h)
        · exact .inl h
        · rcases List.mem_cons.1 h with rfl | h
          · exact .inl hy
          · exact .inr h
    · simp [or_assoc]
theorem size_one (ks : List Nat) (h0 : ks ≠ []) : (Maps.size (mset ks) : Int) = 1 ↔ ∀ a ∈ ks, ∀ b ∈ ks, a = b := by
  have e1 : Maps.size (mset ks) = (ks.foldl ddS []).length := by
    have := size_setOf (H := Unit) (.lit (.bool true)) (ks.map lk) (fun x hx => by obtain ⟨_, _, rfl⟩ := List.mem_map.1 hx; trivial)
    have e : Maps.size (mset ks) = ((ks.map lk).foldl addKey ([].map lk)).length := this
    rw [e, fold_dd, List.length_map]
  obtain ⟨hnd, hmem⟩ := dd_inv ks [] List.nodup_nil
  rw [e1]
  obtain ⟨L, hL⟩ : ∃ L, ks.foldl ddS [] = L := ⟨_, rfl⟩
  rw [hL] at hnd hmem ⊢
  constructor
  · intro h a ha b hb
    have hl : L.length = 1 := by omega
    obtain ⟨x, rfl⟩ := List.length_eq_one_iff.1 hl
    have h1 := (hmem a).2 (.inr ha)
    have h2 := (hmem b).2 (.inr hb)
    simp at h1 h2
    rw [h1, h2]
  · intro h
    obtain ⟨k, hk⟩ := List.exists_mem_of_ne_nil _ h0
    match L, hnd, hmem with
    | [], _, hmem => exact absurd ((hmem k).2 (.inr hk)) (by simp)
    | [x], _, _ => rfl
    | x :: y :: r, hnd, hmem =>
      have h1 := ((hmem x).1 (by simp)).resolve_left (by simp)
      have h2 := ((hmem y).1 (by simp)).resolve_left (by simp)
      have := h x h1 y h2
      subst this
      simp at hnd

set_option maxHeartbeats 4000000 in
theorem cycles_ok (w : World) (p : List Nat) (n at_ : Nat) (hl : p.length = 12) (hp : ∀ v, v < n → p.getD v 0 < n) (h1 : 1 ≤ n) (hn : n ≤ 12) (hat : at_ < n) :
    Calls Try.prog 27 #[.agg (ints p).toArray, .int .i64 (n : Nat), .int .i64 (at_ : Nat)] w (Rets fun r w' => CycP p n at_ r w w') := by
  have hmm := @run_makeMap Try.prog
  go_enter Try.func27, Try.ntmps27
  go_wp2
  have HP := Lib.hid hp
  have HB0 := Lib.hid (Blk.new w (ints p) 66)
  have B0 := Lib.hid ((Below.refl w.heap.size w).alloc (Nat.le_refl _) (.cells (ints p).toArray 66))
  obtain ⟨W, hW⟩ : ∃ W, w.alloc (.cells (ints p).toArray 66) = W := ⟨_, rfl⟩
  have hWs : W.heap.size = w.heap.size + 1 := by rw [← hW, World.size_alloc]
  rw [hW] at HB0 B0 ⊢
  have M0 : Hid ((W.alloc (.map #[] 0)).ownsMap Try.prog 3 (plainElem (H := Unit) Try.prog 4) W.heap.size 0 (mset [])) := Lib.hid (World.ownsMap_made _ _ _ _)
  have B1 := Lib.hid ((Below.refl W.heap.size W).alloc (Nat.le_refl _) (.map #[] 0))
  have HWS := Lib.hid hWs
  rw [← hWs]
  clear hW hWs hp
  have K0 : Hid (Keys p n []) := Lib.hid ⟨Nat.zero_le _, fun v h => absurd h (by simp)⟩
  go_loopw [9, 16] (fun on i wr => ∃ (k : Nat) (ks : List Nat) (t : Bool), k ≤ n ∧ i = .int .i64 k ∧ on = .bool t ∧ Hid (ks.length = k) ∧ Hid (Keys p n ks) ∧ Hid (t = true ↔ ∃ v, v < k ∧ ∃ i, i < n ∧ it p i (it p n v) = at_) ∧ Hid (wr.ownsMap Try.prog 3 (plainElem (H := Unit) Try.prog 4) W.heap.size k (mset ks)) ∧ Hid (Below W.heap.size W wr)) (fun _ i _ => n - (intOf i).toNat)
  case atStart => exact ⟨0, [], false, Nat.zero_le _, rfl, rfl, Lib.hid rfl, K0, Lib.hid ⟨fun h => absurd h (by decide), fun ⟨v, hv, _⟩ => absurd hv (Nat.not_lt_zero _)⟩, M0, B1⟩
  case round =>
    clear K0 M0 B1
    obtain ⟨k, ks, t, hk, rfl, rfl, hks, hK, hT, hM, hB⟩ := hrel
    by_cases hkn : k < n
    · have HPB := Lib.hid (HB0.out.below hB.out (Nat.le_refl _))
      have HAT := Lib.hid (fun (x : Nat) (hx : x < n) => (HPB.out.cell x _ (ints_at p x (by omega)) : wr.cell? ⟨w.heap.size, x, none⟩ = some (.int .i64 (p[x]'(by omega) : Nat))))
      have HLT := Lib.hid HPB.out.lt
      have HSTEP := Lib.hid (fun (x : Nat) (hx : x < n) => (by
        have := HAT.out x hx
        rwa [show p[x]'(by omega) = p.getD x 0 by simp [List.getD_eq_getElem?_getD, show x < p.length by omega]] at this : wr.cell? ⟨w.heap.size, x, none⟩ = some (.int .i64 (p.getD x 0 : Nat))))
      have V0 : Hid ((k : Nat) = it p 0 k) := Lib.hid rfl
      go_wp2
      go_loopw [10, 20] (fun x i w2 => ∃ j : Nat, j ≤ n ∧ i = .int .i64 j ∧ x = .int .i64 (it p j k : Nat) ∧ Hid (w2 = wr)) (fun _ i _ => n - (intOf i).toNat)
      case atStart => exact ⟨0, Nat.zero_le _, rfl, rfl, by first | exact Lib.hid rfl | exact Lib.hid trivial⟩
      case round =>
        obtain ⟨j, hj, rfl, rfl, hw⟩ := hrel
        obtain rfl := hw.out
        have hc := it_lt HP.out j k hkn
        have c0 := HSTEP.out _ hc
        have hlt := HLT.out
        have HIT := Lib.hid (show p.getD (it p j k) 0 = it p (j + 1) k from rfl)
        rw [HIT.out] at c0
        by_cases hjn : j < n
        · obtain ⟨x, hx⟩ : ∃ x, it p j k = x := ⟨_, rfl⟩
          rw [hx] at hc c0 ⊢
          have x0 : (0 : Int) ≤ (x : Int) := by omega
          have x1 : (x : Int) < 12 := by omega
          clear hx HIT
          go_wp2
          go_roundw
          case rel => exact ⟨j + 1, by omega, by go_num, rfl, by first | exact Lib.hid rfl | exact Lib.hid trivial⟩
          case measure => simp [intOf]; omega
        · obtain rfl : n = j := by omega
          obtain ⟨d, hd1, hd2, hper⟩ := periodic HP.out k hkn
          obtain ⟨C, hC⟩ : ∃ C, it p n k = C := ⟨_, rfl⟩
          rw [hC] at hc c0 hper ⊢
          rw [← HIT.out, hC] at c0
          have HPER := Lib.hid hper; have HC := Lib.hid hC
          have x0 : (0 : Int) ≤ (C : Int) := by omega
          have x1 : (C : Int) < 12 := by omega
          clear hC hper HIT
          go_wp2
          have D1 := Lib.hid hd1
          have A0 : Hid (∃ i, i < 1 ∧ C = it p i C) := Lib.hid ⟨0, by decide, rfl⟩
          have A1 : Hid (∀ i, i < 1 → C ≤ it p i C) := Lib.hid (fun i hi => by obtain rfl : i = 0 := by omega
                                                                               exact Nat.le_refl _)
          go_loopw [11, 12] (fun mm x w2 => ∃ (i m : Nat), 1 ≤ i ∧ i ≤ d ∧ mm = .int .i64 m ∧ x = .int .i64 (it p i C : Nat) ∧ Hid (∃ j, j < i ∧ m = it p j C) ∧ Hid (∀ j, j < i → m ≤ it p j C) ∧ Hid (w2 = wr)) (fun _ x _ => stepsTo p n C (intOf x).toNat)
          case atStart => exact ⟨1, C, Nat.le_refl _, hd1, rfl, rfl, A0, A1, by first | exact Lib.hid rfl | exact Lib.hid trivial⟩
          case round =>
            clear A0 A1 V0
            obtain ⟨i, m, hi1, hid, rfl, rfl, hA, hL, hw⟩ := hrel
            obtain rfl := hw.out
            have hx := it_lt HP.out i C hc
            have c1 := HSTEP.out _ hx
            have hmn : m < n := by
              obtain ⟨j, -, e⟩ := hA.out
              rw [e]; exact it_lt HP.out j C hc
            by_cases hxC : it p i C = C
            · have HLS := Lib.hid (show Lst p C m from ⟨(by obtain ⟨j, -, e⟩ := hA.out; exact ⟨j, e⟩), fun j => by rw [← it_mod hxC j]; exact hL.out _ (Nat.mod_lt _ hi1)⟩)
              have hee : ((it p i C : Int) == (C : Int)) = true := by rw [hxC]; simp
              rw [hxC] at c1 hee ⊢
              clear hx hxC
              have HWF := Lib.hid (show (Lit.int .i64 (m : Nat)).wf = true from WalkArith.wf_i64 (by omega))
              have hM9 := hM.out
              have hkey : keyOf Try.prog 3 (.int .i64 (m : Nat)) = some (.int .i64 (m : Nat)) := keyOf_int_mk Try.underlying3 HWF.out
              go_wp2_with (at_mapUpdate; go_loud (refine wpList_mapUpdate_own _ rfl _ _ _ 86 rfl 3 4 lawI Try.underlying86 (plainElem (H := Unit) Try.prog 4) W.heap.size k _ rfl hM9 (by unfold maxLen; omega) _ _ _ rfl rfl hkey _ [] (plainElem_bool Try.underlying4 true) ?_); intro w5 hown5 hgrow5; have HM5 := Lib.hid hown5; have HG5 := Lib.hid hgrow5; clear hown5 hgrow5)
              have HPB5 := HPB.out.grown HG5.out (fun e => by simp at e; have := HWS.out; omega)
              have HLT5 := Lib.hid HPB5.lt
              have HSTEP5 := Lib.hid (fun (x : Nat) (hx : x < n) => (by
                have := HPB5.cell x _ (ints_at p x (by omega))
                rwa [show p[x]'(by omega) = p.getD x 0 by simp [List.getD_eq_getElem?_getD, show x < p.length by omega]] at this : w5.cell? ⟨w.heap.size, x, none⟩ = some (.int .i64 (p.getD x 0 : Nat))))
              have T0 : Hid (t = true ↔ t = true ∨ ∃ j, j < 0 ∧ it p j C = at_) := Lib.hid ⟨.inl, fun h => h.elim id (fun ⟨j, hj, _⟩ => absurd hj (Nat.not_lt_zero _))⟩
              clear HPB5 hM9 c0 c1 hlt hee
              go_loopw [9, 13, 43] (fun on x idx w2 => ∃ (i : Nat) (t' : Bool), i ≤ n ∧ on = .bool t' ∧ x = .int .i64 (it p i C : Nat) ∧ idx = .int .i64 i ∧ Hid (t' = true ↔ t = true ∨ ∃ j, j < i ∧ it p j C = at_) ∧ Hid (w2 = w5)) (fun _ _ idx _ => n - (intOf idx).toNat)
              case atStart => exact ⟨0, t, Nat.zero_le _, rfl, rfl, rfl, T0, by first | exact Lib.hid rfl | exact Lib.hid trivial⟩
              case round =>
                clear T0
                obtain ⟨i, t', hin, rfl, rfl, rfl, hT2, hw⟩ := hrel
                obtain rfl := hw.out
                have hx := it_lt HP.out i C hc
                have c1 := HSTEP5.out _ hx
                have hlt5 := HLT5.out
                have HIT3 := Lib.hid (show p.getD (it p i C) 0 = it p (i + 1) C from rfl)
                rw [HIT3.out] at c1
                obtain ⟨x, hxx⟩ : ∃ x, it p i C = x := ⟨_, rfl⟩
                rw [hxx] at hx c1 ⊢
                have HXX := Lib.hid hxx
                have x2 : (0 : Int) ≤ (x : Int) := by omega
                have x3 : (x : Int) < 12 := by omega
                clear hxx HIT3
                by_cases hin2 : i < n
                · cases t'
                  · by_cases hxa : x = at_
                    · subst hxa
                      have hee : ((x : Int) == (x : Int)) = true := by simp
                      go_wp2
                      go_roundw
                      case rel => exact ⟨i + 1, true, by omega, rfl, rfl, by go_num, Lib.hid ⟨fun _ => .inr ⟨i, Nat.lt_succ_self _, HXX.out⟩, fun _ => rfl⟩, by first | exact Lib.hid rfl | exact Lib.hid trivial⟩
                      case measure => simp [intOf]; omega
                    · have hee : ((x : Int) == (at_ : Int)) = false := by rw [beq_eq_false_iff_ne]; omega
                      go_wp2
                      go_roundw
                      case rel => exact ⟨i + 1, false, by omega, rfl, rfl, by go_num, Lib.hid ⟨fun h => absurd h (by decide), fun h => hT2.out.2 (h.imp_right fun ⟨j, hj, e⟩ => ⟨j, by
                        rcases Nat.lt_or_ge j i with h | h
                        · exact h
                        · obtain rfl : j = i := by omega
                          exact absurd (HXX.out.symm.trans e) hxa, e⟩)⟩, by first | exact Lib.hid rfl | exact Lib.hid trivial⟩
                      case measure => simp [intOf]; omega
                  · go_wp2
                    go_roundw
                    case rel => exact ⟨i + 1, true, by omega, rfl, rfl, by go_num, Lib.hid ⟨fun h => (hT2.out.1 h).imp_right fun ⟨j, hj, e⟩ => ⟨j, by omega, e⟩, fun _ => rfl⟩, by first | exact Lib.hid rfl | exact Lib.hid trivial⟩
                    case measure => simp [intOf]; omega
                · obtain rfl : n = i := by omega
                  have hM6 : wr.ownsMap Try.prog 3 (plainElem (H := Unit) Try.prog 4) W.heap.size (k + 1) (mset (ks ++ [m])) := by rw [mset_snoc]; exact HM5.out
                  have HM6 := Lib.hid hM6
                  have HB6 := Lib.hid (hB.out.grown HG5.out hB.out.size (fun j hj => by simp at hj; omega))
                  have hlen := hks.out
                  have HK6 : Hid (Keys p n (ks ++ [m])) := Lib.hid ⟨by simp; omega, fun v hv => by
                    by_cases e : v < ks.length
                    · rw [List.getElem_append_left e]; exact hK.out.2 v e
                    · have hv2 : v = k := by simp at hv; omega
                      subst hv2
                      rw [List.getElem_append_right (by omega), HC.out]
                      simp [hlen]
                      exact HLS.out⟩
                  have HT6 : Hid (t' = true ↔ ∃ v, v < k + 1 ∧ ∃ i, i < n ∧ it p i (it p n v) = at_) := Lib.hid (by
                    rw [hT2.out, hT.out]
                    constructor
                    · rintro (⟨v, hv, h⟩ | h)
                      · exact ⟨v, by omega, h⟩
                      · exact ⟨k, Nat.lt_succ_self _, by rw [HC.out]; exact h⟩
                    · rintro ⟨v, hv, h⟩
                      by_cases e : v < k
                      · exact .inl ⟨v, e, h⟩
                      · obtain rfl : v = k := by omega
                        rw [HC.out] at h
                        exact .inr h)
                  have HKS6 : Hid ((ks ++ [m]).length = k + 1) := Lib.hid (by simp [hlen])
                  clear hM6 c1 hx
                  go_wp2
                  go_roundw
                  case rel => exact ⟨k + 1, ks ++ [m], t', by omega, by go_num, rfl, HKS6, HK6, HT6, HM6, HB6⟩
                  case measure => simp [intOf]; omega
            · have hlt2 := stepsTo_lt (n := n) hxC ⟨d - i, by omega, by rw [← it_add, show d - i + i = d by omega]; exact HPER.out⟩
              have hid2 : i < d := by
                refine Nat.lt_of_le_of_ne hid fun e => hxC ?_
                rw [e]; exact HPER.out
              have hne : ((it p i C : Int) == (C : Int)) = false := by rw [beq_eq_false_iff_ne]; omega
              have HIT2 := Lib.hid (show p.getD (it p i C) 0 = it p (i + 1) C from rfl)
              rw [HIT2.out] at c1 hlt2
              obtain ⟨x, hxx⟩ : ∃ x, it p i C = x := ⟨_, rfl⟩
              rw [hxx] at hx c1 hlt2 hne hxC ⊢
              have x2 : (0 : Int) ≤ (x : Int) := by omega
              have x3 : (x : Int) < 12 := by omega
              have HLT2 := Lib.hid hlt2
              have HXX := Lib.hid hxx
              have hlt3 := HLT.out
              clear hlt2 hxx c0 HIT2
              go_wp2
              go_roundw
              case rel => exact ⟨i + 1, min m x, by omega, by omega, congrArg _ (by omega), rfl, Lib.hid (by
                  obtain ⟨j, hj, e⟩ := hA.out
                  rcases Nat.le_total m x with h | h
                  · rw [Nat.min_eq_left h]; exact ⟨j, by omega, e⟩
                  · rw [Nat.min_eq_right h]; exact ⟨i, by omega, HXX.out.symm⟩), Lib.hid (fun j hj => by
                  by_cases e : j = i
                  · subst e; rw [HXX.out]; exact Nat.min_le_right _ _
                  · exact Nat.le_trans (Nat.min_le_left _ _) (hL.out j (by omega))), by first | exact Lib.hid rfl | exact Lib.hid trivial⟩
              case measure => simp only [intOf, Int.toNat_natCast]; exact HLT2.out
    · obtain rfl : n = k := by omega
      have hM9 := hM.out
      have HKS := Lib.hid hks.out; have HKK := Lib.hid hK.out; have HTT := Lib.hid hT.out; have HMM := Lib.hid hM.out
      have HBB := Lib.hid (B0.out.trans (hB.out.mono B0.out.size))
      go_wp2_with (at_len; go_loud (refine wpList_len_own _ rfl _ 86 rfl 3 4 Try.underlying86 _ W.heap.size n _ rfl hM9 ?_))
      have hfin : CycP p n at_ (.tuple #[.int .i64 (Maps.size (mset ks)), .bool t]) w wr := by
        refine ⟨_, t, rfl, HBB.out, ?_⟩
        rw [size_one ks (fun e => by have := HKS.out; rw [e] at this; simp at this; omega), HTT.out]
        constructor
        · rintro ⟨ha, hb⟩
          exact uni_of HP.out HKK.out HKS.out ha hb
        · intro h
          obtain ⟨ha, hb⟩ := of_uni HP.out h HKK.out
          exact ⟨ha, 0, by omega, hb 0 (by omega)⟩
      go_ret2
      exact ⟨_, rfl, hfin⟩
end Go.Proofs.Ytajldhonffoopaa

namespace Go.Proofs.Ytajldhonffoopaa
open Go.RowKit
set_option maxRecDepth 100000

theorem empty_any (w : World) (a : Option Addr) (m c : Nat) : Calls Try.prog 26 #[.slice a m c] w (Rets fun r w' => r = .bool (decide (m = 0)) ∧ w = w') := by
  by_cases h : m = 0
  · have hm : ((m : Int) == 0) = true := by rw [h]; rfl
    have H := Lib.hid (show decide (m = 0) = true by rw [decide_eq_true_iff]; exact h)
    clear h
    go_enter Try.func26, Try.ntmps26
    go_wp2
    go_ret
    exact ⟨_, rfl, by rw [H.out]; rfl, rfl⟩
  · have hm : ((m : Int) == 0) = false := by rw [beq_eq_false_iff_ne]; omega
    have H := Lib.hid (show decide (m = 0) = false by rw [decide_eq_false_iff_not]; exact h)
    clear h
    go_enter Try.func26, Try.ntmps26
    go_wp2
    go_ret
    exact ⟨_, rfl, by rw [H.out]; rfl, rfl⟩

set_option maxHeartbeats 2000000 in
theorem IndexFunc_ok (w : World) (L C n : Nat) (vs : List Value) (ls : List (List Nat)) (hR : Rws w L C vs ls) (hl : ls.length = n) (hn : n ≤ 1000) :
    Calls Try.prog 41 #[.slice (some ⟨L, 0, none⟩) n n, .func (.func 26) #[] #[]] w (Rets fun r w' => ∃ i : Int, r = .int .i64 i ∧ (0 ≤ i ↔ [] ∈ ls) ∧ w = w') := by
  have hLl := hR.blk.lt
  have HR := Lib.hid hR; have HL := Lib.hid hl
  clear hR hl
  go_enter Try.func41, Try.ntmps41
  go_wp2
  go_loopw [8] (fun i wr => ∃ k : Nat, k ≤ n ∧ i = .int .i64 k ∧ Hid (∀ v (h : v < ls.length), v < k → ls[v] ≠ []) ∧ Hid (w = wr)) (fun i _ => n - (intOf i).toNat)
  case atStart => exact ⟨0, Nat.zero_le _, rfl, Lib.hid (fun v _ h => absurd h (Nat.not_lt_zero _)), by first | exact Lib.hid rfl | exact Lib.hid trivial⟩
  case round =>
    obtain ⟨k, hk, rfl, hX, hw⟩ := hrel
    obtain rfl := hw.out
    by_cases hkn : k < n
    · have hkl : k < ls.length := by rw [HL.out]; exact hkn
      have hkv : k < vs.length := by rw [HR.out.len]; exact hkl
      obtain ⟨ua, uc, hu⟩ := own_formK (HR.out.own k hkv hkl)
      have c0 := HR.out.blk.cell k (.slice ua ls[k].length uc) (by rw [← hu]; simp [hkv])
      obtain ⟨T, hT⟩ : ∃ T, ls[k] = T := ⟨_, rfl⟩
      rw [hT] at c0
      have HT := Lib.hid hT
      have q1 : (0 : Int) ≤ (k : Int) := by omega
      have q2 : (k : Int) < (n : Int) := by omega
      by_cases h0 : T.length = 0
      · have H := Lib.hid (show decide (T.length = 0) = true by rw [decide_eq_true_iff]; exact h0)
        have HN := Lib.hid (List.length_eq_zero_iff.1 h0)
        clear hT hu h0
        go_wp2_with (go_at_call 26; (with_reducible refine (empty_any _ _ _ _).mono ?_); rintro e w' ⟨v, rfl, rfl, rfl⟩; rw [H.out])
        go_ret
        exact ⟨_, rfl, _, rfl, ⟨fun _ => by rw [← HN.out, ← HT.out]; exact List.getElem_mem hkl, fun _ => by omega⟩, rfl⟩
      · have H := Lib.hid (show decide (T.length = 0) = false by rw [decide_eq_false_iff_not]; exact h0)
        have HN := Lib.hid (show T ≠ [] from fun e => h0 (by rw [e]; rfl))
        clear hT hu h0
        go_wp2_with (go_at_call 26; (with_reducible refine (empty_any _ _ _ _).mono ?_); rintro e w' ⟨v, rfl, rfl, rfl⟩; rw [H.out])
        go_roundw
        case rel => exact ⟨k + 1, by omega, by go_num, Lib.hid (fun v h hv => by
          by_cases e : v = k
          · subst e; rw [HT.out]; exact HN.out
          · exact hX.out v h (by omega)), by first | exact Lib.hid rfl | exact Lib.hid trivial⟩
        case measure => simp [intOf]; omega
    · obtain rfl : n = k := by omega
      go_wp2
      go_ret
      exact ⟨_, rfl, _, rfl, ⟨fun h => absurd h (by decide), fun h => by
        obtain ⟨v, hv, e⟩ := List.mem_iff_getElem.1 h
        exact absurd e (hX.out v hv (by rw [← HL.out]; exact hv))⟩, rfl⟩

theorem ContainsFunc_ok (w : World) (L C n : Nat) (vs : List Value) (ls : List (List Nat)) (hR : Rws w L C vs ls) (hl : ls.length = n) (hn : n ≤ 1000) :
    Calls Try.prog 25 #[.slice (some ⟨L, 0, none⟩) n n, .func (.func 26) #[] #[]] w (Rets fun r w' => r = .bool (decide ([] ∈ ls)) ∧ w = w') := by
  have HC := Lib.hid (IndexFunc_ok w L C n vs ls hR hl hn)
  clear hR hl
  go_enter Try.func25, Try.ntmps25
  go_wp2_with (go_at_call 41; (with_reducible refine HC.out.mono ?_); rintro e w' ⟨v, rfl, i, rfl, hi, rfl⟩; have HI := Lib.hid hi; clear hi)
  go_ret
  refine ⟨_, rfl, ?_, rfl⟩
  have : decide (0 ≤ i) = decide ([] ∈ ls) := by
    by_cases h : 0 ≤ i
    · rw [decide_eq_true h, decide_eq_true (HI.out.1 h)]
    · rw [decide_eq_false h, decide_eq_false (fun e => h (HI.out.2 e))]
  rw [← this]; rfl
end Go.Proofs.Ytajldhonffoopaa

namespace Go.Proofs.Ytajldhonffoopaa
namespace Rot
/-- The arcs, by their numbers. -/
def src (es : List (Nat × Nat)) (e : Nat) : Nat := (es.getD e (0, 0)).1
def trg (es : List (Nat × Nat)) (e : Nat) : Nat := (es.getD e (0, 0)).2
def outs (es : List (Nat × Nat)) (v : Nat) : List Nat := (List.range es.length).filter fun e => src es e == v
def cntS (es : List (Nat × Nat)) (l : List Nat) (v : Nat) : Nat := l.countP fun e => src es e == v
def cntT (es : List (Nat × Nat)) (l : List Nat) (v : Nat) : Nat := l.countP fun e => trg es e == v
/-- The arc that is taken next from v, when it has been left c times. -/
def nxt (es : List (Nat × Nat)) (r : Nat → Nat) (v c : Nat) : Nat := (outs es v).getD ((r v + c + 1) % (outs es v).length) 0
/-- The chip behind k steps, and its way. -/
def run (es : List (Nat × Nat)) (r : Nat → Nat) (a : Nat) : Nat → Nat × List Nat
  | 0 => (a, [])
  | k + 1 => (trg es (nxt es r (run es r a k).1 (cntS es (run es r a k).2 (run es r a k).1)), (run es r a k).2 ++ [nxt es r (run es r a k).1 (cntS es (run es r a k).2 (run es r a k).1)])

theorem nodup_fil {l : List Nat} (h : l.Nodup) (p : Nat → Bool) : (l.filter p).Nodup := List.Pairwise.filter p h
theorem nodup_one : ∀ {l : List Nat}, l.Nodup → ∀ {e : Nat}, e ∈ l → l.count e = 1
  | [], _, _, h => by cases h
  | x :: l, hn, e, h => by
    have h1 := List.nodup_cons.1 hn
    rw [List.count_cons]
    rcases List.mem_cons.1 h with rfl | h
    · rw [List.count_eq_zero.2 h1.1]; simp
    · have hne : ¬ x = e := fun e2 => h1.1 (e2 ▸ h)
      rw [nodup_one h1.2 h, if_neg (by simpa using hne)]
theorem nodup_inj {l : List Nat} (h : l.Nodup) {i j : Nat} (hi : i < l.length) (hj : j < l.length) (e : l[i] = l[j]) : i = j := by
  have := List.pairwise_iff_getElem.1 h
  rcases Nat.lt_trichotomy i j with h1 | h1 | h1
  · exact absurd e (this i j hi hj h1)
  · exact h1
  · exact absurd e.symm (this j i hj hi h1)
section
variable {es : List (Nat × Nat)} {r : Nat → Nat} {a n : Nat}
theorem outs_len (v : Nat) : (outs es v).length = cntS es (List.range es.length) v := by
  unfold outs cntS; rw [List.countP_eq_length_filter]
theorem outs_mem {v e : Nat} : e ∈ outs es v ↔ e < es.length ∧ src es e = v := by simp [outs]
theorem outs_nodup (v : Nat) : (outs es v).Nodup := nodup_fil List.nodup_range _
theorem outs_get (v i : Nat) (h : i < (outs es v).length) : (outs es v).getD i 0 < es.length ∧ src es ((outs es v).getD i 0) = v := by
  have : (outs es v).getD i 0 ∈ outs es v := by
    rw [List.getD_eq_getElem?_getD, List.getElem?_eq_getElem h]; exact List.getElem_mem h
  exact outs_mem.1 this
theorem outs_inj (v i j : Nat) (hi : i < (outs es v).length) (hj : j < (outs es v).length) (h : (outs es v).getD i 0 = (outs es v).getD j 0) : i = j := by
  rw [List.getD_eq_getElem?_getD, List.getD_eq_getElem?_getD, List.getElem?_eq_getElem hi, List.getElem?_eq_getElem hj] at h
  exact nodup_inj (outs_nodup v) hi hj h

/-- The arcs that are left over. -/
def rest (es : List (Nat × Nat)) (l : List Nat) : List Nat := (List.range es.length).filter fun e => !l.contains e
theorem parts {l : List Nat} (hn : l.Nodup) (hl : ∀ e ∈ l, e < es.length) : (l ++ rest es l).Perm (List.range es.length) := by
  rw [List.perm_iff_count]
  intro e
  rw [List.count_append]
  by_cases he : e < es.length
  · have h1 : (List.range es.length).count e = 1 := nodup_one List.nodup_range (List.mem_range.2 he)
    by_cases hm : e ∈ l
    · have h2 : l.count e = 1 := nodup_one hn hm
      have h3 : (rest es l).count e = 0 := by
        rw [List.count_eq_zero]; simp [rest, hm]
      omega
    · have h2 : l.count e = 0 := List.count_eq_zero.2 hm
      have h3 : (rest es l).count e = 1 := nodup_one (nodup_fil List.nodup_range _) (by simp [he, hm])
      omega
  · have h1 : (List.range es.length).count e = 0 := List.count_eq_zero.2 (by simpa using he)
    have h2 : l.count e = 0 := List.count_eq_zero.2 fun h => he (hl e h)
    have h3 : (rest es l).count e = 0 := List.count_eq_zero.2 (by simp [rest]; omega)
    omega
theorem partsS {l : List Nat} (hn : l.Nodup) (hl : ∀ e ∈ l, e < es.length) (v : Nat) : cntS es l v + cntS es (rest es l) v = (outs es v).length := by
  rw [outs_len]; unfold cntS; rw [← List.countP_append]; exact (parts hn hl).countP_eq _
theorem partsT {l : List Nat} (hn : l.Nodup) (hl : ∀ e ∈ l, e < es.length) (v : Nat) : cntT es l v + cntT es (rest es l) v = cntT es (List.range es.length) v := by
  unfold cntT; rw [← List.countP_append]; exact (parts hn hl).countP_eq _

/-- What holds while no arc is taken twice. -/
structure Inv (es : List (Nat × Nat)) (r : Nat → Nat) (a : Nat) (k : Nat) : Prop where
  len : (run es r a k).2.length = k
  nodup : (run es r a k).2.Nodup
  lt : ∀ e ∈ (run es r a k).2, e < es.length
  used : ∀ e ∈ (run es r a k).2, ∃ j, 1 ≤ j ∧ j ≤ cntS es (run es r a k).2 (src es e) ∧ e = (outs es (src es e)).getD ((r (src es e) + j) % (outs es (src es e)).length) 0
  flow : ∀ v, cntT es (run es r a k).2 v + (if a = v then 1 else 0) = cntS es (run es r a k).2 v + (if (run es r a k).1 = v then 1 else 0)
theorem Inv.zero : Inv es r a 0 := ⟨rfl, List.nodup_nil, by simp [run], by simp [run], fun _ => rfl⟩
theorem Inv.le {k : Nat} (h : Inv es r a k) (v : Nat) : cntS es (run es r a k).2 v ≤ (outs es v).length := by
  have := partsS h.nodup h.lt v; omega
theorem mod_ne {d x i j : Nat} (h : (x + i) % d = (x + j) % d) (hij : i < j) : d ≤ j - i := by
  have h1 := Nat.div_add_mod (x + i) d
  have h2 := Nat.div_add_mod (x + j) d
  rw [h] at h1
  have h3 : d * ((x + j) / d) - d * ((x + i) / d) = j - i := by omega
  rw [← Nat.mul_sub] at h3
  have : 0 < (x + j) / d - (x + i) / d := by
    rcases Nat.eq_zero_or_pos ((x + j) / d - (x + i) / d) with h0 | h0
    · rw [h0, Nat.mul_zero] at h3; omega
    · exact h0
  rw [← h3]
  exact Nat.le_mul_of_pos_right _ this
theorem Inv.step {k : Nat} (h : Inv es r a k) (hc : cntS es (run es r a k).2 (run es r a k).1 < (outs es (run es r a k).1).length) : Inv es r a (k + 1) := by
  obtain ⟨v, hv⟩ : ∃ v, (run es r a k).1 = v := ⟨_, rfl⟩
  obtain ⟨l, hl⟩ : ∃ l, (run es r a k).2 = l := ⟨_, rfl⟩
  obtain ⟨c, hcc⟩ : ∃ c, cntS es l v = c := ⟨_, rfl⟩
  have hd : 0 < (outs es v).length := by rw [hv] at hc; omega
  have hrun : run es r a (k + 1) = (trg es (nxt es r v c), l ++ [nxt es r v c]) := by rw [run, hv, hl, hcc]
  rw [hv, hl, hcc] at hc
  obtain ⟨e, he⟩ : ∃ e, nxt es r v c = e := ⟨_, rfl⟩
  have hev : e < es.length ∧ src es e = v := by rw [← he]; exact outs_get v _ (Nat.mod_lt _ hd)
  rw [he] at hrun
  have hnew : e ∉ l := fun hm => by
    obtain ⟨j, j1, j2, j3⟩ := h.used e (by rw [hl]; exact hm)
    rw [hl, hev.2, hcc] at j2
    rw [hev.2] at j3
    have : (outs es v).getD ((r v + (c + 1)) % (outs es v).length) 0 = (outs es v).getD ((r v + j) % (outs es v).length) 0 := by rw [← j3, ← he]; rfl
    have := outs_inj v _ _ (Nat.mod_lt _ hd) (Nat.mod_lt _ hd) this
    have := mod_ne this.symm (by omega)
    omega
  have hcs : ∀ u, cntS es (l ++ [e]) u = cntS es l u + if v = u then 1 else 0 := fun u => by
    unfold cntS; rw [List.countP_append]
    simp only [List.countP_cons, List.countP_nil, hev.2]
    by_cases hu : v = u <;> simp [hu]
  have hct : ∀ u, cntT es (l ++ [e]) u = cntT es l u + if trg es e = u then 1 else 0 := fun u => by
    unfold cntT; rw [List.countP_append]
    simp only [List.countP_cons, List.countP_nil]
    by_cases hu : trg es e = u <;> simp [hu]
  refine ⟨?_, ?_, ?_, ?_, ?_⟩
  · rw [hrun, List.length_append, ← hl, h.len]; rfl
  · rw [hrun]
    have := h.nodup; rw [hl] at this
    exact List.nodup_append.2 ⟨this, by simp, fun x hx y hy => by simp at hy; subst hy; exact fun e => hnew (e ▸ hx)⟩
  · intro x hx
    rw [hrun] at hx
    rcases List.mem_append.1 hx with hx | hx
    · exact h.lt x (by rw [hl]; exact hx)
    · simp at hx; subst hx; exact hev.1
  · intro x hx
    rw [hrun] at hx ⊢
    simp only at hx ⊢
    rw [hcs]
    rcases List.mem_append.1 hx with hx | hx
    · obtain ⟨j, j1, j2, j3⟩ := h.used x (by rw [hl]; exact hx)
      rw [hl] at j2
      exact ⟨j, j1, by omega, j3⟩
    · simp at hx; subst hx
      refine ⟨c + 1, by omega, by rw [hev.2, hcc, if_pos rfl]; exact Nat.le_refl _, ?_⟩
      rw [hev.2, ← he]; rfl
  · intro u
    have hf := h.flow u
    rw [hl, hv] at hf
    rw [hrun]; simp only
    rw [hcs, hct]
    omega
/-- The pointer's end. -/
def ptr (es : List (Nat × Nat)) (r : Nat → Nat) (v : Nat) : Nat := trg es ((outs es v).getD (r v) 0)
def ptrs (es : List (Nat × Nat)) (r : Nat → Nat) : Nat → Nat → Nat
  | 0, v => v
  | j + 1, v => ptrs es r j (ptr es r v)

theorem full_len {l : List Nat} (hn : l.Nodup) (hl : ∀ e ∈ l, e < es.length) (hs : ∀ e, e < es.length → src es e < n) (hf : ∀ v, v < n → cntS es l v = (outs es v).length) : l.length = es.length := by
  have hp := parts hn hl
  have hr : rest es l = [] := by
    apply List.eq_nil_iff_forall_not_mem.2
    intro e he
    have he2 : e < es.length := by simp [rest] at he; exact he.1
    have h1 := partsS hn hl (src es e)
    rw [hf _ (hs e he2)] at h1
    have h2 : 0 < cntS es (rest es l) (src es e) := List.countP_pos_iff.2 ⟨e, he, by simp⟩
    omega
  rw [hr, List.append_nil] at hp
  rw [hp.length_eq, List.length_range]
theorem stuck {k : Nat} (h : Inv es r a k) (hk : k < es.length) (hs : ∀ e, e < es.length → src es e < n) (ht : ∀ e, e < es.length → trg es e < n)
    (hd : ∀ v, v < n → 0 < (outs es v).length) (hb : ∀ v, v < n → cntT es (List.range es.length) v = (outs es v).length) (hr : ∀ v, v < n → r v < (outs es v).length)
    (hp : ∀ v, v < n → ∃ j, ptrs es r j v = a) (ha : (run es r a k).1 < n) : cntS es (run es r a k).2 (run es r a k).1 < (outs es (run es r a k).1).length := by
  apply Nat.lt_of_not_le
  intro hge
  obtain ⟨v, hv⟩ : ∃ v, (run es r a k).1 = v := ⟨_, rfl⟩
  obtain ⟨l, hl⟩ : ∃ l, (run es r a k).2 = l := ⟨_, rfl⟩
  have hfl := h.flow
  have hle := h.le
  have hn := h.nodup; have hlt := h.lt; have hus := h.used
  rw [hv] at hfl hge ha
  rw [hl] at hfl hle hge hn hlt hus
  have hpt := fun u => partsT (es := es) hn hlt u
  have hav : a = v := by
    have h1 := hfl v
    have h2 := hpt v
    rw [hb v ha] at h2
    rw [if_pos rfl] at h1
    by_cases e : a = v
    · exact e
    · rw [if_neg e] at h1; omega
  subst hav
  -- all arcs to a vertex that is left over are taken, if all from it are
  have hin : ∀ u, u < n → cntS es l u = (outs es u).length → ∀ e, e < es.length → trg es e = u → e ∈ l := by
    intro u hu hf e he hte
    have h1 := hfl u
    have h2 := hpt u
    rw [hb u hu] at h2
    apply Decidable.byContradiction
    intro hm
    have h3 : 0 < cntT es (rest es l) u := List.countP_pos_iff.2 ⟨e, by simp [rest, he, hm], by simp [hte]⟩
    omega
  have key : ∀ j u, u < n → ptrs es r j u = a → cntS es l u = (outs es u).length := by
    intro j
    induction j with
    | zero => intro u hu e; have e : u = a := e; subst e; have := hle u; omega
    | succ j ih =>
      intro u hu e
      have ho := outs_get (es := es) u _ (hr u hu)
      have hpu : ptr es r u < n := ht _ ho.1
      have hf := ih _ hpu e
      have hm := hin _ hpu hf _ ho.1 rfl
      obtain ⟨i, i1, i2, i3⟩ := hus _ hm
      rw [ho.2] at i2 i3
      have := outs_inj u _ _ (hr u hu) (Nat.mod_lt _ (hd u hu)) i3
      have h4 : (r u + 0) % (outs es u).length = (r u + i) % (outs es u).length := by rw [Nat.add_zero, Nat.mod_eq_of_lt (hr u hu)]; exact this
      have h5 := mod_ne h4 (by omega)
      have h6 := hle u
      omega
  have := full_len (n := n) hn hlt hs fun u hu => let ⟨j, hj⟩ := hp u hu; key j u hu hj
  have h7 := h.len
  rw [hl] at h7
  omega
/-- The round trip. -/
theorem trip (hs : ∀ e, e < es.length → src es e < n) (ht : ∀ e, e < es.length → trg es e < n)
    (hd : ∀ v, v < n → 0 < (outs es v).length) (hb : ∀ v, v < n → cntT es (List.range es.length) v = (outs es v).length) (hr : ∀ v, v < n → r v < (outs es v).length)
    (hp : ∀ v, v < n → ∃ j, ptrs es r j v = a) (ha : a < n) : ∀ k, k ≤ es.length → Inv es r a k ∧ (run es r a k).1 < n := by
  intro k
  induction k with
  | zero => intro _; exact ⟨Inv.zero, ha⟩
  | succ k ih =>
    intro hk
    obtain ⟨h1, h2⟩ := ih (by omega)
    have hc := stuck h1 (by omega) hs ht hd hb hr hp h2
    exact ⟨h1.step hc, ht _ (outs_get _ _ (Nat.mod_lt _ (by omega))).1⟩
theorem home (hs : ∀ e, e < es.length → src es e < n) (ht : ∀ e, e < es.length → trg es e < n)
    (hd : ∀ v, v < n → 0 < (outs es v).length) (hb : ∀ v, v < n → cntT es (List.range es.length) v = (outs es v).length) (hr : ∀ v, v < n → r v < (outs es v).length)
    (hp : ∀ v, v < n → ∃ j, ptrs es r j v = a) (ha : a < n) :
    (run es r a es.length).1 = a ∧ (run es r a es.length).2.Perm (List.range es.length) ∧ ∀ v, cntS es (run es r a es.length).2 v = (outs es v).length := by
  obtain ⟨h, hlt⟩ := trip hs ht hd hb hr hp ha es.length (Nat.le_refl _)
  have hpp := parts h.nodup h.lt
  have hrr : rest es (run es r a es.length).2 = [] := by
    have := hpp.length_eq
    rw [List.length_append, h.len, List.length_range] at this
    exact List.length_eq_zero_iff.1 (by omega)
  rw [hrr, List.append_nil] at hpp
  have hc : ∀ v, cntS es (run es r a es.length).2 v = (outs es v).length := fun v => by rw [outs_len]; exact hpp.countP_eq _
  refine ⟨?_, hpp, hc⟩
  have h1 := h.flow (run es r a es.length).1
  have h2 : cntT es (run es r a es.length).2 (run es r a es.length).1 = cntT es (List.range es.length) (run es r a es.length).1 := hpp.countP_eq _
  rw [h2, hb _ hlt, hc, if_pos rfl] at h1
  by_cases e : a = (run es r a es.length).1
  · exact e.symm
  · rw [if_neg e] at h1; omega
end
end Rot
end Go.Proofs.Ytajldhonffoopaa

namespace Go.Proofs.Ytajldhonffoopaa
open Go.RowKit
set_option maxRecDepth 100000

def iz (x : Int) : List Value := [.int .i64 x]
/-- Where the rotors point to, of the first k vertices. -/
def rot (us : List Int) (v : Nat) : Nat := (us.getD v 0).toNat
def ptK (ss : List (Nat × Nat)) (us : List Int) (k : Nat) : List Nat := (List.range 12).map fun v => if v < k then Rot.ptr ss (rot us) v else 0
theorem ptK_set (ss : List (Nat × Nat)) (us : List Int) (k : Nat) (_ : k < 12) : (ptK ss us k).set k (Rot.ptr ss (rot us) k) = ptK ss us (k + 1) := by
  apply List.ext_getElem (by simp [ptK])
  intro i h1 h2
  by_cases e : k = i
  · subst e
    simp [ptK]
  · rw [List.getElem_set_ne e]
    simp only [ptK, List.getElem_map, List.getElem_range]
    by_cases h : i < k
    · rw [if_pos h, if_pos (by omega)]
    · rw [if_neg h, if_neg (by omega)]
theorem ptK_get (ss : List (Nat × Nat)) (us : List Int) (n v : Nat) (hv : v < n) (hn : n ≤ 12) : (ptK ss us n).getD v 0 = Rot.ptr ss (rot us) v := by
  simp [ptK, List.getD_eq_getElem?_getD, show v < 12 by omega, hv]
theorem outs_rot (n : Nat) (ss : List (Nat × Nat)) (v : Nat) (h : v < (outs n ss).length) : (outs n ss)[v] = Rot.outs ss v := by
  simp only [outs, outsAt, List.getElem_map, List.getElem_range, Rot.outs, Rot.src]
  apply List.filter_congr
  intro i _
  rw [Bool.eq_iff_iff]; simp
/-- A unicycle. -/
structure GoodU (n : Nat) (ss : List (Nat × Nat)) (at_ : Nat) (us : List Int) : Prop where
  at_lt : at_ < n
  len : us.length = n
  pos : ∀ v, v < n → 0 < (Rot.outs ss v).length
  rng : ∀ v, v < n → 0 ≤ us.getD v 0 ∧ us.getD v 0 < (Rot.outs ss v).length
  uni : ∀ v, v < n → ∃ i, it (ptK ss us n) i v = at_
/-- What Check answers. -/
def ChkP (n : Nat) (ns : List (Nat × Nat × Nat)) (at_ : Int) (us : List Int) (r : Value) (w w' : World) : Prop := ∃ e : Int, r = .int .i64 e ∧ Below w.heap.size w w' ∧
  (e = 0 ↔ EulC n ns ∧ 0 ≤ at_ ∧ GoodU n (sgl ns) at_.toNat us)

theorem hs_of {w w' : World} {g : Nat} {a b : Value} {T : TypeId} (h : Blk w g [a, b] T) (hb : Below w.heap.size w w') : w'.cell? ⟨g, 0, none⟩ = some a ∧ w'.cell? ⟨g, 1, none⟩ = some b ∧ g < w'.heap.size :=
  ⟨(h.below hb (Nat.le_refl _)).cell 0 _ rfl, (h.below hb (Nat.le_refl _)).cell 1 _ rfl, (h.below hb (Nat.le_refl _)).lt⟩
theorem no_empty {n : Nat} {ss : List (Nat × Nat)} {a : Nat} {us : List Int} (h : GoodU n ss a us) : [] ∉ outs n ss := fun hm => by
  obtain ⟨v, hv, e⟩ := List.mem_iff_getElem.1 hm
  rw [outs_rot] at e
  have := h.pos v (by rwa [outs, outsAt_len] at hv)
  rw [e] at this
  exact absurd this (by decide)

theorem ints_flat (l : List Nat) : ints l = l.flatMap i1 := by
  induction l with
  | nil => rfl
  | cons x l ih => rw [List.flatMap_cons, ← ih]; rfl
theorem Rws.row {w : World} {L C : Nat} {vs : List Value} {ls : List (List Nat)} (h : Rws w L C vs ls) (i : Nat) (hi : i < ls.length) : ∃ v, w.cell? ⟨L, i, none⟩ = some v ∧ SlK i1 1 w v ls[i] := by
  have hv : i < vs.length := by rw [h.len]; exact hi
  have ho := h.own i hv hi
  rw [ints_flat] at ho
  exact ⟨vs[i], h.blk.cell i _ (by simp [hv]), SlK.ofOwns i1_len ho rfl⟩

theorem twelve {l : List Nat} (h : l.length = 12) : ∃ a0 a1 a2 a3 a4 a5 a6 a7 a8 a9 a10 a11, l = [a0, a1, a2, a3, a4, a5, a6, a7, a8, a9, a10, a11] := by
  match l, h with
  | [a0, a1, a2, a3, a4, a5, a6, a7, a8, a9, a10, a11], _ => exact ⟨a0, a1, a2, a3, a4, a5, a6, a7, a8, a9, a10, a11, rfl⟩
theorem ptK_lt {n : Nat} {ss : List (Nat × Nat)} {us : List Int} (hn : n ≤ 12) (hrg : ∀ x ∈ ss, x.1 < n ∧ x.2 < n) (hX : ∀ v, v < n → 0 ≤ us.getD v 0 ∧ us.getD v 0 < (Rot.outs ss v).length) : ∀ v, v < n → (ptK ss us n).getD v 0 < n := fun v hv => by
  rw [ptK_get ss us n v hv hn]
  have h := hX v hv
  have hr : rot us v < (Rot.outs ss v).length := by unfold rot; omega
  have h2 := (Rot.outs_get (es := ss) v _ hr).1
  unfold Rot.ptr Rot.trg
  rw [List.getD_eq_getElem?_getD, List.getElem?_eq_getElem h2]
  exact (hrg _ (List.getElem_mem h2)).2

set_option maxHeartbeats 4000000 in
theorem EChk_ok (w : World) (n : Nat) (v : Value) (ns : List (Nat × Nat × Nat)) (at_ : Int) (rv : Value) (us : List Int) (hR : RD n ns) (hv : SlK e3 3 w v (ns.map n3)) (hl : ns.length ≤ 1000) (hu : SlK iz 1 w rv us) :
    Calls Try.prog 9 #[.agg #[.int .i64 (n : Nat), v], .agg #[.int .i64 at_, rv]] w (Rets fun r w' => ChkP n ns at_ us r w w') := by
  obtain ⟨ad, c, rfl⟩ := hv.form
  obtain ⟨ru, b, o, cu, rfl, hi, hp, hc, hcm⟩ := hu.open elemI
  unfold maxLen at hcm
  have hnl : (ns.map n3).length = ns.length := List.length_map _
  rw [hnl] at hv ⊢
  have n12 := hR.le
  have n1 := hR.pos
  have HR := Lib.hid hR; have HV := Lib.hid hv; have HP := Lib.hid hp; have HNL := Lib.hid hnl
  have HM := Lib.hid (show ∀ x ∈ ns, x.2.2 ≤ 50 from fun x hx => (hR.rng x hx).2.2.2)
  have hSL := sgl_le ns HM.out ns.length
  rw [List.take_length] at hSL
  have HRG := Lib.hid (sgl_rng hR)
  obtain ⟨W1, hW1⟩ : ∃ W, w.alloc (.cells #[.int .i64 (n : Nat), .slice ad ns.length c] 33) = W := ⟨_, rfl⟩
  obtain ⟨W, hW⟩ : ∃ W, W1.alloc (.cells #[.int .i64 at_, .slice ru us.length cu] 27) = W := ⟨_, rfl⟩
  have z1 : W1.heap.size = w.heap.size + 1 := by rw [← hW1, World.size_alloc]
  have z2 : W.heap.size = w.heap.size + 1 + 1 := by rw [← hW, World.size_alloc, z1]
  have k1 : Blk W1 w.heap.size [.int .i64 (n : Nat), .slice ad ns.length c] 33 := by rw [← hW1]; exact Blk.new w _ _
  have HD := Lib.hid (show Blk W w.heap.size [.int .i64 (n : Nat), .slice ad ns.length c] 33 by rw [← hW]; exact k1.alloc _)
  have HU := Lib.hid (show Blk W (w.heap.size + 1) [.int .i64 at_, .slice ru us.length cu] 27 by rw [← hW, ← z1]; exact Blk.new W1 _ _)
  have HQ := Lib.hid (show Below w.heap.size w W by
    have q1 : Below w.heap.size w W1 := by rw [← hW1]; exact (Below.refl _ w).alloc (Nat.le_refl _) _
    rw [← hW]; exact q1.alloc q1.size _)
  have HVW := Lib.hid (HV.out.below HQ.out (Nat.le_refl _))
  have HW : Hid ((w.alloc (.cells #[.int .i64 (n : Nat), .slice ad ns.length c] 33)).alloc (.cells #[.int .i64 at_, .slice ru us.length cu] 27) = W) := Lib.hid (by rw [hW1, hW])
  have HZ2 := Lib.hid z2
  clear k1 hW1 hW z1 z2 hu hp hv hR hnl
  go_enter Try.func9, Try.ntmps9
  go_wp2_with (go_at_call 21; rw [HW.out]; (with_reducible refine (NCheck_ok W n _ ns HR.out HVW.out).mono ?_); rintro e w1 ⟨v, rfl, rfl, hb⟩; have HB1 := Lib.hid hb; clear hb)
  have HD1 := Lib.hid (HD.out.below HB1.out (Nat.le_refl _))
  have HU1 := Lib.hid (HU.out.below HB1.out (Nat.le_refl _))
  have HS := Lib.hid (fun (w' : World) (hb : Below w1.heap.size w1 w') => (⟨(HD1.out.below hb (Nat.le_refl _)).cell 0 _ rfl, (HD1.out.below hb (Nat.le_refl _)).cell 1 _ rfl⟩ : w'.cell? ⟨w.heap.size, 0, none⟩ = some (.int .i64 (n : Nat)) ∧ w'.cell? ⟨w.heap.size, 1, none⟩ = some (.slice ad ns.length c)))
  have HS1 := Lib.hid (HS.out w1.drew ((Below.refl _ w1).drew))
  have HV1 := Lib.hid (HVW.out.below HB1.out (Nat.le_refl _))
  have HBd := Lib.hid (show Below w1.heap.size w1 w1.drew from (Below.refl _ w1).drew)
  go_region_held3 (fun w' => w'.cell? ⟨w.heap.size, 0, none⟩ = some (.int .i64 (n : Nat)) ∧ w'.cell? ⟨w.heap.size, 1, none⟩ = some (.slice ad ns.length c))
    ((first
      | with_reducible exact HS1.out
      | with_reducible assumption))
    ((first
      | (go_at_call 22; (with_reducible refine (leaving_ok w1.drew n _ ns HR.out (HV1.out.below HBd.out (Nat.le_refl _)) hl).mono ?_); rintro e w2 ⟨v, rfl, vs, L, C, rfl, hRw, hL, hb2⟩; have HRW := Lib.hid hRw; have HB2 := Lib.hid (HBd.out.trans (hb2.mono HBd.out.size)); have HLL := Lib.hid (show w1.heap.size ≤ L from hL); have hs2 := HS.out w2 HB2.out; clear hRw hb2 hL)
      | (go_at_call 23; (with_reducible refine (arcs_ok w2 n _ ns (HV1.out.below HB2.out (Nat.le_refl _)) HM.out (by omega)).mono ?_); rintro e w3 ⟨v, rfl, hO, hb3⟩; obtain ⟨ea, ec, rfl⟩ := own_formK hO; have HE := Lib.hid hO; have HRW3 := Lib.hid (HRW.out.below hb3 (Nat.le_refl _)); have HB3 := Lib.hid (HB2.out.trans (hb3.mono HB2.out.size)); have HZ3 := Lib.hid (show w2.heap.size ≤ w3.heap.size from hb3.size); have hs3 := HS.out w3 HB3.out; clear hO hb3)))
  rename_i hHeld
  clear hs2 hs3 hHeld HS1 HBd
  have HB3w := Lib.hid (HB1.out.trans (HB3.out.mono HB1.out.size))
  have h3 := hs_of HD1.out HB3.out
  obtain ⟨d0, d1, hld⟩ := h3
  have HCF := Lib.hid (fun (w' : World) (hb : Below w3.heap.size w3 w') => ContainsFunc_ok w' L C n vs (outs n (sgl ns)) (HRW3.out.below hb (Nat.le_refl _)) (outsAt_len _ _ _) (by omega))
  have HTR := Lib.hid (fun (w' : World) (hb : Below w3.heap.size w3 w') => HQ.out.trans ((HB3w.out.trans (hb.mono HB3w.out.size)).mono HQ.out.size))
  by_cases hin : [] ∈ outs n (sgl ns)
  · have HIN := Lib.hid (show decide ([] ∈ outs n (sgl ns)) = true from decide_eq_true hin)
    have HNG := Lib.hid (fun (a : Nat) (h : GoodU n (sgl ns) a us) => no_empty h hin)
    go_wp2_with (first
      | (go_at_call 24; (with_reducible refine (eulerian_ok w3 n _ ns HR.out (HV1.out.below HB3.out (Nat.le_refl _)) hl).mono ?_); rintro e w4 ⟨v, rfl, t, rfl, hb4, ht2⟩; have HB4 := Lib.hid hb4; have HT2 := Lib.hid ht2; clear hb4 ht2)
      | (go_at_call 25; (with_reducible refine (HCF.out w4 HB4.out).mono ?_); rintro e w5 ⟨v, rfl, rfl, rfl⟩; rw [HIN.out]))
    all_goals
      have hfin : ChkP n ns at_ us (.int .i64 15) w w4 := ⟨15, rfl, HTR.out w4 HB4.out, ⟨fun h => absurd h (by decide), fun h => absurd h.2.2 (HNG.out _)⟩⟩
      go_ret
      exact ⟨_, rfl, hfin⟩
  · have HIN := Lib.hid (show decide ([] ∈ outs n (sgl ns)) = false from decide_eq_false hin)
    have HPOS := Lib.hid (show ∀ v, v < n → 0 < (Rot.outs (sgl ns) v).length from fun v hv => by
      rcases Nat.eq_zero_or_pos (Rot.outs (sgl ns) v).length with h | h
      · have hv2 : v < (outs n (sgl ns)).length := by rw [outs, outsAt_len]; exact hv
        refine absurd ?_ hin
        rw [← List.length_eq_zero_iff.1 h, ← outs_rot n (sgl ns) v hv2]
        exact List.getElem_mem hv2
      · exact h)
    clear hin
    go_upto_region 7 with (first
      | (go_at_call 24; (with_reducible refine (eulerian_ok w3 n _ ns HR.out (HV1.out.below HB3.out (Nat.le_refl _)) hl).mono ?_); rintro e w4 ⟨v, rfl, t, rfl, hb4, ht2⟩; have HB4 := Lib.hid hb4; have HT2 := Lib.hid ht2; clear hb4 ht2)
      | (go_at_call 25; (with_reducible refine (HCF.out w4 HB4.out).mono ?_); rintro e w5 ⟨v, rfl, rfl, rfl⟩; rw [HIN.out]))
    rotate_left
    · have hfin : ChkP n ns at_ us (.int .i64 15) w w4 := ⟨15, rfl, HTR.out w4 HB4.out, ⟨fun h => absurd h (by decide), fun h => absurd (HT2.out.2 h.1) (by assumption)⟩⟩
      go_ret
      exact ⟨_, rfl, hfin⟩
    have HEC := Lib.hid (HT2.out.1 (by assumption))
    clear d0 d1 hld HT2
    have HB5 := Lib.hid (HB3.out.trans (HB4.out.mono HB3.out.size))
    have HTR4 := Lib.hid (HTR.out w4 HB4.out)
    obtain ⟨d0, d1, hld⟩ := hs_of HD1.out HB5.out
    obtain ⟨u0, u1, hlu⟩ := hs_of HU1.out HB5.out
    by_cases ha0 : at_ < 0
    · have hfin : ChkP n ns at_ us (.int .i64 2) w w4 := ⟨2, rfl, HTR4.out, ⟨fun h => absurd h (by decide), fun h => absurd h.2.1 (by omega)⟩⟩
      have HF := Lib.hid hfin
      clear hfin
      go_wp2
      go_ret
      exact ⟨_, rfl, HF.out⟩
    by_cases han : (n : Int) ≤ at_
    · have hfin : ChkP n ns at_ us (.int .i64 2) w w4 := ⟨2, rfl, HTR4.out, ⟨fun h => absurd h (by decide), fun h => absurd h.2.2.at_lt (by omega)⟩⟩
      have HF := Lib.hid hfin
      clear hfin
      go_wp2
      go_ret
      exact ⟨_, rfl, HF.out⟩
    by_cases hul : us.length = n
    rotate_left
    · have hfin : ChkP n ns at_ us (.int .i64 8) w w4 := ⟨8, rfl, HTR4.out, ⟨fun h => absurd h (by decide), fun h => absurd h.2.2.len hul⟩⟩
      have HF := Lib.hid hfin
      have hne : ((us.length : Int) == (n : Int)) = false := by rw [beq_eq_false_iff_ne]; omega
      clear hfin
      go_wp2
      go_ret
      exact ⟨_, rfl, HF.out⟩
    have hne : ((us.length : Int) == (n : Int)) = true := by rw [hul]; simp
    have HUL := Lib.hid hul
    clear hul
    have HP0 := Lib.hid (show Blk (w4.alloc (.cells #[.int .i64 0, .int .i64 0, .int .i64 0, .int .i64 0, .int .i64 0, .int .i64 0, .int .i64 0, .int .i64 0, .int .i64 0, .int .i64 0, .int .i64 0, .int .i64 0] 66)) w4.heap.size (ints (ptK (sgl ns) us 0)) 66 from Blk.new w4 _ _)
    have HA0 := Lib.hid ((Below.refl w4.heap.size w4).alloc (Nat.le_refl _) (.cells #[.int .i64 0, .int .i64 0, .int .i64 0, .int .i64 0, .int .i64 0, .int .i64 0, .int .i64 0, .int .i64 0, .int .i64 0, .int .i64 0, .int .i64 0, .int .i64 0] 66))
    have HES := SlK.ofOwns p2_len HE.out rfl
    obtain ⟨ea', eb, eo, ec', hform, hie, hep, hec, hecm⟩ := HES.open elemEnds
    simp only [Value.slice.injEq, true_and] at hform
    obtain ⟨rfl, rfl⟩ := hform
    have HEP := Lib.hid hep
    have HR4 := Lib.hid (HRW3.out.below HB4.out (Nat.le_refl _))
    go_wp2
    clear u0 u1 hlu hep HES d0 d1 hld
    go_loopw [50] (fun i wr => ∃ k : Nat, k ≤ n ∧ i = .int .i64 k ∧ Hid (Blk wr w4.heap.size (ints (ptK (sgl ns) us k)) 66) ∧ Hid (∀ v, v < k → 0 ≤ us.getD v 0 ∧ us.getD v 0 < (Rot.outs (sgl ns) v).length) ∧ Hid (Below w4.heap.size w4 wr)) (fun i _ => n - (intOf i).toNat)
    case atStart => exact ⟨0, Nat.zero_le _, rfl, HP0, Lib.hid (fun v h => absurd h (Nat.not_lt_zero _)), HA0⟩
    case round =>
      clear HP0 HA0
      obtain ⟨k, hk, rfl, hPB, hX, hB⟩ := hrel
      have hqw := HTR4.out.trans (hB.out.mono HTR4.out.size)
      have HQW := Lib.hid hqw
      by_cases hkn : k < n
      · have hku : k < us.length := by rw [HUL.out]; exact hkn
        have x0 : wr.cell? ⟨b, o + k, none⟩ = some (.int .i64 us[k]) := by
          have := HP.out.at hqw (Nat.le_refl _) k hku 0 _ rfl
          rwa [Nat.mul_one, Nat.add_zero] at this
        have hbl := (HP.out.below hqw (Nat.le_refl _)).1 (by omega)
        have q1 : (k : Int) < (us.length : Int) := by omega
        have q2 : (k : Int) < (n : Int) := by omega
        have HUK := Lib.hid (show us.getD k 0 = us[k] by simp [List.getD_eq_getElem?_getD, hku])
        obtain ⟨x, hx⟩ : ∃ x, us[k] = x := ⟨_, rfl⟩
        rw [hx] at x0 HUK
        have hlo : k < (outs n (sgl ns)).length := by rw [outs, outsAt_len]; exact hkn
        have hor := outs_rot n (sgl ns) k hlo
        obtain ⟨rv, r0, hrow⟩ := (HR4.out.below hB.out (Nat.le_refl _)).row k hlo
        have hlL := (HR4.out.below hB.out (Nat.le_refl _)).blk.lt
        rw [hor] at hrow
        obtain ⟨ra, rb, ro, rc, rfl, hri, hrp, hrc, hrm⟩ := hrow.open elemI
        have HL9 := Lib.hid (show (Rot.outs (sgl ns) k).length ≤ (sgl ns).length by unfold Rot.outs; exact Nat.le_trans (List.length_filter_le _ _) (by simp))
        clear hx hor hrow
        by_cases hx0 : x < 0
        · have HF := Lib.hid (show ChkP n ns at_ us (.int .i64 2) w wr from ⟨2, rfl, HQW.out, ⟨fun h => absurd h (by decide), fun h => absurd (h.2.2.rng k hkn).1 (by rw [HUK.out]; omega)⟩⟩)
          clear hqw
          go_wp2
          go_ret
          exact ⟨_, rfl, HF.out⟩
        by_cases hxl : ((Rot.outs (sgl ns) k).length : Int) ≤ x
        · have HF := Lib.hid (show ChkP n ns at_ us (.int .i64 2) w wr from ⟨2, rfl, HQW.out, ⟨fun h => absurd h (by decide), fun h => absurd (h.2.2.rng k hkn).2 (by rw [HUK.out]; omega)⟩⟩)
          clear hqw
          go_wp2
          go_ret
          exact ⟨_, rfl, HF.out⟩
        obtain ⟨xn, rfl⟩ : ∃ xn : Nat, x = (xn : Int) := ⟨x.toNat, by omega⟩
        have hxn : xn < (Rot.outs (sgl ns) k).length := by omega
        obtain ⟨T, hT⟩ : ∃ T, Rot.outs (sgl ns) k = T := ⟨_, rfl⟩
        rw [hT] at hxn hri hrp hrc HL9 hxl r0
        obtain ⟨y, hy⟩ : ∃ y, T[xn] = y := ⟨_, rfl⟩
        have y0 : wr.cell? ⟨rb, ro + xn, none⟩ = some (.int .i64 (y : Nat)) := by
          have := hrp.2 xn hxn 0 (.int .i64 (y : Nat)) (by rw [hy]; rfl)
          rwa [Nat.mul_one, Nat.add_zero] at this
        have hrl := hrp.1 (by omega)
        have hys : y < (sgl ns).length := by
          have : y ∈ Rot.outs (sgl ns) k := by rw [hT, ← hy]; exact List.getElem_mem hxn
          exact (Rot.outs_mem.1 this).1
        obtain ⟨⟨z1, z2⟩, hz⟩ : ∃ z, (sgl ns)[y] = z := ⟨_, rfl⟩
        have hb3r : Below w3.heap.size w3 wr := HB4.out.trans (hB.out.mono HB4.out.size)
        have e1 : wr.cell? ⟨eb, eo + y * 2 + 1, none⟩ = some (.int .i64 (z2 : Nat)) := HEP.out.at hb3r (Nat.le_refl _) y hys 1 _ (by rw [hz]; rfl)
        have hel := (HEP.out.below hb3r (Nat.le_refl _)).1 (by omega)
        have HPT := Lib.hid (show Rot.ptr (sgl ns) (rot us) k = z2 by
          have e2 : rot us k = xn := by unfold rot; rw [HUK.out]; rfl
          unfold Rot.ptr Rot.trg
          rw [e2, hT]
          simp [List.getD_eq_getElem?_getD, hxn, hy, hys, hz])
        have HST := Lib.hid (ptK_set (sgl ns) us k (by omega))
        have hp12 : (ptK (sgl ns) us k).length = 12 := by simp [ptK]
        have p0 := hPB.out.cell k _ (ints_at (ptK (sgl ns) us k) k (by omega))
        have pf := hPB.out.free k
        have hpl := hPB.out.lt
        have i0 : (0 : Int) ≤ (y : Int) := by omega
        have i1' : (y : Int) < ((sgl ns).length : Int) := by omega
        have i2 : (0 : Int) ≤ (xn : Int) := by omega
        have i3 : (xn : Int) < (T.length : Int) := by omega
        have i4 : (k : Int) < 12 := by omega
        have HTT := Lib.hid hT
        have HXN := Lib.hid hxn
        obtain ⟨pv, hpv⟩ : ∃ pv, Value.int .i64 ((ptK (sgl ns) us k)[k]'(by omega) : Nat) = pv := ⟨_, rfl⟩
        rw [hpv] at p0
        clear hT hy hz hb3r hp12 hqw hpv
        go_wp2
        go_roundw
        case rel => exact ⟨k + 1, by omega, by go_num, Lib.hid (by rw [← HST.out, ← ints_set, HPT.out]; exact hPB.out.set k _), Lib.hid (fun v hv => by
          by_cases e : v = k
          · subst e; rw [HUK.out, HTT.out]; omega
          · exact hX.out v (by omega)), Lib.hid (hB.out.setCell (p := ⟨w4.heap.size, k, none⟩) (Nat.le_refl _) _)⟩
        case measure => simp [intOf]; omega
      · obtain rfl : n = k := by omega
        obtain ⟨an, rfl⟩ : ∃ an : Nat, at_ = (an : Int) := ⟨at_.toNat, by omega⟩
        have han2 : an < n := by omega
        have hplt := ptK_lt n12 HRG.out hX.out
        have HXX := Lib.hid hX.out
        have hnl2 : ¬ (n : Int) < (us.length : Int) := by have := HUL.out; omega
        have hnl3 : ¬ n < us.length := by have := HUL.out; omega
        have hp12 : (ptK (sgl ns) us n).length = 12 := by simp [ptK]
        obtain ⟨PT, hPT⟩ : ∃ PT, ptK (sgl ns) us n = PT := ⟨_, rfl⟩
        rw [hPT] at hplt hp12 hPB
        have HPT := Lib.hid hPT
        obtain ⟨a0, a1, a2, a3, a4, a5, a6, a7, a8, a9, a10, a11, rfl⟩ := twelve hp12
        have hPB2 := hPB.out
        have c0 := hPB2.cell 0 _ rfl; have c1 := hPB2.cell 1 _ rfl; have c2 := hPB2.cell 2 _ rfl; have c3 := hPB2.cell 3 _ rfl; have c4 := hPB2.cell 4 _ rfl; have c5 := hPB2.cell 5 _ rfl; have c6 := hPB2.cell 6 _ rfl; have c7 := hPB2.cell 7 _ rfl; have c8 := hPB2.cell 8 _ rfl; have c9 := hPB2.cell 9 _ rfl; have c10 := hPB2.cell 10 _ rfl; have c11 := hPB2.cell 11 _ rfl
        have hpl := hPB2.lt
        have HCY : Hid (Calls Try.prog 27 #[.agg #[.int .i64 (a0 : Nat), .int .i64 (a1 : Nat), .int .i64 (a2 : Nat), .int .i64 (a3 : Nat), .int .i64 (a4 : Nat), .int .i64 (a5 : Nat), .int .i64 (a6 : Nat), .int .i64 (a7 : Nat), .int .i64 (a8 : Nat), .int .i64 (a9 : Nat), .int .i64 (a10 : Nat), .int .i64 (a11 : Nat)], .int .i64 (n : Nat), .int .i64 (an : Nat)] wr (Rets fun r w' => CycP [a0, a1, a2, a3, a4, a5, a6, a7, a8, a9, a10, a11] n an r wr w')) := Lib.hid (cycles_ok wr [a0, a1, a2, a3, a4, a5, a6, a7, a8, a9, a10, a11] n an rfl hplt n1 n12 han2)
        have hqd : Below w1.heap.size w1 wr := HB5.out.trans (hB.out.mono HB5.out.size)
        obtain ⟨d0, d1, hld⟩ := hs_of HD1.out hqd
        obtain ⟨u0, u1, hlu⟩ := hs_of HU1.out hqd
        have HGO := Lib.hid (show (∀ v, v < n → ∃ i, it [a0, a1, a2, a3, a4, a5, a6, a7, a8, a9, a10, a11] i v = an) → GoodU n (sgl ns) (an : Int).toNat us from fun h => ⟨by simpa using han2, HUL.out, HPOS.out, HXX.out, fun v hv => by rw [HPT.out]; simpa using h v hv⟩)
        have HGI := Lib.hid (show GoodU n (sgl ns) (an : Int).toNat us → (∀ v, v < n → ∃ i, it [a0, a1, a2, a3, a4, a5, a6, a7, a8, a9, a10, a11] i v = an) from fun h v hv => by have := h.uni v hv; rw [HPT.out] at this; simpa using this)
        clear hplt hPT hPB hqd hPB2 hX
        go_wp2_with (go_at_call 27; (with_reducible refine HCY.out.mono ?_); rintro e w6 ⟨v, rfl, cc, tt, rfl, hb6, hcyc⟩; have HB6 := Lib.hid (HQW.out.trans (hb6.mono HQW.out.size)); have HCC := Lib.hid hcyc; clear hb6 hcyc)
        all_goals
          have HF3 : ¬ (cc = 1 ∧ tt = true) → ChkP n ns (an : Int) us (.int .i64 3) w w6 := fun hn => ⟨3, rfl, HB6.out, ⟨fun h => absurd h (by decide), fun h => absurd (HCC.out.2 (HGI.out h.2.2)) hn⟩⟩
          have HF0 : cc = 1 ∧ tt = true → ChkP n ns (an : Int) us (.int .i64 0) w w6 := fun hn => ⟨0, rfl, HB6.out, ⟨fun _ => ⟨HEC.out, by omega, HGO.out (HCC.out.1 hn)⟩, fun _ => rfl⟩⟩
          go_ret
          first
            | exact ⟨_, rfl, HF3 (by simp_all)⟩
            | exact ⟨_, rfl, HF0 (by simp_all)⟩
end Go.Proofs.Ytajldhonffoopaa

namespace Go.Proofs.Ytajldhonffoopaa
open Go.RowKit
set_option maxRecDepth 100000

/-- The rotors behind the arcs l. -/
def rotK (ss : List (Nat × Nat)) (us : List Int) (n : Nat) (l : List Nat) : List Nat := (List.range n).map fun v => (rot us v + Rot.cntS ss l v) % (Rot.outs ss v).length
theorem rotK_len (ss : List (Nat × Nat)) (us : List Int) (n : Nat) (l : List Nat) : (rotK ss us n l).length = n := by simp [rotK]
theorem rotK_zero {n : Nat} {ss : List (Nat × Nat)} {a : Nat} {us : List Int} (h : GoodU n ss a us) : us = (rotK ss us n []).map fun (x : Nat) => (x : Int) := by
  apply List.ext_getElem
  · rw [List.length_map, rotK_len, h.len]
  · intro i h1 h2
    have hi : i < n := by rw [← h.len]; exact h1
    have h3 := h.rng i hi
    have h4 : us.getD i 0 = us[i] := by simp [List.getD_eq_getElem?_getD, h1]
    rw [h4] at h3
    simp only [rotK, List.getElem_map, List.getElem_range, Rot.cntS, List.countP_nil, Nat.add_zero, rot, h4]
    rw [Nat.mod_eq_of_lt (by omega)]
    omega
theorem rotK_step {ss : List (Nat × Nat)} {us : List Int} {n v e : Nat} {l : List Nat} (_ : v < n) (he : Rot.src ss e = v) (h : v < (rotK ss us n l).length) :
    rotK ss us n (l ++ [e]) = (rotK ss us n l).set v (((rotK ss us n l)[v] + 1) % (Rot.outs ss v).length) := by
  apply List.ext_getElem (by simp [rotK])
  intro i h1 h2
  have hin : i < n := by simpa [rotK] using h1
  by_cases e2 : v = i
  · subst e2
    rw [List.getElem_set_self]
    simp only [rotK, List.getElem_map, List.getElem_range, Rot.cntS, List.countP_append]
    simp [he, Nat.add_assoc]
  · rw [List.getElem_set_ne e2]
    simp only [rotK, List.getElem_map, List.getElem_range, Rot.cntS, List.countP_append]
    simp [he, e2]

section
variable {P : Program} {ops : Array Oper} {Q : Exit → Act → World → Prop} {md : Region.Mode} {S : World → Prop} {A : Nat → Bool}
theorem wpAnyJ_pair {i j : Nat} {o o' : Oper} {fuel : Nat} {listed : Array Bool} {a : Act} {w : World} (hr : Region.ready md ops listed = [i, j]) (ho : ops[i]? = some o) (ho' : ops[j]? = some o')
    (h : ∀ K' : Act → World → Prop, Shut (∀ a w, (A i = true → S w) → wpAnyJ P md ops Q S A fuel (listed.setIfInBounds i true) a w → K' a w) → if Region.wanted o (yielded ops a.tmps) = true then Oper.wp P o a w K' Q else K' (a.put o.dst undef) w)
    (h' : ∀ K' : Act → World → Prop, Shut (∀ a w, (A j = true → S w) → wpAnyJ P md ops Q S A fuel (listed.setIfInBounds j true) a w → K' a w) → if Region.wanted o' (yielded ops a.tmps) = true then Oper.wp P o' a w K' Q else K' (a.put o'.dst undef) w) :
    wpAnyJ P md ops Q S A (fuel + 1) listed a w :=
  ⟨fun h0 => absurd (hr ▸ h0) (by simp), by
    rw [hr]
    intro k hk
    rcases List.mem_cons.1 hk with rfl | hk
    · exact wpOp_step ho (fun K' hK => h K' (fun a w hS hW => hK a w ⟨hS, hW⟩))
    · rw [List.mem_singleton] at hk
      subst hk
      exact wpOp_step ho' (fun K' hK => h' K' (fun a w hS hW => hK a w ⟨hS, hW⟩))⟩
end
theorem own_some {w : World} {b e s n : Nat} {v : Value} {ys : List Value} (h : w.ownsRow b e s v n ys) (hv : v ≠ .slice none 0 0) : ∃ g cap, v = .slice (some ⟨g, 0, none⟩) n cap ∧ b ≤ g := by
  rcases h.2 with ⟨h0, -⟩ | ⟨g, cap, cur, h1, h2, -⟩
  · exact absurd h0 hv
  · exact ⟨g, cap, h1, h2⟩

/-- One step of the run. -/
theorem run_step {ss : List (Nat × Nat)} {us : List Int} {n a j v : Nat} {l : List Nat} (_ : n ≤ 12) (h : GoodU n ss a us) (hrg : ∀ x ∈ ss, x.1 < n ∧ x.2 < n) (hr : Rot.run ss (rot us) a j = (v, l)) (hv : v < n) :
    ∃ x e z1 z2, ∃ (h1 : v < (rotK ss us n l).length), (rotK ss us n l)[v] = x ∧ ∃ h2 : (x + 1) % (Rot.outs ss v).length < (Rot.outs ss v).length, (Rot.outs ss v)[(x + 1) % (Rot.outs ss v).length] = e ∧ x < (Rot.outs ss v).length ∧ ∃ h3 : e < ss.length, ss[e] = (z1, z2) ∧ z2 < n ∧
      Rot.run ss (rot us) a (j + 1) = (z2, l ++ [e]) ∧ rotK ss us n (l ++ [e]) = (rotK ss us n l).set v ((x + 1) % (Rot.outs ss v).length) := by
  have hpos := h.pos v hv
  have h1 : v < (rotK ss us n l).length := by rw [rotK_len]; exact hv
  have h2 := Nat.mod_lt ((rotK ss us n l)[v] + 1) hpos
  have hx : (rotK ss us n l)[v] = (rot us v + Rot.cntS ss l v) % (Rot.outs ss v).length := by simp [rotK]
  have hmm : ((rotK ss us n l)[v] + 1) % (Rot.outs ss v).length = (rot us v + Rot.cntS ss l v + 1) % (Rot.outs ss v).length := by rw [hx, Nat.mod_add_mod]
  obtain ⟨e, he⟩ : ∃ e, (Rot.outs ss v)[((rotK ss us n l)[v] + 1) % (Rot.outs ss v).length]'h2 = e := ⟨_, rfl⟩
  have hem : e ∈ Rot.outs ss v := by rw [← he]; exact List.getElem_mem h2
  obtain ⟨h3, hsrc⟩ := Rot.outs_mem.1 hem
  obtain ⟨⟨z1, z2⟩, hz⟩ : ∃ z, ss[e] = z := ⟨_, rfl⟩
  have hnx : Rot.nxt ss (rot us) v (Rot.cntS ss l v) = e := by
    unfold Rot.nxt
    rw [← hmm, List.getD_eq_getElem?_getD, List.getElem?_eq_getElem h2, he]; rfl
  refine ⟨_, e, z1, z2, h1, rfl, h2, he, by rw [hx]; exact Nat.mod_lt _ hpos, h3, hz, ?_, ?_, rotK_step hv hsrc h1⟩
  · have := hrg _ (List.getElem_mem h3); rw [hz] at this; exact this.2
  · rw [Rot.run, hr]
    simp only
    rw [hnx]
    simp [Rot.trg, List.getD_eq_getElem?_getD, h3, hz]

set_option maxHeartbeats 4000000 in
theorem EWalk_ok (w : World) (n : Nat) (v : Value) (ns : List (Nat × Nat × Nat)) (a : Nat) (rv : Value) (us : List Int) (k : Nat) (hR : RD n ns) (hv : SlK e3 3 w v (ns.map n3)) (hl : ns.length ≤ 1000) (hu : SlK iz 1 w rv us) (hE : EulC n ns) (hG : GoodU n (sgl ns) a us) (hk : k ≤ 4096) :
    Calls Try.prog 10 #[.agg #[.int .i64 (n : Nat), v], .agg #[.int .i64 (a : Nat), rv], .int .i64 (k : Nat)] w (Rets fun r w' => ∃ q cap way, r = .tuple #[.agg #[.int .i64 (Rot.run (sgl ns) (rot us) a k).1, .slice (some ⟨q, 0, none⟩) n cap], way, .int .i64 0] ∧
      w'.ownsRow w.heap.size 3 1 (.slice (some ⟨q, 0, none⟩) n cap) n (ints (rotK (sgl ns) us n (Rot.run (sgl ns) (rot us) a k).2)) ∧ w'.ownsRow w.heap.size 3 1 way (Rot.run (sgl ns) (rot us) a k).2.length (ints (Rot.run (sgl ns) (rot us) a k).2) ∧ Below w.heap.size w w') := by
  obtain ⟨ad, c, rfl⟩ := hv.form
  have HUV := Lib.hid hu
  obtain ⟨ru, b, o, cu, rfl, hra, hc, hcm, -, hp⟩ := hu
  obtain rfl := hra (by have := hG.len; have := hR.pos; omega)
  unfold maxLen at hcm
  rw [hG.len] at hc HUV ⊢
  have hnl : (ns.map n3).length = ns.length := List.length_map _
  rw [hnl] at hv ⊢
  have n12 := hR.le
  have n1 := hR.pos
  have hul := hG.len
  have HR := Lib.hid hR; have HV := Lib.hid hv; have HP := Lib.hid hp; have HNL := Lib.hid hnl; have HE0 := Lib.hid hE; have HG := Lib.hid hG; have HUL := Lib.hid hul
  have HM := Lib.hid (show ∀ x ∈ ns, x.2.2 ≤ 50 from fun x hx => (hR.rng x hx).2.2.2)
  have hSL := sgl_le ns HM.out ns.length
  rw [List.take_length] at hSL
  have HRG := Lib.hid (sgl_rng hR)
  obtain ⟨W1, hW1⟩ : ∃ W, w.alloc (.cells #[.int .i64 (n : Nat), .slice ad ns.length c] 33) = W := ⟨_, rfl⟩
  obtain ⟨W2, hW2⟩ : ∃ W, W1.alloc (.cells #[.int .i64 (a : Nat), .slice (some ⟨b, o, none⟩) n cu] 27) = W := ⟨_, rfl⟩
  obtain ⟨W, hW⟩ : ∃ W, W2.alloc (.cells #[.int .i64 0, .slice none 0 0] 27) = W := ⟨_, rfl⟩
  have z1 : W1.heap.size = w.heap.size + 1 := by rw [← hW1, World.size_alloc]
  have z2 : W2.heap.size = w.heap.size + 1 + 1 := by rw [← hW2, World.size_alloc, z1]
  have z3 : W.heap.size = w.heap.size + 1 + 1 + 1 := by rw [← hW, World.size_alloc, z2]
  have k1 : Blk W1 w.heap.size [.int .i64 (n : Nat), .slice ad ns.length c] 33 := by rw [← hW1]; exact Blk.new w _ _
  have k2 : Blk W2 (w.heap.size + 1) [.int .i64 (a : Nat), .slice (some ⟨b, o, none⟩) n cu] 27 := by rw [← hW2, ← z1]; exact Blk.new W1 _ _
  have HD := Lib.hid (show Blk W w.heap.size [.int .i64 (n : Nat), .slice ad ns.length c] 33 by rw [← hW, ← hW2]; exact (k1.alloc _).alloc _)
  have HU := Lib.hid (show Blk W (w.heap.size + 1) [.int .i64 (a : Nat), .slice (some ⟨b, o, none⟩) n cu] 27 by rw [← hW]; exact k2.alloc _)
  have HX := Lib.hid (show Blk W (w.heap.size + 1 + 1) [.int .i64 0, .slice none 0 0] 27 by rw [← hW, ← z2]; exact Blk.new W2 _ _)
  have HQ := Lib.hid (show Below w.heap.size w W by
    have q1 : Below w.heap.size w W1 := by rw [← hW1]; exact (Below.refl _ w).alloc (Nat.le_refl _) _
    have q2 : Below w.heap.size w W2 := by rw [← hW2]; exact q1.alloc q1.size _
    rw [← hW]; exact q2.alloc q2.size _)
  have HVW := Lib.hid (HV.out.below HQ.out (Nat.le_refl _))
  have HUW := Lib.hid (HUV.out.below HQ.out (Nat.le_refl _))
  have HW : Hid (((w.alloc (.cells #[.int .i64 (n : Nat), .slice ad ns.length c] 33)).alloc (.cells #[.int .i64 (a : Nat), .slice (some ⟨b, o, none⟩) n cu] 27)).alloc (.cells #[.int .i64 0, .slice none 0 0] 27) = W) := Lib.hid (by rw [hW1, hW2, hW])
  have HZ2 := Lib.hid z3
  have hk0 : ¬ (k : Int) < 0 := by omega
  have hk1 : ¬ (4096 : Int) < (k : Int) := by omega
  have HCK := Lib.hid (EChk_ok W n (.slice ad ns.length c) ns (a : Int) (.slice (some ⟨b, o, none⟩) n cu) us HR.out HVW.out hl HUW.out)
  clear k1 k2 hW1 hW2 hW z1 z2 z3 hp hv hra hR hnl hE hG hul
  go_enter Try.func10, Try.ntmps10
  go_wp2_with (go_at_call 9; rw [HW.out]; (with_reducible refine HCK.out.mono ?_); rintro e w1 ⟨v, rfl, ee, rfl, hb, hiff⟩; obtain rfl : ee = 0 := hiff.2 ⟨HE0.out, by omega, by simpa using HG.out⟩; have HB1 := Lib.hid hb; clear hb hiff)
  have HD1 := Lib.hid (HD.out.below HB1.out (Nat.le_refl _))
  have HU1 := Lib.hid (HU.out.below HB1.out (Nat.le_refl _))
  have HX1 := Lib.hid (HX.out.below HB1.out (Nat.le_refl _))
  have HS := Lib.hid (fun (w' : World) (hb : Below w1.heap.size w1 w') => (⟨(HD1.out.below hb (Nat.le_refl _)).cell 0 _ rfl, (HD1.out.below hb (Nat.le_refl _)).cell 1 _ rfl⟩ : w'.cell? ⟨w.heap.size, 0, none⟩ = some (.int .i64 (n : Nat)) ∧ w'.cell? ⟨w.heap.size, 1, none⟩ = some (.slice ad ns.length c)))
  have HS1 := Lib.hid (HS.out w1.drew ((Below.refl _ w1).drew))
  have HV1 := Lib.hid (HVW.out.below HB1.out (Nat.le_refl _))
  have HBd := Lib.hid (show Below w1.heap.size w1 w1.drew from (Below.refl _ w1).drew)
  go_region_held3 (fun w' => w'.cell? ⟨w.heap.size, 0, none⟩ = some (.int .i64 (n : Nat)) ∧ w'.cell? ⟨w.heap.size, 1, none⟩ = some (.slice ad ns.length c))
    ((first
      | with_reducible exact HS1.out
      | with_reducible assumption))
    ((first
      | (go_at_call 22; (with_reducible refine (leaving_ok w1.drew n _ ns HR.out (HV1.out.below HBd.out (Nat.le_refl _)) hl).mono ?_); rintro e w2 ⟨v, rfl, vs, L, C, rfl, hRw, hL, hb2⟩; have HRW := Lib.hid hRw; have HB2 := Lib.hid (HBd.out.trans (hb2.mono HBd.out.size)); have HLL := Lib.hid (show w1.heap.size ≤ L from hL); have hs2 := HS.out w2 HB2.out; clear hRw hb2 hL)
      | (go_at_call 23; (with_reducible refine (arcs_ok w2 n _ ns (HV1.out.below HB2.out (Nat.le_refl _)) HM.out (by omega)).mono ?_); rintro e w3 ⟨v, rfl, hO, hb3⟩; obtain ⟨ea, ec, rfl⟩ := own_formK hO; have HE := Lib.hid hO; have HRW3 := Lib.hid (HRW.out.below hb3 (Nat.le_refl _)); have HB3 := Lib.hid (HB2.out.trans (hb3.mono HB2.out.size)); have HZ3 := Lib.hid (show w2.heap.size ≤ w3.heap.size from hb3.size); have hs3 := HS.out w3 HB3.out; clear hO hb3)))
  rename_i hHeld
  clear hs2 hs3 hHeld HS1 HBd
  go_upto_region 7 with fail
  have HSS := Lib.hid (fun (w' : World) (hb : Below w3.heap.size w3 w') => (⟨(HU1.out.below (HB3.out.trans (hb.mono HB3.out.size)) (Nat.le_refl _)).cell 0 _ rfl, (HU1.out.below (HB3.out.trans (hb.mono HB3.out.size)) (Nat.le_refl _)).cell 1 _ rfl⟩ : w'.cell? ⟨w.heap.size + 1, 0, none⟩ = some (.int .i64 (a : Nat)) ∧ w'.cell? ⟨w.heap.size + 1, 1, none⟩ = some (.slice (some ⟨b, o, none⟩) n cu)))
  have HBd3 := Lib.hid (show Below w3.heap.size w3 w3.drew from (Below.refl _ w3).drew)
  have HT0 := Lib.hid (HSS.out w3.drew HBd3.out)
  have HQ3 := Lib.hid (HQ.out.trans ((HB1.out.trans (HB3.out.mono HB1.out.size)).mono HQ.out.size))
  have HCL := Lib.hid (fun (w' : World) (hb : Below w3.heap.size w3 w') => Try.slices_Clone_int b o n cu us w' (by rw [HUL.out]; exact Nat.le_refl _) (by omega) (fun j hj => by
    have h1 := HP.out.at (HQ3.out.trans (hb.mono HQ3.out.size)) (Nat.le_refl _) j hj 0 _ rfl
    rw [Nat.mul_one, Nat.add_zero] at h1
    rw [h1]; simp [List.getD_eq_getElem?_getD, hj]))
  go_cut [12] (fun p12 wx => ∃ g q cap, p12 = .pointer (some ⟨g, 0, none⟩) ∧ Hid (Blk wx g [.int .i64 (a : Nat), .slice (some ⟨q, 0, none⟩) n cap] 27) ∧ Hid (wx.ownsRow w3.heap.size 3 1 (.slice (some ⟨q, 0, none⟩) n cap) n (us.map (Value.int .i64))) ∧ Hid (w3.heap.size ≤ g ∧ g ≠ q) ∧ Hid (Below w3.heap.size w3 wx))
  case first =>
    refine wp_regionJ (S := fun w' => w'.cell? ⟨w.heap.size + 1, 0, none⟩ = some (.int .i64 (a : Nat)) ∧ w'.cell? ⟨w.heap.size + 1, 1, none⟩ = some (.slice (some ⟨b, o, none⟩) n cu)) (A := fun i => decide (i < 7)) (by kernel_rfl) ?_
    refine wpAnyJ_take (i := 0) (oi := { dst := some 34, op := .fieldAddr _ (.tmp 4) 0, type := _, pos := _, after := _, guard := _ }) (v := ?_) rfl (by kernel_rfl) (by kernel_rfl) (by kernel_rfl) (early_sat (by kernel_rfl)) (fun _ _ _ h => h) (Or.inl ⟨by rfl, ?_⟩) HT0.out ?_
    rotate_left
    · intro wl hSw
      obtain ⟨s0, s1⟩ := hSw
      go_simp
      with_reducible rfl
    simp only [Act.put, List.setIfInBounds_toArray, List.set_cons_zero, List.set_cons_succ]
    refine wpAnyJ_take (i := 1) (oi := { dst := some 35, op := .load _ (.tmp 34), type := _, pos := _, after := _, guard := _ }) (v := ?_) rfl (by kernel_rfl) (by kernel_rfl) (by kernel_rfl) (early_sat (by kernel_rfl)) (fun _ _ _ h => h) (Or.inl ⟨by rfl, ?_⟩) HT0.out ?_
    rotate_left
    · intro wl hSw
      obtain ⟨s0, s1⟩ := hSw
      go_simp
      with_reducible rfl
    simp only [Act.put, List.setIfInBounds_toArray, List.set_cons_zero, List.set_cons_succ]
    refine wpAnyJ_take (i := 2) (oi := { dst := some 36, op := .fieldAddr _ (.tmp 4) 1, type := _, pos := _, after := _, guard := _ }) (v := ?_) rfl (by kernel_rfl) (by kernel_rfl) (by kernel_rfl) (early_sat (by kernel_rfl)) (fun _ _ _ h => h) (Or.inl ⟨by rfl, ?_⟩) HT0.out ?_
    rotate_left
    · intro wl hSw
      obtain ⟨s0, s1⟩ := hSw
      go_simp
      with_reducible rfl
    simp only [Act.put, List.setIfInBounds_toArray, List.set_cons_zero, List.set_cons_succ]
    refine wpAnyJ_take (i := 3) (oi := { dst := some 37, op := .load _ (.tmp 36), type := _, pos := _, after := _, guard := _ }) (v := ?_) rfl (by kernel_rfl) (by kernel_rfl) (by kernel_rfl) (early_sat (by kernel_rfl)) (fun _ _ _ h => h) (Or.inl ⟨by rfl, ?_⟩) HT0.out ?_
    rotate_left
    · intro wl hSw
      obtain ⟨s0, s1⟩ := hSw
      go_simp
      with_reducible rfl
    simp only [Act.put, List.setIfInBounds_toArray, List.set_cons_zero, List.set_cons_succ]
    refine wpAnyJ_pair (i := 4) (j := 6) (o := { dst := some 38, op := _, type := _, pos := _, after := _, guard := _ }) (o' := { dst := some 12, op := _, type := _, pos := _, after := _, guard := _ }) (by kernel_rfl) rfl rfl (fun K hK => ?_) (fun K hK => ?_)
    · go_simp
      refine (HCL.out (w3.drew) HBd3.out).mono ?_
      rintro e w5 ⟨v5, rfl, hown5, hv5, hb5⟩
      obtain ⟨q, cap, rfl, hq⟩ := own_some hown5 hv5
      have HO5 := Lib.hid hown5; have HB5 := Lib.hid hb5; have HQ5 := Lib.hid hq
      have hS5 := HSS.out w5 (HBd3.out.trans (hb5.mono HBd3.out.size))
      clear hown5 hv5 hq
      refine hK.out _ _ (fun _ => hS5) ?_
      try simp only [Act.put, List.setIfInBounds_toArray, List.set_cons_zero, List.set_cons_succ]
      clear hK K
      refine wpAnyJ_take (i := 5) (oi := { dst := some 39, op := _, type := _, pos := _, after := _, guard := _ }) (v := ?_) rfl (by kernel_rfl) (by kernel_rfl) (by kernel_rfl) (early_sat (by kernel_rfl)) (fun _ _ _ h => h) (Or.inl ⟨by rfl, ?_⟩) hS5 ?_
      rotate_left
      · intro wl hSw
        obtain ⟨s0, s1⟩ := hSw
        go_simp
        with_reducible rfl
      simp only [Act.put, List.setIfInBounds_toArray, List.set_cons_zero, List.set_cons_succ]
      refine wpAnyJ_only (i := 6) (o := { dst := some 12, op := _, type := _, pos := _, after := _, guard := _ }) (by kernel_rfl) rfl (fun K hK => ?_)
      go_simp
      have hS6 := HSS.out (w5.alloc (.cells #[.int .i64 0, .slice none 0 0] 27)) ((HBd3.out.trans (hb5.mono HBd3.out.size)).alloc (Nat.le_trans HBd3.out.size (HB5.out.size)) _)
      refine hK.out _ _ (fun _ => hS6) ?_
      try simp only [Act.put, List.setIfInBounds_toArray, List.set_cons_zero, List.set_cons_succ]
      clear hK K
      refine wpAnyJ_only (i := 7) (o := { dst := none, op := .store _ (.tmp 12) (.tmp 39), type := _, pos := _, after := _, guard := _ }) (by kernel_rfl) rfl (fun K hK => ?_)
      go_simp
      refine hK.out _ _ (fun h => absurd h (by decide)) ?_
      try simp only [Act.put, List.setIfInBounds_toArray, List.set_cons_zero, List.set_cons_succ]
      clear hK K
      refine wpAnyJ_done (by kernel_rfl) ?_ _
      have hto := HO5.out
      rw [List.take_of_length_le (Nat.le_of_eq HUL.out)] at hto
      have hql := (hto.lt q rfl).2
      have HBB := Lib.hid (HBd3.out.trans (HB5.out.mono HBd3.out.size))
      have HTO := Lib.hid hto
      have HQL := Lib.hid hql
      clear hto hql
      go_wp2
      go_meet
      case rel => exact ⟨w5.heap.size, q, cap, rfl, Lib.hid (Blk.new w5 [.int .i64 (a : Nat), .slice (some ⟨q, 0, none⟩) n cap] _), Lib.hid (HTO.out.alloc _), Lib.hid ⟨HBB.out.size, fun e => by have := HQL.out; omega⟩, Lib.hid (HBB.out.alloc HBB.out.size _)⟩
    · go_simp
      have hS4 := HSS.out (w3.drew.alloc (.cells #[.int .i64 0, .slice none 0 0] 27)) (HBd3.out.alloc HBd3.out.size _)
      refine hK.out _ _ (fun _ => hS4) ?_
      try simp only [Act.put, List.setIfInBounds_toArray, List.set_cons_zero, List.set_cons_succ]
      clear hK K
      refine wpAnyJ_only (i := 4) (o := { dst := some 38, op := _, type := _, pos := _, after := _, guard := _ }) (by kernel_rfl) rfl (fun K hK => ?_)
      go_simp
      have HBa := Lib.hid (HBd3.out.alloc HBd3.out.size (.cells #[.int .i64 0, .slice none 0 0] 27))
      refine (HCL.out (w3.drew.alloc (.cells #[.int .i64 0, .slice none 0 0] 27)) HBa.out).mono ?_
      rintro e w5 ⟨v5, rfl, hown5, hv5, hb5⟩
      obtain ⟨q, cap, rfl, hq⟩ := own_some hown5 hv5
      have HO5 := Lib.hid hown5; have HB5 := Lib.hid hb5; have HQ5 := Lib.hid hq
      have hS5 := HSS.out w5 (HBa.out.trans (hb5.mono HBa.out.size))
      clear hown5 hv5 hq
      have HN5 := Lib.hid ((show Blk (w3.drew.alloc (.cells #[.int .i64 0, .slice none 0 0] 27)) w3.heap.size [.int .i64 0, .slice none 0 0] 27 from Blk.new w3.drew _ _).below hb5 (Nat.le_refl _))
      have m0 := HN5.out.cell 0 _ rfl; have m1 := HN5.out.cell 1 _ rfl; have f0 := HN5.out.free 0; have f1 := HN5.out.free 1; have hml := HN5.out.lt
      refine hK.out _ _ (fun _ => hS5) ?_
      try simp only [Act.put, List.setIfInBounds_toArray, List.set_cons_zero, List.set_cons_succ]
      clear hK K
      refine wpAnyJ_take (i := 5) (oi := { dst := some 39, op := _, type := _, pos := _, after := _, guard := _ }) (v := ?_) rfl (by kernel_rfl) (by kernel_rfl) (by kernel_rfl) (early_sat (by kernel_rfl)) (fun _ _ _ h => h) (Or.inl ⟨by rfl, ?_⟩) hS5 ?_
      rotate_left
      · intro wl hSw
        obtain ⟨s0, s1⟩ := hSw
        go_simp
        with_reducible rfl
      simp only [Act.put, List.setIfInBounds_toArray, List.set_cons_zero, List.set_cons_succ]
      refine wpAnyJ_only (i := 7) (o := { dst := none, op := .store _ (.tmp 12) (.tmp 39), type := _, pos := _, after := _, guard := _ }) (by kernel_rfl) rfl (fun K hK => ?_)
      go_simp
      refine hK.out _ _ (fun h => absurd h (by decide)) ?_
      try simp only [Act.put, List.setIfInBounds_toArray, List.set_cons_zero, List.set_cons_succ]
      clear hK K
      refine wpAnyJ_done (by kernel_rfl) ?_ _
      have hto := HO5.out
      rw [List.take_of_length_le (Nat.le_of_eq HUL.out)] at hto
      have HBB := Lib.hid (HBa.out.trans (HB5.out.mono HBa.out.size))
      have hq3 : w3.heap.size < q := by have := HQ5.out; rw [World.size_alloc] at this; exact this
      have HTO := Lib.hid (own_baseK hto (show w3.heap.size ≤ (w3.drew.alloc (.cells #[.int .i64 0, .slice none 0 0] 27)).heap.size by rw [World.size_alloc]; exact Nat.le_succ _))
      have HQ3 := Lib.hid hq3
      have HTO2 := Lib.hid (own_otherK (g := w3.heap.size) (j := 1) (u := .slice (some ⟨q, 0, none⟩) n cap) (own_otherK (g := w3.heap.size) (j := 0) (u := .int .i64 (a : Nat)) HTO.out (fun e => by simp [Value.ownBlock] at e; omega)) (fun e => by simp [Value.ownBlock] at e; omega))
      clear hto hq3 m0 m1 f0 f1 hml
      go_wp2
      go_meet
      case rel => exact ⟨w3.heap.size, q, cap, rfl, Lib.hid ((HN5.out.set 0 (.int .i64 (a : Nat))).set 1 (.slice (some ⟨q, 0, none⟩) n cap)), HTO2, Lib.hid ⟨Nat.le_refl _, fun e => by have := HQ3.out; omega⟩, Lib.hid ((HBB.out.setCell (p := ⟨w3.heap.size, 0, none⟩) (Nat.le_refl _) _).setCell (p := ⟨w3.heap.size, 1, none⟩) (Nat.le_refl _) _)⟩
  case rest =>
    obtain ⟨g, q, cap, rfl, hBX, hOQ, hgq, hBW⟩ := hcut
    have HZC := Lib.hid (show w3.heap.size ≤ wc.heap.size from hBW.out.size)
    have HGL := Lib.hid hBX.out.lt
    have HQL := Lib.hid (hOQ.out.lt q rfl)
    have HES := SlK.ofOwns p2_len HE.out rfl
    obtain ⟨ea', eb, eo, ec', hform, hie, hep, hec, hecm⟩ := HES.open elemEnds
    simp only [Value.slice.injEq, true_and] at hform
    obtain ⟨rfl, rfl⟩ := hform
    have HEP := Lib.hid hep
    have HQT := Lib.hid (HQ.out.trans ((HB1.out.trans (HB3.out.mono HB1.out.size)).mono HQ.out.size))
    have hOR : wc.ownsRow w3.heap.size 3 1 (.slice (some ⟨q, 0, none⟩) n cap) n (ints (rotK (sgl ns) us n (Rot.run (sgl ns) (rot us) a 0).2)) := by
      have h1 : us.map (Value.int .i64) = ints (rotK (sgl ns) us n []) := by
        conv => lhs; rw [rotK_zero HG.out]
        simp [ints]
      have := hOQ.out
      rw [h1] at this; exact this
    have HR0 := Lib.hid hOR
    have HW0 : Hid (wc.ownsRow wc.heap.size 3 1 (.slice none 0 0) (Rot.run (sgl ns) (rot us) a 0).2.length (ints (Rot.run (sgl ns) (rot us) a 0).2)) := Lib.hid (World.ownsRow_nil _ _ _ _)
    have HX3 := Lib.hid (HX1.out.below HB3.out (Nat.le_refl _))
    have hgb := HU1.out.lt
    go_wp2
    clear hOR hOQ hep HES
    go_loopw [13, 41] (fun out i wr => ∃ (j v : Nat) (l : List Nat), j ≤ k ∧ i = .int .i64 j ∧ v < n ∧ Hid (Rot.run (sgl ns) (rot us) a j = (v, l)) ∧ Hid (Blk wr g [.int .i64 (v : Nat), .slice (some ⟨q, 0, none⟩) n cap] 27) ∧ Hid (wr.ownsRow w3.heap.size 3 1 (.slice (some ⟨q, 0, none⟩) n cap) n (ints (rotK (sgl ns) us n l))) ∧ Hid (wr.ownsRow wc.heap.size 3 1 out l.length (ints l)) ∧ Hid (l.length = j) ∧ Hid (Below w3.heap.size w3 wr) ∧ Hid (wc.heap.size ≤ wr.heap.size)) (fun _ i _ => k - (intOf i).toNat)
    case atStart => exact ⟨0, a, [], Nat.zero_le _, rfl, HG.out.at_lt, Lib.hid rfl, hBX, HR0, HW0, Lib.hid rfl, hBW, Lib.hid (Nat.le_refl _)⟩
    case round =>
      clear hBX HR0 HW0 hBW
      obtain ⟨j, v, l, hj, rfl, hv, hrun, hBX, hOQ, hOW, hlj, hBW, hZ⟩ := hrel
      by_cases hjk : j < k
      · obtain ⟨x, e, z1, z2, hv1, hx, h2, he, hxl, h3, hz, hz2n, hrun2, hrot⟩ := run_step n12 HG.out HRG.out hrun.out hv
        have hb3r : Below w3.heap.size w3 wr := hBW.out
        have hlo : v < (outs n (sgl ns)).length := by rw [outs, outsAt_len]; exact hv
        have hor := outs_rot n (sgl ns) v hlo
        obtain ⟨rv2, r03, hrow⟩ := HRW3.out.row v hlo
        have r0 := (World.cell?_of_block (w := w3) (w' := wr) (a := ⟨L, v, none⟩) (hb3r.block L HRW3.out.blk.lt)).trans r03
        have hlL := (HRW3.out.below hb3r (Nat.le_refl _)).blk.lt
        rw [hor] at hrow
        obtain ⟨ra, rb, ro, rc, rfl, hri, hrp, hrc, hrm⟩ := hrow.open elemI
        obtain ⟨T, hT⟩ : ∃ T, Rot.outs (sgl ns) v = T := ⟨_, rfl⟩
        simp only [hT] at h2 he hxl hri hrp hrc hrot r0
        obtain ⟨y, hy⟩ : ∃ y, (x + 1) % T.length = y := ⟨_, rfl⟩
        simp only [hy] at h2 he hrot
        have y0 : wr.cell? ⟨rb, ro + y, none⟩ = some (.int .i64 (e : Nat)) := by
          have := hrp.at hb3r (Nat.le_refl _) y h2 0 (.int .i64 (e : Nat)) (by rw [he]; rfl)
          rwa [Nat.mul_one, Nat.add_zero] at this
        have hrl3 := hrp.1 (by omega)
        have hel3 := HEP.out.1 (by omega)
        have hq3 := own_ge hOQ.out q rfl
        have hg3 := hgq.out.1
        have hrl := Nat.lt_of_lt_of_le hrl3 hb3r.size
        have n1' : rb ≠ q := by omega
        have n2' : rb ≠ g := by omega
        have n3' : eb ≠ q := by omega
        have n4' : eb ≠ g := by omega
        have e1 : wr.cell? ⟨eb, eo + e * 2 + 1, none⟩ = some (.int .i64 (z2 : Nat)) := HEP.out.at hb3r (Nat.le_refl _) e h3 1 _ (by rw [hz]; rfl)
        have hel := (HEP.out.below hb3r (Nat.le_refl _)).1 (by omega)
        have b0 := hBX.out.cell 0 _ rfl
        have b1 := hBX.out.cell 1 _ rfl
        have bf := hBX.out.free 0
        have hgl := hBX.out.lt
        have hql := (hOQ.out.lt q rfl).2
        have c0 : wr.cell? ⟨q, v, none⟩ = some (.int .i64 (x : Nat)) := by
          have := hOQ.out.cells (g := q) rfl v (.int .i64 (x : Nat)) (by rw [ints_at _ _ hv1, hx])
          rwa [addr0] at this
        have cf : wr.frozen? ⟨q, v, none⟩ = false := hOQ.out.frozenAt v
        have v0 : (0 : Int) ≤ (v : Int) := by omega
        have v1 : (v : Int) < (n : Int) := by omega
        have y1 : (0 : Int) ≤ (y : Int) := by omega
        have y2 : (y : Int) < (T.length : Int) := by omega
        have i1' : (e : Int) < ((sgl ns).length : Int) := by omega
        have hTne : ¬ (T.length : Int) = 0 := by omega
        have hmod : Int.tmod ((x : Int) + 1) (T.length : Int) = (y : Int) := by
          rw [← hy]; rw [show (x : Int) + 1 = ((x + 1 : Nat) : Int) by simp]; rfl
        have hTl : T.length ≤ (sgl ns).length := by
          rw [← hT]; unfold Rot.outs; exact Nat.le_trans (List.length_filter_le _ _) (by simp)
        have hgq1 := hgq.out.2
        have hgq2 : q ≠ g := fun e => hgq1 e.symm
        have HRUN2 := Lib.hid hrun2; have HROT := Lib.hid hrot
        obtain ⟨oa, oc, rfl⟩ := own_formK hOW.out
        have HLJ := Lib.hid hlj.out
        have hX : ∃ X, (wr.setCell ⟨q, v, none⟩ (.int .i64 (y : Nat))).drew.drew = X := ⟨_, rfl⟩
        obtain ⟨X, hX⟩ := hX
        have hXS : X.heap.size = wr.heap.size := by rw [← hX]; show (wr.setCell ⟨q, v, none⟩ (.int .i64 (y : Nat))).heap.size = _; simp
        have HXS := Lib.hid hXS
        have XB := Lib.hid (show Blk X g [.int .i64 (v : Nat), .slice (some ⟨q, 0, none⟩) n cap] 27 by rw [← hX]; exact hBX.out.setCell hgq1 _)
        have XQ := Lib.hid (show X.ownsRow w3.heap.size 3 1 (.slice (some ⟨q, 0, none⟩) n cap) n (ints (rotK (sgl ns) us n (l ++ [e]))) by rw [← hX, HROT.out, ← ints_set]; exact (hOQ.out.stored v _).1)
        have XW := Lib.hid (show X.ownsRow wc.heap.size 3 1 (.slice oa l.length oc) l.length (ints l) by rw [← hX]; exact own_otherK hOW.out (fun e => by have := own_ge hOW.out _ e; have := HQL.out.2; omega))
        have X3 := Lib.hid (show Below w3.heap.size w3 X by rw [← hX]; exact (hBW.out.setCell (p := ⟨q, v, none⟩) hq3 _).drew.drew)
        have XC := Lib.hid (show wc.heap.size ≤ X.heap.size by rw [hXS]; exact hZ.out)
        have HKP := Lib.hid (fun (w5 : World) (r : Option Nat) (hr : ∀ t, r = some t → wc.heap.size ≤ t) (hg : (X.alloc (.cells (i1 e).toArray 3)).grownBy w5 r) (t : Nat) (ht : t < wc.heap.size) =>
          ((hg.block t (by rw [World.size_alloc]; have := XC.out; omega) (fun e => by have := hr _ e.symm; omega)).trans (Below.heap_alloc X _ t (by have := XC.out; omega)) : w5.heap[t]? = X.heap[t]?))
        have HOWN := Lib.hid (fun t (e : (Value.slice oa l.length oc).ownBlock = some t) => own_ge hOW.out t e)
        have HQA : Hid (∃ (h : v < (rotK (sgl ns) us n (l ++ [e])).length), (rotK (sgl ns) us n (l ++ [e]))[v] = y) := Lib.hid ⟨by rw [rotK_len]; exact hv, by simp only [HROT.out]; rw [List.getElem_set_self]⟩
        have hlb : (l.length + 1) * 8 ≤ 140737488355328 := by have := hlj.out; omega
        have hlb2 : l.length + 1 ≤ maxLen := by have := hlj.out; unfold maxLen; omega
        have HXX := Lib.hid hX
        have HHP := Lib.hid hrp; have HHE := Lib.hid (show (T)[y]'h2 = e from he); have HZZ := Lib.hid (show (sgl ns)[e]'h3 = (z1, z2) from hz)
        clear hx he hz hrun2 hrot hy hT hor hrow hb3r hXS hX
        go_wp2_with fail
        go_region
        go_wp2_with fail
        go_region
        rw [HXX.out]
        obtain ⟨hqa1, hqa2⟩ := HQA.out
        have HFX := Lib.hid (fun (w5 : World) (h1 : ∀ t, t < wc.heap.size → w5.heap[t]? = X.heap[t]?) => (⟨(World.cell?_of_block (a := ⟨g, 0, none⟩) (h1 g HGL.out)).trans (XB.out.cell 0 _ rfl), (World.cell?_of_block (a := ⟨g, 1, none⟩) (h1 g HGL.out)).trans (XB.out.cell 1 _ rfl), (World.frozen?_of_block (a := ⟨g, 0, none⟩) (h1 g HGL.out)).trans (XB.out.free 0),
            (by
              have := XQ.out.cells (g := q) rfl v (.int .i64 (y : Nat)) (by rw [ints_at _ _ hqa1, hqa2])
              rw [addr0] at this
              exact (World.cell?_of_block (a := ⟨q, v, none⟩) (h1 q HQL.out.2)).trans this),
            (by
              have h2 := HHP.out.at X3.out (Nat.le_refl _) y h2 0 (.int .i64 (e : Nat)) (by rw [HHE.out]; rfl)
              rw [Nat.mul_one, Nat.add_zero] at h2
              exact (World.cell?_of_block (a := ⟨rb, ro + y, none⟩) (h1 rb (Nat.lt_of_lt_of_le hrl3 HZC.out))).trans h2),
            (by
              have h2 := HEP.out.at X3.out (Nat.le_refl _) e h3 1 (.int .i64 (z2 : Nat)) (by rw [HZZ.out]; rfl)
              exact (World.cell?_of_block (a := ⟨eb, eo + e * 2 + 1, none⟩) (h1 eb (Nat.lt_of_lt_of_le hel3 HZC.out))).trans h2)⟩ :
          w5.cell? ⟨g, 0, none⟩ = some (.int .i64 (v : Nat)) ∧ w5.cell? ⟨g, 1, none⟩ = some (.slice (some ⟨q, 0, none⟩) n cap) ∧ w5.frozen? ⟨g, 0, none⟩ = false ∧ w5.cell? ⟨q, v, none⟩ = some (.int .i64 (y : Nat)) ∧ w5.cell? ⟨rb, ro + y, none⟩ = some (.int .i64 (e : Nat)) ∧ w5.cell? ⟨eb, eo + e * 2 + 1, none⟩ = some (.int .i64 (z2 : Nat))))
        clear b0 b1 bf c0 cf y0 e1 r0 hgl hql hrl hel hlL r03 hqa1 hqa2
        obtain ⟨d0, d1, d2, d3, d4, d5⟩ := HFX.out X (fun _ _ => rfl)
        have HGX := Lib.hid (Nat.lt_of_lt_of_le HGL.out XC.out)
        have hgx := HGX.out
        have hqx := Nat.lt_of_lt_of_le HQL.out.2 XC.out
        have hrx := Nat.lt_of_lt_of_le hrl3 (Nat.le_trans HZC.out XC.out)
        have hex := Nat.lt_of_lt_of_le hel3 (Nat.le_trans HZC.out XC.out)
        go_wp2_with (at_builtin; go_loud (refine appMG (w0 := X) (m := 1) (news := i1 e) (B := w3.heap.size) (W := w3) (base := wc.heap.size) elemI rfl (.tmp 63) (.tmp 72) rfl (by rfl) (by rfl) XW.out X3.out HZC.out XC.out rfl (by intro u hu; simp [i1] at hu; subst hu; rfl) hlb hlb2 ?_); intro v' w5 hown' hb' hg' hat'; obtain ⟨va, vc, rfl⟩ := own_formK hown'; have HO5 := Lib.hid hown'; have HB5 := Lib.hid hb'; have HG5 := Lib.hid hg'; clear hown' hb' hg' hat' d0 d1 d2 d3 d4 d5 hgx hqx hrx hex; obtain ⟨d0, d1, d2, d3, d4, d5⟩ := HFX.out w5 (HKP.out w5 _ HOWN.out HG5.out); have hsz5 := HG5.out.size; rw [World.size_alloc] at hsz5; have hgx := Nat.lt_of_lt_of_le HGX.out (Nat.le_trans (Nat.le_succ _) hsz5))
        have kp := HKP.out w5 _ HOWN.out HG5.out
        have t1 : Blk (w5.setCell ⟨g, 0, none⟩ (.int .i64 (z2 : Nat))) g [.int .i64 (z2 : Nat), .slice (some ⟨q, 0, none⟩) n cap] 27 := (show Blk w5 g _ _ from (kp g HGL.out).trans XB.out).set 0 _
        have t2 : (w5.setCell ⟨g, 0, none⟩ (.int .i64 (z2 : Nat))).ownsRow w3.heap.size 3 1 (.slice (some ⟨q, 0, none⟩) n cap) n (ints (rotK (sgl ns) us n (l ++ [e]))) :=
          own_otherK (own_keepG (XQ.out.alloc (.cells (i1 e).toArray 3)) HG5.out (fun t e1 e2 => by have h1 := HOWN.out t e2; have h2 := HQL.out.2; simp [Value.ownBlock] at e1; omega)) (fun e => by simp [Value.ownBlock] at e; exact hgq2 e)
        have t3 : (w5.setCell ⟨g, 0, none⟩ (.int .i64 (z2 : Nat))).ownsRow wc.heap.size 3 1 (.slice va (l.length + 1) vc) (l ++ [e]).length (ints (l ++ [e])) := by
          rw [show (l ++ [e]).length = l.length + 1 by simp, show ints (l ++ [e]) = ints l ++ i1 e by simp [ints, i1]]
          exact own_otherK HO5.out (fun e => by have h1 := own_ge HO5.out _ e; have := HGL.out; omega)
        have t4 := HB5.out.setCell (p := ⟨g, 0, none⟩) hg3 (.int .i64 (z2 : Nat))
        have t5 : wc.heap.size ≤ (w5.setCell ⟨g, 0, none⟩ (.int .i64 (z2 : Nat))).heap.size := by
          have := XC.out
          simp; omega
        go_roundw
        case rel => exact ⟨j + 1, z2, l ++ [e], by omega, by go_num, hz2n, HRUN2, Lib.hid t1, Lib.hid t2, Lib.hid t3, Lib.hid (by simp [HLJ.out]), Lib.hid t4, Lib.hid t5⟩
        case measure => simp [intOf]; omega
      · obtain rfl : k = j := by omega
        have hb3r : Below w3.heap.size w3 wr := hBW.out
        have HXr := HX3.out.below hb3r (Nat.le_refl _)
        have b0 := hBX.out.cell 0 _ rfl
        have b1 := hBX.out.cell 1 _ rfl
        have x0 := HXr.cell 0 _ rfl
        have x1 := HXr.cell 1 _ rfl
        have xf0 := HXr.free 0
        have xf1 := HXr.free 1
        have hgl := hBX.out.lt
        have hxl := HXr.lt
        obtain ⟨oa, oc, rfl⟩ := own_formK hOW.out
        have HXR := Lib.hid HXr
        have HRU := Lib.hid hrun.out; have HOQ := Lib.hid hOQ.out; have HOW := Lib.hid hOW.out; have HLJ := Lib.hid hlj.out
        have HB9 := Lib.hid (HQT.out.trans (hb3r.mono HQT.out.size))
        have hsz := hBW.out.size
        have HX3l := Lib.hid HX3.out.lt
        clear hBX HXr hOQ hOW hlj hrun hBW hb3r
        go_wp2
        have HR4 := (HXR.out.set 0 (.int .i64 (v : Nat))).set 1 (.slice (some ⟨q, 0, none⟩) n cap)
        have t1 := own_baseK (own_otherK (g := w.heap.size + 1 + 1) (j := 1) (u := .slice (some ⟨q, 0, none⟩) n cap) (own_otherK (g := w.heap.size + 1 + 1) (j := 0) (u := .int .i64 (v : Nat)) HOQ.out (fun e => by have h1 := own_ge HOQ.out _ e; have := HX3l.out; omega)) (fun e => by have h1 := own_ge HOQ.out _ e; have := HX3l.out; omega)) (show w.heap.size ≤ w3.heap.size from HQT.out.size)
        have t2 := own_baseK (own_otherK (g := w.heap.size + 1 + 1) (j := 1) (u := .slice (some ⟨q, 0, none⟩) n cap) (own_otherK (g := w.heap.size + 1 + 1) (j := 0) (u := .int .i64 (v : Nat)) HOW.out (fun e => by have h1 := own_ge HOW.out _ e; have := HX3l.out; have := HZC.out; omega)) (fun e => by have h1 := own_ge HOW.out _ e; have := HX3l.out; have := HZC.out; omega)) (show w.heap.size ≤ wc.heap.size from Nat.le_trans HQT.out.size HZC.out)
        have t3 := (HB9.out.setCell (p := ⟨w.heap.size + 1 + 1, 0, none⟩) (by simp; omega) (.int .i64 (v : Nat))).setCell (p := ⟨w.heap.size + 1 + 1, 1, none⟩) (by simp; omega) (.slice (some ⟨q, 0, none⟩) n cap)
        obtain ⟨w9, hw9⟩ : ∃ w9, (wr.setCell ⟨w.heap.size + 1 + 1, 0, none⟩ (.int .i64 (v : Nat))).setCell ⟨w.heap.size + 1 + 1, 1, none⟩ (.slice (some ⟨q, 0, none⟩) n cap) = w9 := ⟨_, rfl⟩
        rw [hw9] at HR4 t1 t2 t3 ⊢
        have z0 := HR4.cell 0 _ rfl
        have z1 := HR4.cell 1 _ rfl
        have HRR := HRU.out
        exact bodyPost_ret (v := .tuple #[.agg #[.int .i64 (v : Nat), .slice (some ⟨q, 0, none⟩) n cap], .slice oa l.length oc, .int .i64 0]) (by simp [results, Try.results10, go_sem, z0, z1]) rfl ⟨_, rfl, q, cap, _, by rw [HRR], by rw [HRR]; exact t1, by rw [HRR]; exact t2, t3⟩
end Go.Proofs.Ytajldhonffoopaa

namespace Go.Proofs.Ytajldhonffoopaa
open Go.RowKit
set_option maxRecDepth 100000

set_option maxHeartbeats 2000000 in
theorem EEnds_ok (w : World) (n : Nat) (v : Value) (ns : List (Nat × Nat × Nat)) (hR : RD n ns) (hv : SlK e3 3 w v (ns.map n3)) (hl : ns.length ≤ 1000) :
    Calls Try.prog 11 #[.agg #[.int .i64 (n : Nat), v]] w (Rets fun r w' => ∃ u, r = .tuple #[u, .int .i64 0] ∧ w'.ownsRow w.heap.size 46 2 u (sgl ns).length ((sgl ns).flatMap p2) ∧ Below w.heap.size w w') := by
  obtain ⟨ad, c, rfl⟩ := hv.form
  have hnl : (ns.map n3).length = ns.length := List.length_map _
  rw [hnl] at hv ⊢
  have HR := Lib.hid hR; have HV := Lib.hid hv
  have HM := Lib.hid (show ∀ x ∈ ns, x.2.2 ≤ 50 from fun x hx => (hR.rng x hx).2.2.2)
  have HL := Lib.hid (show ns.length ≤ 100000 by omega)
  obtain ⟨W, hW⟩ : ∃ W, w.alloc (.cells #[.int .i64 (n : Nat), .slice ad ns.length c] 33) = W := ⟨_, rfl⟩
  have HD := Lib.hid (show Blk W w.heap.size [.int .i64 (n : Nat), .slice ad ns.length c] 33 by rw [← hW]; exact Blk.new w _ _)
  have HQ := Lib.hid (show Below w.heap.size w W by rw [← hW]; exact (Below.refl _ w).alloc (Nat.le_refl _) _)
  have HVW := Lib.hid (HV.out.below HQ.out (Nat.le_refl _))
  have HW := Lib.hid hW
  clear hW hv hR hnl
  go_enter Try.func11, Try.ntmps11
  go_wp2_with (first
    | (go_at_call 21; rw [HW.out]; (with_reducible refine (NCheck_ok W n _ ns HR.out HVW.out).mono ?_); rintro e w1 ⟨v, rfl, rfl, hb⟩; have HB1 := Lib.hid hb; clear hb; have g0 := (HD.out.below HB1.out (Nat.le_refl _)).cell 0 _ rfl; have g1 := (HD.out.below HB1.out (Nat.le_refl _)).cell 1 _ rfl; have hlg := (HD.out.below HB1.out (Nat.le_refl _)).lt)
    | (go_at_call 23; (with_reducible refine (arcs_ok w1 n _ ns (HVW.out.below HB1.out (Nat.le_refl _)) HM.out HL.out).mono ?_); rintro e w3 ⟨v, rfl, hO, hb3⟩; obtain ⟨ea, ec, rfl⟩ := own_formK hO; have HE := Lib.hid hO; have HB3 := Lib.hid (HB1.out.trans (hb3.mono HB1.out.size)); have HZ3 := Lib.hid (Nat.le_trans HQ.out.size HB1.out.size); clear hO hb3))
  go_ret2
  exact ⟨_, rfl, _, rfl, own_baseK HE.out HZ3.out, HQ.out.trans (HB3.out.mono HQ.out.size)⟩

set_option maxHeartbeats 2000000 in
theorem SameInts_same (w : World) (v u : Value) (xs : List Int) (hv : SlK iz 1 w v xs) (hu : SlK iz 1 w u xs) :
    Calls Try.prog 29 #[v, u] w (Rets fun r w' => r = .bool true ∧ Below w.heap.size w w') := by
  obtain ⟨a, b, o, c, rfl, hi, hp, hc, hm⟩ := hv.open elemI
  obtain ⟨a', b', o', c', rfl, hi', hp', hc', hm'⟩ := hu.open elemI
  clear hv hu
  unfold maxLen at hm hm'
  have hle : ((xs.length : Int) == (xs.length : Int)) = true := by simp
  go_enter Try.func29, Try.ntmps29
  go_wp2
  go_loopw [5] (fun i wr => ∃ k : Nat, k ≤ xs.length ∧ i = .int .i64 k ∧ Below w.heap.size w wr) (fun i _ => xs.length - (intOf i).toNat)
  case atStart => exact ⟨0, Nat.zero_le _, rfl, Below.refl _ _⟩
  case round =>
    obtain ⟨k, hk, rfl, hb⟩ := hrel
    by_cases hkn : k < xs.length
    · have h1 : wr.cell? ⟨b, o + k, none⟩ = some (.int .i64 xs[k]) := by
        have := hp.at hb (Nat.le_refl _) k hkn 0 _ rfl
        rwa [Nat.mul_one, Nat.add_zero] at this
      have h2 : wr.cell? ⟨b', o' + k, none⟩ = some (.int .i64 xs[k]) := by
        have := hp'.at hb (Nat.le_refl _) k hkn 0 _ rfl
        rwa [Nat.mul_one, Nat.add_zero] at this
      have q1 : (0 : Int) ≤ (k : Int) := by omega
      have q2 : (k : Int) < (xs.length : Int) := by omega
      obtain ⟨x, hx⟩ : ∃ x, xs[k] = x := ⟨_, rfl⟩
      rw [hx] at h1 h2
      have e1 : (x == x) = true := by simp
      clear hx
      go_wp2_with fail
      go_quiet (fail)
      have b3 := below_drewN hb nq
      go_wp2
      go_roundw
      case rel => exact ⟨k + 1, by omega, by go_num, b3⟩
      case measure => simp [intOf]; omega
    · obtain rfl : k = xs.length := by omega
      go_wp2
      go_ret
      exact ⟨_, rfl, rfl, hb⟩

set_option maxHeartbeats 2000000 in
theorem Same_same (w : World) (x : Int) (v u : Value) (xs : List Int) (hv : SlK iz 1 w v xs) (hu : SlK iz 1 w u xs) :
    Calls Try.prog 12 #[.agg #[.int .i64 x, v], .agg #[.int .i64 x, u]] w (Rets fun r w' => r = .bool true ∧ Below w.heap.size w w') := by
  obtain ⟨a, c, hvf⟩ := hv.form
  obtain ⟨a', c', huf⟩ := hu.form
  have hb : Below w.heap.size w ((w.alloc (.cells #[.int .i64 x, v] 44)).alloc (.cells #[.int .i64 x, u] 44)) := ((Below.refl _ w).alloc (Nat.le_refl _) _).alloc (by simp) _
  have HB := Lib.hid hb
  have HC := Lib.hid (SameInts_same _ v u xs (hv.below hb (Nat.le_refl _)) (hu.below hb (Nat.le_refl _)))
  subst hvf huf
  have e1 : (x == x) = true := by simp
  clear hb hv hu
  go_enter Try.func12, Try.ntmps12
  go_wp2_with (go_at_call 29; (with_reducible refine HC.out.mono ?_); rintro e w1 ⟨v, rfl, rfl, hb⟩)
  go_ret
  exact ⟨_, rfl, rfl, HB.out.trans (hb.mono HB.out.size)⟩
end Go.Proofs.Ytajldhonffoopaa

namespace Go.Proofs.Ytajldhonffoopaa
open Go.RowKit
set_option maxRecDepth 100000

/-- The number of single edges between two vertices. -/
def isB (a b : Nat) (x : Nat × Nat × Nat) : Bool := decide (x.1 = min a b ∧ x.2.1 = max a b)
def btw (a b : Nat) : List (Nat × Nat × Nat) → Nat
  | [] => 0
  | x :: l => if isB a b x then x.2.2 else btw a b l
theorem btw_drop (a b : Nat) (ns : List (Nat × Nat × Nat)) (k : Nat) (h : k < ns.length) : btw a b (ns.drop k) = if isB a b ns[k] then ns[k].2.2 else btw a b (ns.drop (k + 1)) := by
  rw [List.drop_eq_getElem_cons h]; rfl
theorem btw_le (a b : Nat) : ∀ ns : List (Nat × Nat × Nat), (∀ x ∈ ns, x.2.2 ≤ 50) → btw a b ns ≤ 50
  | [], _ => by simp [btw]
  | x :: l, h => by
    unfold btw
    split
    · exact h x (by simp)
    · exact btw_le a b l fun y hy => h y (by simp [hy])

set_option maxHeartbeats 2000000 in
theorem Between_any (w : World) (n : Int) (v : Value) (ns : List (Nat × Nat × Nat)) (a b : Nat) (hv : SlK e3 3 w v (ns.map n3)) :
    Calls Try.prog 31 #[.agg #[.int .i64 n, v], .int .i64 (a : Nat), .int .i64 (b : Nat)] w (Rets fun r w' => r = .int .i64 (btw a b ns : Nat) ∧ Below w.heap.size w w') := by
  obtain ⟨ad, bb, o, c, rfl, hi, hp, hc, hcm⟩ := hv.open elemEdge
  have hnl : (ns.map n3).length = ns.length := List.length_map _
  rw [hnl] at hi hc ⊢
  unfold maxLen at hcm
  have HNL := Lib.hid hnl
  have HQ := Lib.hid ((Below.refl w.heap.size w).alloc (Nat.le_refl _) (.cells #[.int .i64 n, .slice ad ns.length c] 24))
  have HG := Lib.hid (Blk.new w [.int .i64 n, .slice ad ns.length c] 24)
  obtain ⟨W, hW⟩ : ∃ W, w.alloc (.cells #[.int .i64 n, .slice ad ns.length c] 24) = W := ⟨_, rfl⟩
  rw [show [Value.int .i64 n, .slice ad ns.length c].toArray = #[Value.int .i64 n, .slice ad ns.length c] from rfl, hW] at HG
  rw [hW] at HQ
  have HW := Lib.hid hW
  clear hW hv hnl
  go_enter Try.func31, Try.ntmps31
  go_wp2
  rw [HW.out]
  go_loopw [7] (fun i wr => ∃ k : Nat, k ≤ ns.length ∧ i = .int .i64 k ∧ Hid (btw a b ns = btw a b (ns.drop k)) ∧ Hid (Below W.heap.size W wr)) (fun i _ => ns.length - (intOf i).toNat)
  case atStart => exact ⟨0, Nat.zero_le _, rfl, Lib.hid rfl, Lib.hid (Below.refl _ _)⟩
  case round =>
    obtain ⟨k, hk, rfl, hX, hB⟩ := hrel
    have hGr := HG.out.below hB.out (Nat.le_refl _)
    have g1 := hGr.cell 1 _ rfl
    have hlg := hGr.lt
    have hqw := HQ.out.trans (hB.out.mono HQ.out.size)
    have HQW := Lib.hid hqw
    clear hGr
    by_cases hkn : k < ns.length
    · have hkm : k < (ns.map n3).length := by rw [HNL.out]; exact hkn
      have hD := btw_drop a b ns k hkn
      obtain ⟨⟨p, q, m⟩, hx⟩ : ∃ x, ns[k] = x := ⟨_, rfl⟩
      have hx3 : (ns.map n3)[k] = n3 (p, q, m) := by rw [List.getElem_map, hx]
      have a0 : wr.cell? ⟨bb, o + k * 3, none⟩ = some (.int .i64 (p : Nat)) := hp.at hqw (Nat.le_refl _) k hkm 0 _ (by rw [hx3]; rfl)
      have a1 : wr.cell? ⟨bb, o + k * 3 + 1, none⟩ = some (.int .i64 (q : Nat)) := hp.at hqw (Nat.le_refl _) k hkm 1 _ (by rw [hx3]; rfl)
      have a2 : wr.cell? ⟨bb, o + k * 3 + 2, none⟩ = some (.int .i64 (m : Nat)) := hp.at hqw (Nat.le_refl _) k hkm 2 _ (by rw [hx3]; rfl)
      have hlb := (hp.below hqw (Nat.le_refl _)).1 (by omega)
      have q1 : (0 : Int) ≤ (k : Int) := by omega
      have q2 : (k : Int) < (ns.length : Int) := by omega
      rw [hx] at hD
      have HD := Lib.hid (hX.out.trans hD)
      clear hx hx3 hD hqw hkm
      by_cases h1 : p = min a b
      · have e1 : ((p : Int) == min (a : Int) (b : Int)) = true := by rw [beq_iff_eq]; omega
        by_cases h2 : q = max a b
        · have e2 : ((q : Int) == max (a : Int) (b : Int)) = true := by rw [beq_iff_eq]; omega
          have HF := Lib.hid (show btw a b ns = m by rw [HD.out, if_pos (by simp [isB, h1, h2])])
          clear h1 h2
          go_wp2
          go_ret
          exact ⟨_, rfl, by rw [HF.out]; rfl, HQW.out.alloc HQW.out.size _⟩
        · have e2 : ((q : Int) == max (a : Int) (b : Int)) = false := by rw [beq_eq_false_iff_ne]; omega
          have HF := Lib.hid (show btw a b ns = btw a b (ns.drop (k + 1)) by rw [HD.out, if_neg (by simp [isB, h2])])
          clear h1 h2
          go_wp2
          go_roundw
          case rel => exact ⟨k + 1, by omega, by go_num, HF, Lib.hid (hB.out.alloc hB.out.size _)⟩
          case measure => simp [intOf]; omega
      · have e1 : ((p : Int) == min (a : Int) (b : Int)) = false := by rw [beq_eq_false_iff_ne]; omega
        have HF := Lib.hid (show btw a b ns = btw a b (ns.drop (k + 1)) by rw [HD.out, if_neg (by simp [isB, h1])])
        clear h1
        go_wp2
        go_roundw
        case rel => exact ⟨k + 1, by omega, by go_num, HF, Lib.hid (hB.out.alloc hB.out.size _)⟩
        case measure => simp [intOf]; omega
    · obtain rfl : k = ns.length := by omega
      have HF := Lib.hid (show btw a b ns = 0 by rw [hX.out, List.drop_length]; rfl)
      clear hqw
      go_wp2
      go_ret
      exact ⟨_, rfl, by rw [HF.out]; rfl, HQW.out⟩
end Go.Proofs.Ytajldhonffoopaa

namespace Go.Proofs.Ytajldhonffoopaa
open Go.RowKit
set_option maxRecDepth 100000

/-- The single edges from the first k vertices to another one. -/
def valK (v : Nat) (ns : List (Nat × Nat × Nat)) : Nat → Nat
  | 0 => 0
  | k + 1 => valK v ns k + if k = v then 0 else btw k v ns
def degN (n v : Nat) (ns : List (Nat × Nat × Nat)) : Nat := valK v ns n + 2 * btw v v ns
theorem valK_le (v : Nat) (ns : List (Nat × Nat × Nat)) (h : ∀ x ∈ ns, x.2.2 ≤ 50) : ∀ k, valK v ns k ≤ 50 * k
  | 0 => by simp [valK]
  | k + 1 => by
    have h1 := valK_le v ns h k
    have h2 := btw_le k v ns h
    unfold valK
    split <;> omega

set_option maxHeartbeats 2000000 in
theorem Valence_any (w : World) (n : Nat) (v : Value) (ns : List (Nat × Nat × Nat)) (x : Nat) (hv : SlK e3 3 w v (ns.map n3)) (hm : ∀ x ∈ ns, x.2.2 ≤ 50) (hn : n ≤ 12) :
    Calls Try.prog 30 #[.agg #[.int .i64 (n : Nat), v], .int .i64 (x : Nat)] w (Rets fun r w' => r = .int .i64 (valK x ns n : Nat) ∧ Below w.heap.size w w') := by
  obtain ⟨ad, c, rfl⟩ := hv.form
  have hnl : (ns.map n3).length = ns.length := List.length_map _
  rw [hnl] at hv ⊢
  have HV := Lib.hid hv; have HM := Lib.hid hm
  have HQ := Lib.hid ((Below.refl w.heap.size w).alloc (Nat.le_refl _) (.cells #[.int .i64 (n : Nat), .slice ad ns.length c] 24))
  have HG := Lib.hid (Blk.new w [.int .i64 (n : Nat), .slice ad ns.length c] 24)
  obtain ⟨W, hW⟩ : ∃ W, w.alloc (.cells #[.int .i64 (n : Nat), .slice ad ns.length c] 24) = W := ⟨_, rfl⟩
  rw [show [Value.int .i64 (n : Nat), .slice ad ns.length c].toArray = #[Value.int .i64 (n : Nat), .slice ad ns.length c] from rfl, hW] at HG
  rw [hW] at HQ
  have HW := Lib.hid hW
  clear hW hv hnl hm
  go_enter Try.func30, Try.ntmps30
  go_wp2
  rw [HW.out]
  go_loopw [5, 6] (fun s i wr => ∃ k : Nat, k ≤ n ∧ i = .int .i64 k ∧ s = .int .i64 (valK x ns k : Nat) ∧ Hid (Below W.heap.size W wr)) (fun _ i _ => n - (intOf i).toNat)
  case atStart => exact ⟨0, Nat.zero_le _, rfl, rfl, Lib.hid (Below.refl _ _)⟩
  case round =>
    obtain ⟨k, hk, rfl, rfl, hB⟩ := hrel
    have hGr := HG.out.below hB.out (Nat.le_refl _)
    have g0 := hGr.cell 0 _ rfl
    have g1 := hGr.cell 1 _ rfl
    have hlg := hGr.lt
    have hqw := HQ.out.trans (hB.out.mono HQ.out.size)
    have HQW := Lib.hid hqw
    have HVr := Lib.hid (HV.out.below hqw (Nat.le_refl _))
    have hle := valK_le x ns HM.out k
    have hbt := btw_le k x ns HM.out
    have HST := Lib.hid (show valK x ns (k + 1) = valK x ns k + if k = x then 0 else btw k x ns from rfl)
    obtain ⟨y, hy⟩ : ∃ y, valK x ns k = y := ⟨_, rfl⟩
    rw [hy] at hle HST ⊢
    obtain ⟨z, hz⟩ : ∃ z, btw k x ns = z := ⟨_, rfl⟩
    rw [hz] at hbt HST
    have HY := Lib.hid hy; have HZ := Lib.hid hz
    clear hGr hqw hy hz
    by_cases hkn : k < n
    · by_cases hkx : k = x
      · subst hkx
        have e1 : ((k : Int) == (k : Int)) = true := by simp
        have HS2 := Lib.hid (show valK k ns (k + 1) = y by rw [HST.out, if_pos rfl]; rfl)
        go_wp2
        go_roundw
        case rel => exact ⟨k + 1, by omega, by go_num, by rw [HS2.out], hB⟩
        case measure => simp [intOf]; omega
      · have e1 : ((k : Int) == (x : Int)) = false := by rw [beq_eq_false_iff_ne]; omega
        have HS2 := Lib.hid (show valK x ns (k + 1) = y + z by rw [HST.out, if_neg hkx])
        go_wp2_with (go_at_call 31; (with_reducible refine (Between_any _ n _ ns k x HVr.out).mono ?_); rintro e w2 ⟨v, rfl, rfl, hb2⟩; rw [HZ.out]; have HB2 := Lib.hid (hB.out.trans (hb2.mono hB.out.size)))
        go_roundw
        case rel => exact ⟨k + 1, by omega, by go_num, by rw [HS2.out]; simp, HB2⟩
        case measure => simp [intOf]; omega
    · obtain rfl : n = k := by omega
      go_wp2
      go_ret
      exact ⟨_, rfl, by rw [HY.out]; rfl, HQW.out⟩

set_option maxHeartbeats 2000000 in
theorem Degree_any (w : World) (n : Nat) (v : Value) (ns : List (Nat × Nat × Nat)) (x : Nat) (hv : SlK e3 3 w v (ns.map n3)) (hm : ∀ x ∈ ns, x.2.2 ≤ 50) (hn : n ≤ 12) :
    Calls Try.prog 14 #[.agg #[.int .i64 (n : Nat), v], .int .i64 (x : Nat)] w (Rets fun r w' => r = .int .i64 (degN n x ns : Nat) ∧ Below w.heap.size w w') := by
  obtain ⟨ad, c, rfl⟩ := hv.form
  have hnl : (ns.map n3).length = ns.length := List.length_map _
  rw [hnl] at hv ⊢
  have HV := Lib.hid hv; have HM := Lib.hid hm
  have HQ := Lib.hid ((Below.refl w.heap.size w).alloc (Nat.le_refl _) (.cells #[.int .i64 (n : Nat), .slice ad ns.length c] 24))
  have HG := Lib.hid (Blk.new w [.int .i64 (n : Nat), .slice ad ns.length c] 24)
  obtain ⟨W, hW⟩ : ∃ W, w.alloc (.cells #[.int .i64 (n : Nat), .slice ad ns.length c] 24) = W := ⟨_, rfl⟩
  rw [show [Value.int .i64 (n : Nat), .slice ad ns.length c].toArray = #[Value.int .i64 (n : Nat), .slice ad ns.length c] from rfl, hW] at HG
  rw [hW] at HQ
  have HW := Lib.hid hW
  have hvl := valK_le x ns hm n
  have hbl := btw_le x x ns hm
  obtain ⟨y, hy⟩ : ∃ y, valK x ns n = y := ⟨_, rfl⟩
  obtain ⟨z, hz⟩ : ∃ z, btw x x ns = z := ⟨_, rfl⟩
  have HD := Lib.hid (show degN n x ns = y + 2 * z by unfold degN; rw [hy, hz])
  have HY := Lib.hid hy; have HZ := Lib.hid hz
  rw [hy] at hvl
  rw [hz] at hbl
  clear hW hv hnl hm hy hz
  have HS := Lib.hid (fun (w' : World) (hb : Below W.heap.size W w') => (⟨(HG.out.below hb (Nat.le_refl _)).cell 0 _ rfl, (HG.out.below hb (Nat.le_refl _)).cell 1 _ rfl⟩ : w'.cell? ⟨w.heap.size, 0, none⟩ = some (.int .i64 (n : Nat)) ∧ w'.cell? ⟨w.heap.size, 1, none⟩ = some (.slice ad ns.length c)))
  have HBd := Lib.hid (show Below W.heap.size W W.drew from (Below.refl _ W).drew)
  have HS1 := Lib.hid (HS.out W.drew HBd.out)
  have HVW := Lib.hid (HV.out.below HQ.out (Nat.le_refl _))
  go_enter Try.func14, Try.ntmps14
  go_wp2_with fail
  rw [HW.out]
  go_region_held3 (fun w' => w'.cell? ⟨w.heap.size, 0, none⟩ = some (.int .i64 (n : Nat)) ∧ w'.cell? ⟨w.heap.size, 1, none⟩ = some (.slice ad ns.length c))
    ((first
      | with_reducible exact HS1.out
      | with_reducible assumption))
    ((first
      | (go_at_call 30; (with_reducible refine (Valence_any W.drew n _ ns x (HVW.out.below HBd.out (Nat.le_refl _)) HM.out hn).mono ?_); rintro e w2 ⟨v, rfl, rfl, hb2⟩; rw [HY.out]; have HB2 := Lib.hid (HBd.out.trans (hb2.mono HBd.out.size)); have hs2 := HS.out w2 HB2.out; clear hb2)
      | (go_at_call 31; (with_reducible refine (Between_any w2 n _ ns x x (HVW.out.below HB2.out (Nat.le_refl _))).mono ?_); rintro e w3 ⟨v, rfl, rfl, hb3⟩; rw [HZ.out]; have HB3 := Lib.hid (HB2.out.trans (hb3.mono HB2.out.size)); have hs3 := HS.out w3 HB3.out; clear hb3)))
  all_goals
    go_wp2
    go_ret
    have hw1 : IntKind.i64.wrap (2 * (z : Int)) = 2 * (z : Int) := by rw [IntKind.wrap_i64]; omega
    have hw2 : IntKind.i64.wrap ((y : Int) + 2 * (z : Int)) = ((y + 2 * z : Nat) : Int) := by rw [IntKind.wrap_i64]; omega
    exact ⟨_, rfl, (by rw [HD.out]; show Value.int .i64 (IntKind.i64.wrap ((y : Int) + IntKind.i64.wrap (2 * (z : Int)))) = _; rw [hw1, hw2]), HQ.out.trans (HB3.out.mono HQ.out.size)⟩
end Go.Proofs.Ytajldhonffoopaa

namespace Go.Proofs.Ytajldhonffoopaa
open Go.RowKit

theorem tw_keys {n : Int} {es : List (Int × Int × Int)} {ns : List (Nat × Nat × Nat)} (h : RG n es ns) : (tw ns).Pairwise fun x y => ¬ (x.1 = y.1 ∧ x.2.1 = y.2.1) := by
  unfold tw
  rw [List.pairwise_flatMap]
  refine ⟨fun x hx => ?_, ?_⟩
  · unfold tw1
    split
    · simp
    · rename_i hne
      simp only [List.pairwise_cons, List.mem_singleton, List.not_mem_nil, false_implies, implies_true, List.Pairwise.nil, and_true]
      intro y hy
      subst hy
      simp only; omega
  · refine (List.Pairwise.and_mem.1 h.asc).imp ?_
    rintro x y ⟨hx, hy, hlt⟩ u hu v hv
    have h1 := (h.rng x hx).2.2.2.2
    have h2 := (h.rng y hy).2.2.2.2
    unfold tw1 at hu hv
    split at hu <;> split at hv <;> simp at hu hv
    · subst hu hv; simp only; omega
    · subst hu; rcases hv with rfl | rfl <;> (simp only; omega)
    · subst hv; rcases hu with rfl | rfl <;> (simp only; omega)
    · rcases hu with rfl | rfl <;> rcases hv with rfl | rfl <;> (simp only; omega)
theorem tw_rng {n : Nat} {es : List (Int × Int × Int)} {ns : List (Nat × Nat × Nat)} (h : RG (n : Int) es ns) (hb : ∀ x ∈ ns, x.1 = x.2.1 → 2 * x.2.2 ≤ 50) : ∀ x ∈ tw ns, x.1 < n ∧ x.2.1 < n ∧ 1 ≤ x.2.2 ∧ x.2.2 ≤ 50 := by
  intro x hx
  simp only [tw, List.mem_flatMap] at hx
  obtain ⟨y, hy, hx⟩ := hx
  have h1 := h.rng y hy
  have h2 := hb y hy
  unfold tw1 at hx
  split at hx
  · rename_i he
    have h3 := h2 he
    simp at hx; subst hx; simp only; omega
  · simp at hx; rcases hx with rfl | rfl <;> (simp only; omega)
/-- What TwoWay answers is a right digraph. -/
theorem tw_rd {n : Nat} {es : List (Int × Int × Int)} {ns ys : List (Nat × Nat × Nat)} (h : RG (n : Int) es ns) (hb : ∀ x ∈ ns, x.1 = x.2.1 → 2 * x.2.2 ≤ 50) (hp : ys.Perm (tw ns)) (hs : ys.Pairwise fun x y => ¬ (y.1 < x.1 ∨ (y.1 = x.1 ∧ y.2.1 < x.2.1))) : RD n ys := by
  refine ⟨by have := h.pos; omega, by have := h.le; omega, fun x hx => tw_rng h hb x (hp.mem_iff.1 hx), ?_⟩
  have hk : ys.Pairwise fun x y => ¬ (x.1 = y.1 ∧ x.2.1 = y.2.1) := (hp.pairwise_iff (fun h e => h ⟨e.1.symm, e.2.symm⟩)).2 (tw_keys h)
  refine (hs.and hk).imp ?_
  rintro x y ⟨h1, h2⟩
  omega
end Go.Proofs.Ytajldhonffoopaa
