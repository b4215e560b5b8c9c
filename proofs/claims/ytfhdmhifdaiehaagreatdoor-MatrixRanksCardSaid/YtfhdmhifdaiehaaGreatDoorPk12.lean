/- Plain law: choices of rows and columns as bits of numbers. The walks of the reference's Least, Dim and Rank of matrices. The walks of the reference's Dim and Rank of matrices. -/
import Derived.Test.YtfhdmhifdaiehaaGreatDoorPk6
import Derived.Test.YtfhdmhifdaiehaaGreatDoorPk8
import Derived.Test.YtfhdmhifdaiehaaGreatDoorPk5
import Derived.Laws.Bits64b
import Derived.Laws.ShiftsVar
import Derived.Laws.ShiftsVarLaws
namespace Go.Proofs.YtfhdmhifdaiehaaGreatDoor
set_option maxRecDepth 100000

/-- The i-th bit. -/
def bt (x i : Nat) : Bool := decide (x / 2 ^ i % 2 = 1)
/-- The numbers below m whose bits are set. -/
def bl (m x : Nat) : List Nat := (List.range m).filter (bt x)
/-- How many of the first bits are set. -/
def bc (x i : Nat) : Nat := (bl i x).length
theorem bl_succ (m x : Nat) : bl (m + 1) x = bl m x ++ if bt x m then [m] else [] := by
  unfold bl
  rw [List.range_succ, List.filter_append]
  congr 1
  by_cases h : bt x m <;> simp [h]
theorem bc_succ (x i : Nat) : bc x (i + 1) = bc x i + if bt x i then 1 else 0 := by
  unfold bc; rw [bl_succ, List.length_append]; split <;> rfl
theorem bc_zero (x : Nat) : bc x 0 = 0 := rfl
theorem bc_mono (x : Nat) {i j : Nat} (h : i ≤ j) : bc x i ≤ bc x j := by
  induction h with
  | refl => exact Nat.le_refl _
  | step _ ih => rw [bc_succ]; omega
theorem bc_le (x i : Nat) : bc x i ≤ i := by
  induction i with
  | zero => exact Nat.le_refl _
  | succ i ih => rw [bc_succ]; split <;> omega
theorem bl_at {x i : Nat} : ∀ {m : Nat}, i < m → bt x i = true → (bl m x).getD (bc x i) 0 = i
  | m + 1, hi, hb => by
    rw [bl_succ]
    by_cases e : i = m
    · subst e
      rw [if_pos hb, List.getD_eq_getElem?_getD, List.getElem?_append_right (by unfold bc; exact Nat.le_refl _)]
      simp [bc]
    · have := bl_at (x := x) (i := i) (m := m) (by omega) hb
      have hl : bc x i < (bl m x).length := by
        have h1 := bc_mono x (show i + 1 ≤ m by omega)
        rw [bc_succ, if_pos hb] at h1
        have : (bl m x).length = bc x m := rfl
        omega
      rw [List.getD_eq_getElem?_getD, List.getElem?_append_left hl, ← List.getD_eq_getElem?_getD]
      exact this
theorem bl_lt {m x : Nat} : ∀ a ∈ bl m x, a < m := fun a h => by simpa using (List.mem_filter.1 h).1
theorem bl_asc (m x : Nat) : Asc m (bl m x) := asc_filter m _
theorem bits_of : ∀ (m : Nat) (p : Nat → Bool), ∃ x, x < 2 ^ m ∧ ∀ i, i < m → bt x i = p i
  | 0, p => ⟨0, by simp, fun i h => by omega⟩
  | m + 1, p => by
    obtain ⟨y, hy, h⟩ := bits_of m fun i => p (i + 1)
    refine ⟨2 * y + if p 0 then 1 else 0, by rw [Nat.pow_succ]; split <;> omega, fun i hi => ?_⟩
    cases i with
    | zero =>
      unfold bt
      rw [Nat.pow_zero, Nat.div_one]
      cases hp : p 0 <;> simp <;> omega
    | succ i =>
      rw [← h i (by omega)]
      unfold bt
      have : (2 * y + if p 0 then 1 else 0) / 2 ^ (i + 1) = y / 2 ^ i := by
        rw [Nat.pow_succ, Nat.mul_comm (2 ^ i) 2, ← Nat.div_div_eq_div_mul]
        congr 1
        split <;> omega
      rw [this]
theorem asc_ext : ∀ {l l' : List Nat}, l.Pairwise (· < ·) → l'.Pairwise (· < ·) → (∀ a, a ∈ l ↔ a ∈ l') → l = l'
  | [], [], _, _, _ => rfl
  | [], b :: l', _, _, h => by have := (h b).2 (by simp); simp at this
  | a :: l, [], _, _, h => by have := (h a).1 (by simp); simp at this
  | a :: l, b :: l', h1, h2, h => by
    have a1 : ∀ {c}, c ∈ l → a < c := fun hc => List.rel_of_pairwise_cons h1 hc
    have b1 : ∀ {c}, c ∈ l' → b < c := fun hc => List.rel_of_pairwise_cons h2 hc
    have e : a = b := by
      rcases List.mem_cons.1 ((h a).1 (by simp)) with e | e
      · exact e
      · rcases List.mem_cons.1 ((h b).2 (by simp)) with e2 | e2
        · exact e2.symm
        · have := b1 e; have := a1 e2; omega
    subst e
    congr 1
    refine asc_ext (List.Pairwise.of_cons h1) (List.Pairwise.of_cons h2) fun c => ?_
    have hc := h c
    simp only [List.mem_cons] at hc
    by_cases e : c = a
    · subst e
      exact ⟨fun hm => absurd (a1 hm) (by omega), fun hm => absurd (b1 hm) (by omega)⟩
    · simpa [e] using hc
theorem bits_asc {m : Nat} {R : List Nat} (h : Asc m R) : ∃ x, x < 2 ^ m ∧ bl m x = R := by
  obtain ⟨x, hx, hb⟩ := bits_of m fun i => decide (i ∈ R)
  refine ⟨x, hx, asc_ext (bl_asc m x).1 h.1 fun a => ?_⟩
  unfold bl
  rw [List.mem_filter]
  constructor
  · rintro ⟨h1, h2⟩
    rw [hb a (by simpa using h1)] at h2
    simpa using h2
  · intro ha
    have := h.2 a ha
    exact ⟨by simpa using this, by rw [hb a this]; simpa using ha⟩
/-- The matrix of some rows and columns. -/
def subM (m n x y : Nat) (A : Mat) : Mat := fun a b => A ((bl m x).getD a 0) ((bl n y).getD b 0)
theorem Rk.sub_le {m n k x y : Nat} {A : Mat} (h : Rk m n A k) (hxy : bc x m = bc y n) (hd : det (bc x m) (subM m n x y A) ≠ 0) : bc x m ≤ k := by
  rcases Nat.lt_or_ge k (bc x m) with hl | hl
  · exact absurd (h.none (bc x m) _ _ hl (fun i hi => asc_at (bl_asc m x) i hi) (fun j hj => asc_at (bl_asc n y) j (by rw [hxy] at hj; exact hj))) hd
  · exact hl
theorem Rk.sub_some {m n k : Nat} {A : Mat} (h : Rk m n A k) : ∃ x y, x < 2 ^ m ∧ y < 2 ^ n ∧ bc x m = k ∧ bc y n = k ∧ det k (subM m n x y A) ≠ 0 := by
  obtain ⟨R, C, hR, hC, aR, aC, hd⟩ := h.some
  obtain ⟨x, hx, ex⟩ := bits_asc aR
  obtain ⟨y, hy, ey⟩ := bits_asc aC
  refine ⟨x, y, hx, hy, by unfold bc; rw [ex, hR], by unfold bc; rw [ey, hC], ?_⟩
  unfold subM
  rw [ex, ey]
  exact hd
end Go.Proofs.YtfhdmhifdaiehaaGreatDoor

namespace Go.Proofs.YtfhdmhifdaiehaaGreatDoor
open Go.RowKit
set_option maxRecDepth 100000

theorem bits_and1 (a : Nat) (ha : a < 9223372036854775808) : bits BinOp.and IntKind.i64 (a : Int) 1 = ((a % 2 : Nat) : Int) := by
  have h1 : (BitVec.ofInt 64 (a : Int)).toNat = a := by
    rw [BitVec.ofInt_natCast, BitVec.toNat_ofNat]; exact Nat.mod_eq_of_lt (by omega)
  have h2 : (BitVec.ofInt 64 (1 : Int)).toNat = 1 := by decide
  show IntKind.i64.wrap ((BitVec.ofInt 64 (a : Int) &&& BitVec.ofInt 64 (1 : Int)).toNat : Int) = _
  rw [BitVec.toNat_and, h1, h2, Nat.and_one_is_mod]
  have : a % 2 < 2 := Nat.mod_lt _ (by omega)
  rcases (show a % 2 = 0 ∨ a % 2 = 1 by omega) with h | h <;> rw [h] <;> decide
theorem bt_int (x k : Nat) (hx : x ≤ 65536) : (bits BinOp.and IntKind.i64 ((x : Int) / 2 ^ k) 1 == 1) = decide (x / 2 ^ k % 2 = 1) := by
  have e : (x : Int) / 2 ^ k = ((x / 2 ^ k : Nat) : Int) := by simp
  have h := Nat.div_le_self x (2 ^ k)
  rw [e, bits_and1 _ (by omega)]
  by_cases h1 : x / 2 ^ k % 2 = 1
  · rw [h1]; rfl
  · rw [decide_eq_false h1]; simp; omega
theorem FB.setR {W wr : World} {h : Nat} {R C R' : Int} {v : Value} {os : List ByteArray} (H : FB W h wr R C v os) : FB W h (wr.setCell ⟨h + 1, 0, none⟩ (.int .i64 R')) R' C v os :=
  ⟨H.sz, H.res.setCell (by omega) _, by simpa using H.box.set 0 (.int .i64 R'), own_off H.row (by omega), H.bel.setCell (p := ⟨h + 1, 0, none⟩) (by simp) _⟩
theorem FB.setC {W wr : World} {h : Nat} {R C C' : Int} {v : Value} {os : List ByteArray} (H : FB W h wr R C v os) : FB W h (wr.setCell ⟨h + 1, 1, none⟩ (.int .i64 C')) R C' v os :=
  ⟨H.sz, H.res.setCell (by omega) _, by simpa using H.box.set 1 (.int .i64 C'), own_off H.row (by omega), H.bel.setCell (p := ⟨h + 1, 1, none⟩) (by simp) _⟩
set_option maxHeartbeats 8000000 in
theorem rLeast_any (w : World) (v : Value) (xs : List ByteArray) (r c x y : Nat) (A : Mat) (hv : Sl eS w v xs) (hx : xs = cellsF r c A) (hr : r ≤ 16) (hc : c ≤ 16) (hx16 : x ≤ 65536) (hy16 : y ≤ 65536) :
    Calls Tryz.prog 91 #[.agg #[.int .i64 r, .int .i64 c, v], .int .i64 x, .int .i64 y] w (Rets fun v' w' => ∃ u, v' = .agg #[.int .i64 (bc x r : Nat), .int .i64 (bc y c : Nat), u] ∧ Sl eS w' u (cellsF (bc x r) (bc y c) (subM r c x y A)) ∧ Below w.heap.size w w') := by
  have HV := Lib.hid hv
  have HX := Lib.hid hx
  obtain ⟨ad, cap, rfl⟩ := sl_form hv
  clear hv hx
  obtain ⟨P, hP⟩ : ∃ P, bc x r = P := ⟨_, rfl⟩
  obtain ⟨Q, hQ⟩ : ∃ Q, bc y c = Q := ⟨_, rfl⟩
  obtain ⟨L, hL⟩ : ∃ L, cellsF P Q (subM r c x y A) = L := ⟨_, rfl⟩
  rw [hP, hQ, hL]
  have HPP := Lib.hid hP
  have HQQ := Lib.hid hQ
  have HLQ := Lib.hid hL
  clear hP hQ hL
  go_enter Tryz.func91, Tryz.ntmps91
  go_wp2
  have hF0 := FB.start (w.alloc (.cells #[.int .i64 r, .int .i64 c, .slice ad xs.length cap] 24)) 0 0
  rw [World.size_alloc] at hF0
  have bM := Blk.new w [.int .i64 r, .int .i64 c, .slice ad xs.length cap] 24
  obtain ⟨W0, hW0⟩ : ∃ W0, w.alloc (.cells #[.int .i64 r, .int .i64 c, .slice ad xs.length cap] 24) = W0 := ⟨_, rfl⟩
  have hbW : Below w.heap.size w W0 := by rw [← hW0]; exact (Below.refl _ _).alloc (Nat.le_refl _) _
  have bM : Blk W0 w.heap.size [.int .i64 r, .int .i64 c, .slice ad xs.length cap] 24 := by rw [← hW0]; exact bM
  have HH := Lib.hid (held_box bM (h := w.heap.size + 1) (by omega))
  have HS0 : Hid (w.heap.size + 1 ≤ W0.heap.size) := Lib.hid (by rw [← hW0]; simp)
  have HBW := Lib.hid hbW
  rw [hW0] at hF0 ⊢
  have HF0 := Lib.hid hF0
  clear hF0 bM hbW hW0
  go_loopw [8] (fun i wr => ∃ k : Nat, k ≤ r ∧ i = .int .i64 k ∧ Hid (FB W0 (w.heap.size + 1) wr (bc x k : Nat) 0 (.slice none 0 0) [])) (fun i _ => r - (intOf i).toNat)
  case atStart => exact ⟨0, Nat.zero_le _, rfl, HF0⟩
  case round =>
    clear HF0
    obtain ⟨k, hk, rfl, hB⟩ := hrel
    obtain ⟨-, m0, m1, m2⟩ := HH.out wr ⟨HS0.out, hB.out.bel⟩
    have hle := bc_le x k
    by_cases hkr : k < r
    · have k0 := hB.out.box.cell 0 _ rfl
      have f0 := hB.out.box.free 0
      have hbt0 := bt_int x k hx16
      have hs := bc_succ x k
      obtain ⟨p, hp⟩ : ∃ p, bc x k = p := ⟨_, rfl⟩
      rw [hp] at hB k0 hs hle
      cases hb : bt x k
      · rw [hb] at hs
        have hbt : (bits BinOp.and IntKind.i64 ((x : Int) / 2 ^ k) 1 == 1) = false := hbt0.trans hb
        have HP := Lib.hid (show bc x (k + 1) = p from hs)
        clear hb hs hp hbt0
        go_wp2
        go_roundw
        case rel => exact ⟨k + 1, by omega, by go_num, Lib.hid (by rw [HP.out]; exact hB.out)⟩
        case measure => simp [intOf]; omega
      · rw [hb] at hs
        have hbt : (bits BinOp.and IntKind.i64 ((x : Int) / 2 ^ k) 1 == 1) = true := hbt0.trans hb
        have HP := Lib.hid (show ((bc x (k + 1) : Nat) : Int) = (p : Int) + 1 by rw [hs]; simp)
        clear hb hs hp hbt0
        go_wp2
        go_roundw
        case rel => exact ⟨k + 1, by omega, by go_num, Lib.hid (by rw [HP.out]; exact hB.out.setR)⟩
        case measure => simp [intOf]; omega
    · obtain rfl : k = r := by omega
      have hB0 := Lib.hid (show FB W0 (w.heap.size + 1) wr (P : Nat) 0 (.slice none 0 0) [] by have := hB.out; rwa [HPP.out] at this)
      clear hB
      go_wp2
      go_loopw [9] (fun i wr => ∃ m : Nat, m ≤ c ∧ i = .int .i64 m ∧ Hid (FB W0 (w.heap.size + 1) wr (P : Nat) (bc y m : Nat) (.slice none 0 0) [])) (fun i _ => c - (intOf i).toNat)
      case atStart => exact ⟨0, Nat.zero_le _, rfl, hB0⟩
      case round =>
        clear hB0 m0 m1 m2
        obtain ⟨m, hm, rfl, hB⟩ := hrel
        obtain ⟨-, m0, m1, m2⟩ := HH.out wr ⟨HS0.out, hB.out.bel⟩
        have hle := bc_le y m
        by_cases hmc : m < c
        · have k1 := hB.out.box.cell 1 _ rfl
          have f1 := hB.out.box.free 1
          have hbt0 := bt_int y m hy16
          have hs := bc_succ y m
          obtain ⟨p, hp⟩ : ∃ p, bc y m = p := ⟨_, rfl⟩
          rw [hp] at hB k1 hs hle
          cases hb : bt y m
          · rw [hb] at hs
            have hbt : (bits BinOp.and IntKind.i64 ((y : Int) / 2 ^ m) 1 == 1) = false := hbt0.trans hb
            have HP := Lib.hid (show bc y (m + 1) = p from hs)
            clear hb hs hp hbt0
            go_wp2
            go_roundw
            case rel => exact ⟨m + 1, by omega, by go_num, Lib.hid (by rw [HP.out]; exact hB.out)⟩
            case measure => simp [intOf]; omega
          · rw [hb] at hs
            have hbt : (bits BinOp.and IntKind.i64 ((y : Int) / 2 ^ m) 1 == 1) = true := hbt0.trans hb
            have HP := Lib.hid (show ((bc y (m + 1) : Nat) : Int) = (p : Int) + 1 by rw [hs]; simp)
            clear hb hs hp hbt0
            go_wp2
            go_roundw
            case rel => exact ⟨m + 1, by omega, by go_num, Lib.hid (by rw [HP.out]; exact hB.out.setC)⟩
            case measure => simp [intOf]; omega
        · obtain rfl : m = c := by omega
          have hB0 := Lib.hid (show FB W0 (w.heap.size + 1) wr (P : Nat) (Q : Nat) (.slice none 0 0) [] by have := hB.out; rwa [HQQ.out] at this)
          clear hB
          have hL := HLQ.out
          have HLL := Lib.hid (show L.length = P * Q by rw [← hL, cellsF_len])
          have HLM := Lib.hid (show L.length ≤ 256 by rw [← hL, cellsF_len, ← HPP.out, ← HQQ.out]; exact Nat.mul_le_mul (Nat.le_trans (bc_le x k) hr) (Nat.le_trans (bc_le y m) hc))
          have HLG := Lib.hid (fun a b (ha : a < k) (hb : b < m) (h1 : bt x a = true) (h2 : bt y b = true) => show bc x a * Q + bc y b < L.length ∧ L.take (bc x a * Q + bc y b + 1) = L.take (bc x a * Q + bc y b) ++ [txt (A a b)] by
            have e1 : bc x a < P := by have := bc_mono x (show a + 1 ≤ k by omega); rw [bc_succ, if_pos h1, HPP.out] at this; omega
            have e2 : bc y b < Q := by have := bc_mono y (show b + 1 ≤ m by omega); rw [bc_succ, if_pos h2, HQQ.out] at this; omega
            have hlt : bc x a * Q + bc y b < L.length := by rw [HLL.out]; exact mul_lt e1 e2
            refine ⟨hlt, ?_⟩
            rw [List.take_succ_eq_append_getElem hlt]
            congr 2
            subst hL
            rw [cellsF_get _ e2 hlt]
            unfold subM
            rw [bl_at ha h1, bl_at hb h2])
          clear hL
          go_wp2
          go_loopw [10] (fun i wr => ∃ a : Nat, a ≤ k ∧ i = .int .i64 a ∧ ∃ v, Hid (FB W0 (w.heap.size + 1) wr (P : Nat) (Q : Nat) v (L.take (bc x a * Q)))) (fun i _ => k - (intOf i).toNat)
          case atStart => exact ⟨0, Nat.zero_le _, rfl, _, Lib.hid (by rw [bc_zero, Nat.zero_mul]; exact hB0.out)⟩
          case round =>
            clear hB0 m0 m1 m2
            obtain ⟨a, ha, rfl, v, hB⟩ := hrel
            obtain ⟨WA, rfl⟩ : ∃ W, W = wr := ⟨_, rfl⟩
            obtain ⟨-, m0, m1, m2⟩ := HH.out WA ⟨HS0.out, hB.out.bel⟩
            by_cases hak : a < k
            · go_wp2
              go_loopw [11] (fun j wr => ∃ b : Nat, b ≤ m ∧ j = .int .i64 b ∧ ∃ v, Hid (FB W0 (w.heap.size + 1) wr (P : Nat) (Q : Nat) v (L.take (bc x a * Q + if bt x a = true then bc y b else 0)))) (fun j _ => m - (intOf j).toNat)
              case atStart => exact ⟨0, Nat.zero_le _, rfl, _, Lib.hid (by rw [bc_zero, ite_self, Nat.add_zero]; exact hB.out)⟩
              case round =>
                clear hB m0 m1 m2
                obtain ⟨b, hb, rfl, v, hB⟩ := hrel
                have hU : Up (w.heap.size + 1) W0 wr := ⟨HS0.out, hB.out.bel⟩
                obtain ⟨-, m0, m1, m2⟩ := HH.out wr hU
                by_cases hbm : b < m
                · have t1 := bt_int x a hx16
                  have t2 := bt_int y b hy16
                  cases hi : bt x a
                  · have u1 : (bits BinOp.and IntKind.i64 ((x : Int) / 2 ^ a) 1 == 1) = false := t1.trans hi
                    have HI := Lib.hid hi
                    clear t1 t2 hi
                    go_wp2
                    go_roundw
                    case rel => exact ⟨b + 1, by omega, by go_num, v, Lib.hid (by have := hB.out; rw [HI.out] at this; exact this)⟩
                    case measure => simp [intOf]; omega
                  · have u1 : (bits BinOp.and IntKind.i64 ((x : Int) / 2 ^ a) 1 == 1) = true := t1.trans hi
                    cases hj : bt y b
                    · have u2 : (bits BinOp.and IntKind.i64 ((y : Int) / 2 ^ b) 1 == 1) = false := t2.trans hj
                      have HJ := Lib.hid (show bc y (b + 1) = bc y b by rw [bc_succ, hj]; rfl)
                      have HBI := Lib.hid hi
                      clear t1 t2 hi hj
                      go_wp2
                      go_roundw
                      case rel => exact ⟨b + 1, by omega, by go_num, v, Lib.hid (by rw [HJ.out]; have := hB.out; rw [if_pos HBI.out] at this; exact this)⟩
                      case measure => simp [intOf]; omega
                    · have u2 : (bits BinOp.and IntKind.i64 ((y : Int) / 2 ^ b) 1 == 1) = true := t2.trans hj
                      obtain ⟨hlt9, hNX⟩ := HLG.out a b hak hbm hi hj
                      have HJ := Lib.hid (show bc y (b + 1) = bc y b + 1 by rw [bc_succ, hj]; rfl)
                      have HBI := Lib.hid hi
                      have hB := Lib.hid (show FB W0 (w.heap.size + 1) wr (P : Nat) (Q : Nat) v (L.take (bc x a * Q + bc y b)) by have := hB.out; rwa [if_pos hi] at this)
                      obtain ⟨T, hTT⟩ : ∃ T, L.take (bc x a * Q + bc y b) = T := ⟨_, rfl⟩
                      rw [hTT] at hB hNX
                      have HNX := Lib.hid hNX
                      have HG := Lib.hid (show xs[a * m + b]? = some (txt (A a b)) by rw [HX.out]; exact cellsF_get? A hak hbm)
                      have HL2 := Lib.hid (show xs.length ≤ 256 by rw [HX.out, cellsF_len]; exact Nat.mul_le_mul hr hc)
                      have HTL := Lib.hid (show T.length ≤ 1000000 by rw [← hTT, List.length_take]; have := HLM.out; omega)
                      have HVd := Lib.hid (hU.drew.sl HV.out HBW.out (by omega))
                      have HU := Lib.hid hU
                      have k2 := hB.out.box.cell 2 _ rfl
                      have hlt := hB.out.lt
                      clear t1 t2 hi hj hU hNX hTT hlt9
                      go_wp2_with fail
                      have hSd : wr.drew.cell? ⟨w.heap.size + 1 + 1, 2, none⟩ = some (v) ∧ wr.drew.cell? ⟨w.heap.size, 0, none⟩ = some (.int .i64 k) ∧ wr.drew.cell? ⟨w.heap.size, 1, none⟩ = some (.int .i64 m) ∧ wr.drew.cell? ⟨w.heap.size, 2, none⟩ = some (.slice ad xs.length cap) := ⟨k2, m0, m1, m2⟩
                      refine wp_regionJ (S := fun w' => w'.cell? ⟨w.heap.size + 1 + 1, 2, none⟩ = some (v) ∧ w'.cell? ⟨w.heap.size, 0, none⟩ = some (.int .i64 k) ∧ w'.cell? ⟨w.heap.size, 1, none⟩ = some (.int .i64 m) ∧ w'.cell? ⟨w.heap.size, 2, none⟩ = some (.slice ad xs.length cap)) (A := fun i => decide (i < 9)) (by kernel_rfl) ?_
                      refine wpAnyJ_take (i := 0) (oi := { dst := some 67, op := .fieldAddr _ (.tmp 7) 2, type := _, pos := _, after := _, guard := _ }) (v := ?_) rfl (by kernel_rfl) (by kernel_rfl) (by kernel_rfl) (by kernel_rfl) (fun _ _ _ h => h) (Or.inl ⟨by rfl, ?_⟩) hSd ?_
                      rotate_left
                      · intro wl hSw
                        obtain ⟨s0, s1, s2, s3⟩ := hSw
                        go_simp
                        with_reducible rfl
                      simp only [Act.put, List.setIfInBounds_toArray, List.set_cons_zero, List.set_cons_succ]
                      refine wpAnyJ_take (i := 1) (oi := { dst := some 68, op := .load _ (.tmp 67), type := _, pos := _, after := _, guard := _ }) (v := ?_) rfl (by kernel_rfl) (by kernel_rfl) (by kernel_rfl) (by kernel_rfl) (fun _ _ _ h => h) (Or.inl ⟨by rfl, ?_⟩) hSd ?_
                      rotate_left
                      · intro wl hSw
                        obtain ⟨s0, s1, s2, s3⟩ := hSw
                        go_simp
                        with_reducible rfl
                      simp only [Act.put, List.setIfInBounds_toArray, List.set_cons_zero, List.set_cons_succ]
                      refine wpAnyJ_take (i := 2) (oi := { dst := some 69, op := .load _ (.tmp 3), type := _, pos := _, after := _, guard := _ }) (v := ?_) rfl (by kernel_rfl) (by kernel_rfl) (by kernel_rfl) (by kernel_rfl) (fun _ _ _ h => h) (Or.inl ⟨by rfl, ?_⟩) hSd ?_
                      rotate_left
                      · intro wl hSw
                        obtain ⟨s0, s1, s2, s3⟩ := hSw
                        go_simp
                        with_reducible rfl
                      simp only [Act.put, List.setIfInBounds_toArray, List.set_cons_zero, List.set_cons_succ]
                      refine wpAnyJ_take (i := 3) (oi := { dst := some 70, op := .move (.tmp 10), type := _, pos := _, after := _, guard := _ }) (v := ?_) rfl (by kernel_rfl) (by kernel_rfl) (by kernel_rfl) (by kernel_rfl) (fun _ _ _ h => h) (Or.inl ⟨by rfl, ?_⟩) hSd ?_
                      rotate_left
                      · intro wl hSw
                        obtain ⟨s0, s1, s2, s3⟩ := hSw
                        go_simp
                        with_reducible rfl
                      simp only [Act.put, List.setIfInBounds_toArray, List.set_cons_zero, List.set_cons_succ]
                      refine wpAnyJ_take (i := 4) (oi := { dst := some 71, op := .move (.tmp 11), type := _, pos := _, after := _, guard := _ }) (v := ?_) rfl (by kernel_rfl) (by kernel_rfl) (by kernel_rfl) (by kernel_rfl) (fun _ _ _ h => h) (Or.inl ⟨by rfl, ?_⟩) hSd ?_
                      rotate_left
                      · intro wl hSw
                        obtain ⟨s0, s1, s2, s3⟩ := hSw
                        go_simp
                        with_reducible rfl
                      simp only [Act.put, List.setIfInBounds_toArray, List.set_cons_zero, List.set_cons_succ]
                      refine wpAnyJ_only (i := 5) (o := { dst := some 72, op := _, type := _, pos := _, after := _, guard := _ }) (by kernel_rfl) rfl (fun K hK => ?_)
                      go_simp
                      refine (rMat_any _ (k : Int) (m : Int) _ xs m a b _ HVd.out rfl HL2.out HG.out).mono ?_
                      rintro e w3 ⟨u3, rfl, rfl, hb3⟩
                      have H3 := Lib.hid (hB.out.drew.keep hb3)
                      have hlt3 := H3.out.lt
                      have hU3 := HU.out.drew.call hb3
                      have hS3 := And.intro (H3.out.box.cell 2 _ rfl) (HH.out w3 hU3).2
                      refine hK.out _ _ (fun _ => hS3) ?_
                      try simp only [Act.put, List.setIfInBounds_toArray, List.set_cons_zero, List.set_cons_succ]
                      clear hK K
                      refine wpAnyJ_only (i := 6) (o := { dst := some 73, op := _, type := _, pos := _, after := _, guard := _ }) (by kernel_rfl) rfl (fun K hK => ?_)
                      go_simp
                      refine hK.out _ _ (fun _ => ⟨(H3.out.box.alloc _).cell 2 _ rfl, (HH.out _ (hU3.alloc _)).2⟩) ?_
                      try simp only [Act.put, List.setIfInBounds_toArray, List.set_cons_zero, List.set_cons_succ]
                      clear hK K
                      refine wpAnyJ_only (i := 7) (o := { dst := some 74, op := _, type := _, pos := _, after := _, guard := _ }) (by kernel_rfl) rfl (fun K hK => ?_)
                      refine app1R (news := [_]) elemStr rfl _ _ rfl rfl rfl H3.out.row (Below.refl _ _) (Nat.le_refl _) hlt3 rfl (by simp [Value.oneCell']) (by have := HTL.out; omega) (by unfold maxLen; have := HTL.out; omega) ?_
                      intro v5 w5 ho5 hb5
                      obtain ⟨g6, cap6, rfl⟩ := ownsRow_succ ho5
                      have H5 := Lib.hid (H3.out.push hb5 ho5)
                      have B5 := H3.out.box6 hb5
                      have j2 := B5.cell 2 _ rfl
                      have f2 := B5.free 2
                      have hS5 := And.intro j2 (HH.out w5 (hU3.app hb5 (by omega))).2
                      clear ho5 B5
                      refine hK.out _ _ (fun _ => hS5) ?_
                      try simp only [Act.put, List.setIfInBounds_toArray, List.set_cons_zero, List.set_cons_succ]
                      clear hK K
                      refine wpAnyJ_take (i := 8) (oi := { dst := some 75, op := .fieldAddr _ (.tmp 7) 2, type := _, pos := _, after := _, guard := _ }) (v := ?_) rfl (by kernel_rfl) (by kernel_rfl) (by kernel_rfl) (by kernel_rfl) (fun _ _ _ h => h) (Or.inl ⟨by rfl, ?_⟩) hS5 ?_
                      rotate_left
                      · intro wl hSw
                        obtain ⟨s0, s1, s2, s3⟩ := hSw
                        go_simp
                        with_reducible rfl
                      simp only [Act.put, List.setIfInBounds_toArray, List.set_cons_zero, List.set_cons_succ]
                      refine wpAnyJ_only (i := 9) (o := { dst := none, op := .store _ (.tmp 75) (.tmp 74), type := _, pos := _, after := _, guard := _ }) (by kernel_rfl) rfl (fun K hK => ?_)
                      go_simp
                      refine hK.out _ _ (fun h => absurd h (by decide)) ?_
                      try simp only [Act.put, List.setIfInBounds_toArray, List.set_cons_zero, List.set_cons_succ]
                      clear hK K
                      refine wpAnyJ_done (by kernel_rfl) ?_ _
                      go_wp2_with fail
                      go_roundw
                      case rel => exact ⟨b + 1, by omega, by go_num, _, Lib.hid (by rw [HJ.out, ← Nat.add_assoc, HNX.out]; exact H5.out)⟩
                      case measure => simp [intOf]; omega
                · obtain rfl : b = m := by omega
                  have HE := Lib.hid (show bc x a * Q + (if bt x a = true then bc y b else 0) = bc x (a + 1) * Q by
                    rw [bc_succ, HQQ.out, Nat.add_mul]
                    cases bt x a <;> simp)
                  go_wp2
                  go_roundw
                  case rel => exact ⟨a + 1, by omega, by go_num, v, Lib.hid (by rw [← HE.out]; exact hB.out)⟩
                  case measure => simp [intOf]; omega
            · obtain rfl : a = k := by omega
              have H := Lib.hid (show FB W0 (w.heap.size + 1) WA (P : Nat) (Q : Nat) v L by have := hB.out; rwa [HPP.out, ← HLL.out, List.take_length] at this)
              obtain ⟨va, vc, rfl⟩ := own_form H.out.row
              have k0 := H.out.box.cell 0 _ rfl; have k1 := H.out.box.cell 1 _ rfl; have k2 := H.out.box.cell 2 _ rfl
              have r0 := H.out.res.cell 0 _ rfl; have r1 := H.out.res.cell 1 _ rfl; have r2 := H.out.res.cell 2 _ rfl
              have f0 := H.out.res.free 0; have f1 := H.out.res.free 1; have f2 := H.out.res.free 2
              clear hB
              go_wp2
              obtain ⟨hR, hS, hW⟩ := H.out.done
              have q0 := hR.cell 0 _ rfl; have q1 := hR.cell 1 _ rfl; have q2 := hR.cell 2 _ rfl
              exact bodyPost_ret (v := .agg #[.int .i64 P, .int .i64 Q, .slice va L.length vc]) (by simp [results, Tryz.results91, go_sem, q0, q1, q2]) rfl ⟨_, rfl, _, rfl, hS, HBW.out.trans (hW.mono (Nat.le_trans (Nat.le_succ _) HS0.out))⟩
end Go.Proofs.YtfhdmhifdaiehaaGreatDoor

namespace Go.Proofs.YtfhdmhifdaiehaaGreatDoor
open Go.RowKit
set_option maxRecDepth 100000

theorem subM_dn {m n x y D : Nat} {A : Mat} (h : ∀ i j, i < m → j < n → dn (A i j) ≤ D) {i j : Nat} (hi : i < bc x m) (hj : j < bc y n) : dn (subM m n x y A i j) ≤ D := by
  have get : ∀ (l : List Nat) (i : Nat), i < l.length → l.getD i 0 ∈ l := fun l i h => by
    rw [List.getD_eq_getElem?_getD, List.getElem?_eq_getElem h]; exact List.getElem_mem h
  exact h _ _ (bl_lt _ (get _ _ hi)) (bl_lt _ (get _ _ hj))
/-- What Dim holds when it has tried all choices before the pair x, y. -/
def DI (K x0 y0 x y b : Nat) : Prop := b ≤ K ∧ (x0 < x ∨ (x0 = x ∧ y0 < y) → b = K)
theorem DI.next {K x0 y0 x y b b' : Nat} (h : DI K x0 y0 x y b) (hb : b ≤ b') (hK : b' ≤ K) (h' : x = x0 → y = y0 → b' = K) : DI K x0 y0 x (y + 1) b' :=
  ⟨hK, fun e => by
    rcases e with e | ⟨e, e'⟩
    · have := h.2 (Or.inl e); omega
    · by_cases e2 : y0 < y
      · have := h.2 (Or.inr ⟨e, e2⟩); omega
      · exact h' e.symm (by omega)⟩
theorem DI.row {K x0 y0 x y b : Nat} (h : DI K x0 y0 x y b) (hy : y0 < y) : DI K x0 y0 (x + 1) 0 b :=
  ⟨h.1, fun e => by
    rcases e with e | ⟨_, e'⟩
    · by_cases e2 : x0 < x
      · exact h.2 (Or.inl e2)
      · exact h.2 (Or.inr ⟨by omega, hy⟩)
    · omega⟩
set_option maxHeartbeats 8000000 in
theorem rDim_any (w : World) (v : Value) (xs : List ByteArray) (r c K : Nat) (A : Mat) (hv : Sl eS w v xs) (hx : xs = cellsF r c A) (hr : r ≤ 8) (hc : c ≤ 8) (hd : ∀ i j, i < r → j < c → dn (A i j) ≤ 1000) (hK : Rk r c A K) :
    Calls Tryz.prog 52 #[.agg #[.int .i64 r, .int .i64 c, v]] w (Rets fun v' w' => v' = .int .i64 K ∧ Below w.heap.size w w') := by
  have HV := Lib.hid hv
  have HX := Lib.hid hx
  obtain ⟨ad, cap, rfl⟩ := sl_form hv
  obtain ⟨x0, y0, hx0, hy0, hp0, hq0, hd0⟩ := hK.sub_some
  have h2r : (2 : Nat) ^ r ≤ 256 := Nat.pow_le_pow_right (n := 2) (by omega) hr
  have h2c : (2 : Nat) ^ c ≤ 256 := Nat.pow_le_pow_right (n := 2) (by omega) hc
  have hKr : K ≤ r := by rw [← hp0]; exact bc_le _ _
  obtain ⟨X, hX⟩ : ∃ X, 2 ^ r = X := ⟨_, rfl⟩
  obtain ⟨Y, hY⟩ : ∃ Y, 2 ^ c = Y := ⟨_, rfl⟩
  rw [hX] at hx0 h2r; rw [hY] at hy0 h2c
  have w1 : wrap64 ((2 : Int) ^ r) = (X : Int) := by
    rw [show (2 : Int) ^ r = (X : Int) by rw [← hX]; simp]; unfold wrap64; omega
  have w2 : wrap64 ((2 : Int) ^ c) = (Y : Int) := by
    rw [show (2 : Int) ^ c = (Y : Int) by rw [← hY]; simp]; unfold wrap64; omega
  have W1 := Lib.hid w1; have W2 := Lib.hid w2
  clear w1 w2
  have HD := Lib.hid hd
  have HKK := Lib.hid hK
  have HZ := Lib.hid (And.intro hp0 (And.intro hq0 hd0))
  clear hv hx hd hK hp0 hq0 hd0 hX hY
  go_enter Tryz.func52, Tryz.ntmps52
  go_wp2
  have bM := Blk.new w [.int .i64 r, .int .i64 c, .slice ad xs.length cap] 24
  obtain ⟨W0, hW0⟩ : ∃ W0, w.alloc (.cells #[.int .i64 r, .int .i64 c, .slice ad xs.length cap] 24) = W0 := ⟨_, rfl⟩
  have hbW : Below w.heap.size w W0 := by rw [← hW0]; exact (Below.refl _ _).alloc (Nat.le_refl _) _
  have bM : Blk W0 w.heap.size [.int .i64 r, .int .i64 c, .slice ad xs.length cap] 24 := by rw [← hW0]; exact bM
  have HH := Lib.hid (held_box bM (h := w.heap.size + 1) (by omega))
  have HS0 : Hid (w.heap.size + 1 ≤ W0.heap.size) := Lib.hid (by rw [← hW0]; simp)
  have HBW := Lib.hid hbW
  rw [hW0]
  clear bM hbW hW0
  go_loopw [3, 4] (fun bv xv wr => ∃ x b : Nat, x ≤ X ∧ b ≤ 8 ∧ xv = .int .i64 x ∧ bv = .int .i64 b ∧ Hid (DI K x0 y0 x 0 b) ∧ Hid (Up (w.heap.size + 1) W0 wr)) (fun _ xv _ => X - (intOf xv).toNat)
  case atStart => exact ⟨0, 0, Nat.zero_le _, by omega, rfl, rfl, Lib.hid ⟨Nat.zero_le _, fun e => by omega⟩, Lib.hid ⟨HS0.out, Below.refl _ _⟩⟩
  case round =>
    obtain ⟨x, b, hxX, hb8, rfl, rfl, hI, hU⟩ := hrel
    obtain ⟨-, m0, m1, m2⟩ := HH.out wr hU.out
    by_cases hx : x < X
    · have t1 : decide ((x : Int) < wrap64 ((2 : Int) ^ r)) = true := by rw [W1.out]; simp; omega
      go_wp2
      go_loopw [3, 5] (fun bv yv wr => ∃ y b : Nat, y ≤ Y ∧ b ≤ 8 ∧ yv = .int .i64 y ∧ bv = .int .i64 b ∧ Hid (DI K x0 y0 x y b) ∧ Hid (Up (w.heap.size + 1) W0 wr)) (fun _ yv _ => Y - (intOf yv).toNat)
      case atStart => exact ⟨0, b, Nat.zero_le _, hb8, rfl, rfl, hI, hU⟩
      case round =>
        clear hI hU m0 m1 m2 hb8 t1
        obtain ⟨y, b, hyY, hb8, rfl, rfl, hI, hU⟩ := hrel
        obtain ⟨-, m0, m1, m2⟩ := HH.out wr hU.out
        by_cases hy : y < Y
        · have t2 : decide ((y : Int) < wrap64 ((2 : Int) ^ c)) = true := by rw [W2.out]; simp; omega
          have HVd := Lib.hid (hU.out.sl HV.out HBW.out (by omega))
          have HLE := Lib.hid (rLeast_any wr (.slice ad xs.length cap) xs r c x y A HVd.out HX.out (by omega) (by omega) (by omega) (by omega))
          have hpr := bc_le x r
          have hqc := bc_le y c
          have HN : Hid (bc x r = bc y c → det (bc x r) (subM r c x y A) ≠ 0 → bc x r ≤ K) := Lib.hid (fun e h => HKK.out.sub_le e h)
          have HDD : Hid (∀ i j, i < bc x r → j < bc y c → dn (subM r c x y A i j) ≤ 1000) := Lib.hid (fun i j hi hj => subM_dn HD.out hi hj)
          have HP0 : Hid (x = x0 → y = y0 → bc x r = K ∧ bc y c = K ∧ det K (subM r c x y A) ≠ 0) := Lib.hid (fun e1 e2 => by subst e1 e2; exact HZ.out)
          obtain ⟨p, hp⟩ : ∃ p, bc x r = p := ⟨_, rfl⟩
          obtain ⟨q, hq⟩ : ∃ q, bc y c = q := ⟨_, rfl⟩
          obtain ⟨B, hB⟩ : ∃ B, subM r c x y A = B := ⟨_, rfl⟩
          rw [hp, hq, hB] at HLE HDD HP0
          rw [hp, hq, hB] at HN
          rw [hp] at hpr; rw [hq] at hqc
          obtain ⟨L, hL⟩ : ∃ L, cellsF p q B = L := ⟨_, rfl⟩
          rw [hL] at HLE
          have HLL := Lib.hid hL
          clear hp hq hB hL
          by_cases hpq : p = q
          · subst hpq
            have e1 : ((p : Int) == (p : Int)) = true := by simp
            by_cases hpb : b < p
            · have HDT := Lib.hid (fun (w1 : World) (u : Value) (h1 : Sl eS w1 u L) => rDet_any p w1 u L B h1 HLL.out.symm (by omega) (fun i j hi hj => Nat.le_trans (HDD.out i j hi hj) (by omega)))
              obtain ⟨d, hdd⟩ : ∃ d, det p B = d := ⟨_, rfl⟩
              rw [hdd] at HDT HN
              by_cases hd : d = 0
              · have e2 := txt_z hd
                have HP1 := Lib.hid (show x = x0 → y = y0 → b = K from fun a1 a2 => by
                  obtain ⟨a3, a4, a5⟩ := HP0.out a1 a2
                  subst a3; exact absurd (hdd.trans hd) a5)
                clear hdd hd
                go_wp2_with (first
                  | (go_at_call 91; (with_reducible refine HLE.out.mono ?_); rintro e wl ⟨vl, rfl, u, rfl, hsl, hbl⟩; obtain ⟨al, cl, rfl⟩ := sl_form hsl; have hU1 := hU.out.call hbl; have hU2 := Lib.hid (hU1.alloc (.cells #[.int .i64 p, .int .i64 p, .slice al L.length cl] 24)); obtain ⟨-, m0, m1, m2⟩ := HH.out _ hU2.out; have HKl := Lib.hid (Blk.new wl [.int .i64 p, .int .i64 p, .slice al L.length cl] 24); have l0 := HKl.out.cell 0 _ rfl; have l1 := HKl.out.cell 1 _ rfl; have l2 := HKl.out.cell 2 _ rfl; have HSL := Lib.hid (hsl.below ((Below.refl wl.heap.size wl).alloc (Nat.le_refl _) (.cells #[.int .i64 p, .int .i64 p, .slice al L.length cl] 24)) (Nat.le_refl _)))
                  | (go_at_call 51; (with_reducible refine (HDT.out _ _ HSL.out).mono ?_); rintro e wd ⟨vd, rfl, rfl, hbd⟩; have hU3 := Lib.hid (hU2.out.call hbd); obtain ⟨-, m0, m1, m2⟩ := HH.out _ hU3.out; have HKd := Lib.hid (HKl.out.below hbd (Nat.le_refl _)); have ld0 := HKd.out.cell 0 _ rfl; have ld1 := HKd.out.cell 1 _ rfl; have ld2 := HKd.out.cell 2 _ rfl))
                go_roundw
                case rel => exact ⟨y + 1, b, by omega, hb8, by go_num, rfl, Lib.hid (hI.out.next (Nat.le_refl _) hI.out.1 HP1.out), hU3⟩
                case measure => simp [intOf]; omega
              · have e2 := txt_ne0 hd
                have HP1 := Lib.hid (show p ≤ K ∧ (x = x0 → y = y0 → p = K) from ⟨HN.out rfl hd, fun a1 a2 => (HP0.out a1 a2).1⟩)
                clear hdd hd
                go_wp2_with (first
                  | (go_at_call 91; (with_reducible refine HLE.out.mono ?_); rintro e wl ⟨vl, rfl, u, rfl, hsl, hbl⟩; obtain ⟨al, cl, rfl⟩ := sl_form hsl; have hU1 := hU.out.call hbl; have hU2 := Lib.hid (hU1.alloc (.cells #[.int .i64 p, .int .i64 p, .slice al L.length cl] 24)); obtain ⟨-, m0, m1, m2⟩ := HH.out _ hU2.out; have HKl := Lib.hid (Blk.new wl [.int .i64 p, .int .i64 p, .slice al L.length cl] 24); have l0 := HKl.out.cell 0 _ rfl; have l1 := HKl.out.cell 1 _ rfl; have l2 := HKl.out.cell 2 _ rfl; have HSL := Lib.hid (hsl.below ((Below.refl wl.heap.size wl).alloc (Nat.le_refl _) (.cells #[.int .i64 p, .int .i64 p, .slice al L.length cl] 24)) (Nat.le_refl _)))
                  | (go_at_call 51; (with_reducible refine (HDT.out _ _ HSL.out).mono ?_); rintro e wd ⟨vd, rfl, rfl, hbd⟩; have hU3 := Lib.hid (hU2.out.call hbd); obtain ⟨-, m0, m1, m2⟩ := HH.out _ hU3.out; have HKd := Lib.hid (HKl.out.below hbd (Nat.le_refl _)); have ld0 := HKd.out.cell 0 _ rfl; have ld1 := HKd.out.cell 1 _ rfl; have ld2 := HKd.out.cell 2 _ rfl))
                go_roundw
                case rel => exact ⟨y + 1, p, by omega, by omega, by go_num, rfl, Lib.hid (hI.out.next (by omega) HP1.out.1 HP1.out.2), hU3⟩
                case measure => simp [intOf]; omega
            · have HP1 := Lib.hid (show x = x0 → y = y0 → b = K from fun a1 a2 => by
                have a3 := (HP0.out a1 a2).1
                have := hI.out.1
                omega)
              go_wp2_with (
                  (go_at_call 91; (with_reducible refine HLE.out.mono ?_); rintro e wl ⟨vl, rfl, u, rfl, hsl, hbl⟩; obtain ⟨al, cl, rfl⟩ := sl_form hsl; have hU1 := hU.out.call hbl; have hU2 := Lib.hid (hU1.alloc (.cells #[.int .i64 p, .int .i64 p, .slice al L.length cl] 24)); obtain ⟨-, m0, m1, m2⟩ := HH.out _ hU2.out; have HKl := Lib.hid (Blk.new wl [.int .i64 p, .int .i64 p, .slice al L.length cl] 24); have l0 := HKl.out.cell 0 _ rfl; have l1 := HKl.out.cell 1 _ rfl; have l2 := HKl.out.cell 2 _ rfl; have HSL := Lib.hid (hsl.below ((Below.refl wl.heap.size wl).alloc (Nat.le_refl _) (.cells #[.int .i64 p, .int .i64 p, .slice al L.length cl] 24)) (Nat.le_refl _))))
              go_roundw
              case rel => exact ⟨y + 1, b, by omega, hb8, by go_num, rfl, Lib.hid (hI.out.next (Nat.le_refl _) hI.out.1 HP1.out), hU2⟩
              case measure => simp [intOf]; omega
          · have e1 : ((p : Int) == (q : Int)) = false := by simp; omega
            have HP1 := Lib.hid (show x = x0 → y = y0 → b = K from fun a1 a2 => by
              obtain ⟨a3, a4, -⟩ := HP0.out a1 a2
              omega)
            go_wp2_with (
                  (go_at_call 91; (with_reducible refine HLE.out.mono ?_); rintro e wl ⟨vl, rfl, u, rfl, hsl, hbl⟩; obtain ⟨al, cl, rfl⟩ := sl_form hsl; have hU1 := hU.out.call hbl; have hU2 := Lib.hid (hU1.alloc (.cells #[.int .i64 p, .int .i64 q, .slice al L.length cl] 24)); obtain ⟨-, m0, m1, m2⟩ := HH.out _ hU2.out; have HKl := Lib.hid (Blk.new wl [.int .i64 p, .int .i64 q, .slice al L.length cl] 24); have l0 := HKl.out.cell 0 _ rfl; have l1 := HKl.out.cell 1 _ rfl; have l2 := HKl.out.cell 2 _ rfl; have HSL := Lib.hid (hsl.below ((Below.refl wl.heap.size wl).alloc (Nat.le_refl _) (.cells #[.int .i64 p, .int .i64 q, .slice al L.length cl] 24)) (Nat.le_refl _))))
            go_roundw
            case rel => exact ⟨y + 1, b, by omega, hb8, by go_num, rfl, Lib.hid (hI.out.next (Nat.le_refl _) hI.out.1 HP1.out), hU2⟩
            case measure => simp [intOf]; omega
        · have t2 : decide ((y : Int) < wrap64 ((2 : Int) ^ c)) = false := by rw [W2.out]; simp; omega
          obtain rfl : y = Y := by omega
          go_wp2
          go_roundw
          case rel => exact ⟨x + 1, b, by omega, hb8, by go_num, rfl, Lib.hid (hI.out.row hy0), hU⟩
          case measure => simp [intOf]; omega
    · have t1 : decide ((x : Int) < wrap64 ((2 : Int) ^ r)) = false := by rw [W1.out]; simp; omega
      obtain rfl : x = X := by omega
      obtain rfl := hI.out.2 (Or.inl hx0)
      go_wp2
      go_ret
      exact ⟨_, rfl, rfl, HBW.out.trans (hU.out.2.mono (by omega))⟩
set_option maxHeartbeats 4000000 in
theorem rRank_any (w : World) (R C : Int) (v : Value) (xs : List ByteArray) (hv : Sl eS w v xs) (hf : Fit 60 xs) (h6 : mchkM R C xs = 0 → R ≤ 6 ∧ C ≤ 6) :
    Calls Tryz.prog 17 #[.agg #[.int .i64 R, .int .i64 C, v]] w (Rets fun v w' => v = .tuple #[.int .i64 (rankS R C xs).1, .int .i64 (rankS R C xs).2] ∧ Below w.heap.size w w') := by
  have HSZ := Lib.hid (show xs.length ≤ 256 → ∀ s ∈ xs, s.size ≤ 1000000 from fun _ s hs => Nat.le_trans (hf s hs) (by omega))
  have HV := Lib.hid hv; have HF := Lib.hid hf
  obtain ⟨ad, cap, rfl⟩ := sl_form hv
  clear hv hf
  by_cases h : mchkM R C xs = 0
  · have H := Lib.hid h
    obtain ⟨r, c, hrm⟩ := rm_of h
    obtain rfl := hrm.rows; obtain rfl := hrm.cols
    have hh6 := h6 h
    have HB := Lib.hid ((Below.refl w.heap.size w).alloc (Nat.le_refl _) (.cells #[.int .i64 r, .int .i64 c, .slice ad xs.length cap] 24))
    have HK := Lib.hid (Blk.new w [.int .i64 r, .int .i64 c, .slice ad xs.length cap] 24)
    obtain ⟨k, hk, hR, -⟩ := rank_of hrm
    have HKK := Lib.hid hk
    have HRD := Lib.hid (fun (w1 : World) (u : Value) (h1 : Sl eS w1 u xs) => rDim_any w1 u xs r c k (matF c xs) h1 hrm.cells (by omega) (by omega) (fun i j hi hj => Nat.le_trans (hrm.dn HF.out hi hj) (by omega)) hR)
    clear h hrm h6 hh6 hk hR
    go_enter Tryz.func17, Tryz.ntmps17
    go_wp2_with (first
      | (go_at_call 27; (with_reducible refine (rMCheck_any _ _ _ _ xs (HV.out.below HB.out (Nat.le_refl _)) HSZ.out).mono ?_); rintro e w1 ⟨v, rfl, rfl, h1⟩; rw [H.out]; have q1 := HB.out.trans (h1.mono HB.out.size); have HK1 := Lib.hid (HK.out.below h1 (Nat.le_refl _)); have c0 := HK1.out.cell 0 _ rfl; have c1 := HK1.out.cell 1 _ rfl; have c2 := HK1.out.cell 2 _ rfl)
      | (go_at_call 52; (with_reducible refine (HRD.out _ _ (HV.out.below q1 (Nat.le_refl _))).mono ?_); rintro e w2 ⟨v, rfl, rfl, h2⟩; have q2 := q1.trans (h2.mono q1.size)))
    go_ret2
    exact ⟨_, rfl, by rw [HKK.out]; rfl, q2⟩
  · have hne : (mchkM R C xs != 0) = true := by simp [h]
    have HX := Lib.hid (show rankS R C xs = (0, mchkM R C xs) by unfold rankS; rw [if_neg h])
    have HB := Lib.hid ((Below.refl w.heap.size w).alloc (Nat.le_refl _) (.cells #[.int .i64 R, .int .i64 C, .slice ad xs.length cap] 24))
    clear h h6
    go_enter Tryz.func17, Tryz.ntmps17
    go_wp2_with (go_at_call 27; (with_reducible refine (rMCheck_any _ R C _ xs (HV.out.below HB.out (Nat.le_refl _)) HSZ.out).mono ?_); rintro e w1 ⟨v, rfl, rfl, h1⟩; have q1 := HB.out.trans (h1.mono HB.out.size))
    go_ret2
    exact ⟨_, rfl, by rw [HX.out]; rfl, q1⟩
end Go.Proofs.YtfhdmhifdaiehaaGreatDoor
