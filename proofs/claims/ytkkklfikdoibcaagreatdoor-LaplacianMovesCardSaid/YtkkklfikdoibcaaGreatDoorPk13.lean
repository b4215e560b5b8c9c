/- The walks of the Laplacian's reference: In, Script, Moved. The image of a script as the reference computes it, in plain words. -/
import Derived.Test.YtkkklfikdoibcaaGreatDoorPk11
import Derived.Test.YtkkklfikdoibcaaGreatDoorPk12
import Derived.Test.YtkkklfikdoibcaaGreatDoorPk10
namespace Go.Proofs.YtkkklfikdoibcaaGreatDoor
open Go.RowKit
set_option maxRecDepth 100000

theorem rIn_any (w : World) (z : Int) : Calls Tryz.prog 79 #[.int .i64 z] w (Rets fun r w' => r = .bool (!outB z) ∧ w = w') := by
  by_cases h1 : -1048576 ≤ z
  · by_cases h2 : z ≤ 1048576
    · have H := Lib.hid (show (!outB z) = true by simp only [outB, Bool.not_eq_true', Bool.or_eq_false_iff, decide_eq_false_iff_not]; omega)
      go_enter Tryz.func79, Tryz.ntmps79
      go_wp2
      go_ret
      exact ⟨_, rfl, by rw [H.out]; rfl, rfl⟩
    · have H := Lib.hid (show (!outB z) = false by
        have e : decide (1048576 < z) = true := decide_eq_true (by omega)
        simp only [outB, e, Bool.or_true]; rfl)
      have d : decide (z ≤ 1048576) = false := by simp only [decide_eq_false_iff_not]; exact h2
      go_enter Tryz.func79, Tryz.ntmps79
      go_wp2
      go_ret
      exact ⟨_, rfl, by rw [H.out]; rfl, rfl⟩
  · have H := Lib.hid (show (!outB z) = false by
      have e : decide (z < -1048576) = true := decide_eq_true (by omega)
      simp only [outB, e, Bool.true_or]; rfl)
    have d : decide (-1048576 ≤ z) = false := by simp only [decide_eq_false_iff_not]; exact h1
    go_enter Tryz.func79, Tryz.ntmps79
    go_wp2
    go_ret
    exact ⟨_, rfl, by rw [H.out]; rfl, rfl⟩
theorem inB_take {xs : List Int} {k : Nat} (h : k < xs.length) : inB (xs.take (k + 1)) = (inB (xs.take k) && !outB xs[k]) := by
  unfold inB
  rw [List.take_succ_eq_append_getElem h, List.all_append]
  simp
theorem inB_false {xs : List Int} {k : Nat} (h : k < xs.length) (hk : (!outB xs[k]) = false) : inB xs = false := by
  unfold inB
  rw [List.all_eq_false]
  exact ⟨xs[k], List.getElem_mem h, by rw [hk]; decide⟩
/-- What Script answers. -/
def scrS (n : Int) (xs : List Int) : Int := if (xs.length : Int) = n then (if inB xs = true then 0 else 2) else 8
set_option maxHeartbeats 4000000 in
theorem rScript_any (w : World) (n : Int) (v sv : Value) (es : List (Int × Int × Int)) (xs : List Int) (hv : SlK e3 3 w v es) (hs : Sl eZ w sv xs) :
    Calls Tryz.prog 77 #[.agg #[.int .i64 n, v], sv] w (Rets fun r w' => r = .int .i64 (scrS n xs) ∧ Below w.heap.size w w') := by
  obtain ⟨ad, c, rfl⟩ := hv.form
  obtain ⟨sa, b, o, sc, rfl, hi, hp, hc, hm⟩ := hs.open elemInt
  have q0 := Lib.hid ((Below.refl w.heap.size w).alloc (Nat.le_refl _) (.cells #[.int .i64 n, .slice ad es.length c] 24))
  have hP := Lib.hid hp
  clear hv hs hp
  by_cases hl : (xs.length : Int) = n
  rotate_left
  · have HX := Lib.hid (show scrS n xs = 8 by unfold scrS; rw [if_neg hl])
    have hne : ((xs.length : Int) != n) = true := by simp [hl]
    rw [HX.out]
    go_enter Tryz.func77, Tryz.ntmps77
    go_wp2
    go_ret
    exact ⟨_, rfl, rfl, q0.out⟩
  · subst hl
    obtain ⟨z, hz⟩ : ∃ z, scrS (xs.length : Nat) xs = z := ⟨_, rfl⟩
    have HZ2 := Lib.hid (show inB xs = false → z = 2 from fun h => by rw [← hz]; unfold scrS; rw [if_pos rfl, if_neg (by rw [h]; decide)])
    have HZ0 := Lib.hid (show inB xs = true → z = 0 from fun h => by rw [← hz]; unfold scrS; rw [if_pos rfl, if_pos h])
    rw [hz]
    clear hz
    unfold maxLen at hm
    have hne : ((xs.length : Int) != (xs.length : Int)) = false := by simp
    go_enter Tryz.func77, Tryz.ntmps77
    go_wp2
    go_loopw [5] (fun i wr => ∃ k : Nat, k ≤ xs.length ∧ i = .int .i64 k ∧ Hid (inB (xs.take k) = true) ∧ Hid (Below w.heap.size w wr)) (fun i _ => xs.length - (intOf i).toNat)
    case atStart => exact ⟨0, Nat.zero_le _, rfl, Lib.hid rfl, q0⟩
    case round =>
      obtain ⟨k, hk, rfl, hI, hB⟩ := hrel
      by_cases hkn : k < xs.length
      · have h1 : wr.cell? ⟨b, o + k, none⟩ = some (.int .i64 xs[k]) := hP.out.at hB.out (Nat.le_refl _) k hkn
        have q1 : (0 : Int) ≤ (k : Int) := by omega
        have q2 : (k : Int) < (xs.length : Int) := by omega
        cases ho : (!outB xs[k])
        · have HO := Lib.hid ho
          have HF := Lib.hid (inB_false hkn ho)
          clear ho
          go_wp2_with ((go_at_call 79); (with_reducible refine (rIn_any _ xs[k]).mono ?_); rintro e w1 ⟨v1, rfl, rfl, rfl⟩; rw [HO.out])
          go_ret
          exact ⟨_, rfl, by rw [HZ2.out HF.out]; rfl, hB.out⟩
        · have HO := Lib.hid ho
          have HT := Lib.hid (show inB (xs.take (k + 1)) = true by rw [inB_take hkn, hI.out, ho]; rfl)
          clear ho
          go_wp2_with ((go_at_call 79); (with_reducible refine (rIn_any _ xs[k]).mono ?_); rintro e w1 ⟨v1, rfl, rfl, rfl⟩; rw [HO.out])
          go_roundw
          case rel => exact ⟨k + 1, by omega, by go_num, HT, hB⟩
          case measure => simp [intOf]; omega
      · obtain rfl : k = xs.length := by omega
        have HI := Lib.hid (show inB xs = true by have := hI.out; rwa [List.take_length] at this)
        go_wp2
        go_ret
        exact ⟨_, rfl, by rw [HZ0.out HI.out]; rfl, hB.out⟩
end Go.Proofs.YtkkklfikdoibcaaGreatDoor

namespace Go.Proofs.YtkkklfikdoibcaaGreatDoor
open Go.RowKit

/-- The numbers while an image is filled: the rows below a are done, of row a the terms below b. -/
def mvL (n : Nat) (f : Nat → Nat → Int) (s : Nat → Int) (a b : Nat) : List Int := (List.range n).map fun i => if i < a then sK (fun k => f i k * s k) n else if i = a then sK (fun k => f i k * s k) b else 0
theorem mvL_len (n : Nat) (f : Nat → Nat → Int) (s : Nat → Int) (a b : Nat) : (mvL n f s a b).length = n := by simp [mvL]
theorem mvL_zero (n : Nat) (f : Nat → Nat → Int) (s : Nat → Int) : mvL n f s 0 0 = List.replicate n 0 := by
  apply List.ext_getElem (by simp [mvL])
  intro i h1 h2
  simp [mvL, sK]
theorem mvL_get {n : Nat} {f : Nat → Nat → Int} {s : Nat → Int} {a b : Nat} (h : a < (mvL n f s a b).length) : (mvL n f s a b)[a] = sK (fun k => f a k * s k) b := by simp [mvL]
theorem mvL_set (n : Nat) (f : Nat → Nat → Int) (s : Nat → Int) (a b : Nat) : (mvL n f s a b).set a (sK (fun k => f a k * s k) b + f a b * s b) = mvL n f s a (b + 1) := by
  apply List.ext_getElem (by simp [mvL])
  intro i h1 h2
  rw [List.getElem_set]
  simp only [mvL, List.getElem_map, List.getElem_range]
  by_cases e : a = i
  · subst e
    rw [if_pos rfl, if_neg (by omega), if_pos rfl]
    rfl
  · have e' : ¬ i = a := fun h => e h.symm
    rw [if_neg e]
    simp only [e', if_false]
theorem mvL_next (n : Nat) (f : Nat → Nat → Int) (s : Nat → Int) (a : Nat) : mvL n f s a n = mvL n f s (a + 1) 0 := by
  apply List.ext_getElem (by simp [mvL])
  intro i h1 h2
  simp only [mvL, List.getElem_map, List.getElem_range]
  rcases Nat.lt_trichotomy i a with h | h | h
  · rw [if_pos h, if_pos (by omega)]
  · rw [if_neg (by omega), if_pos h, if_pos (by omega)]
  · rw [if_neg (by omega), if_neg (by omega), if_neg (by omega)]
    simp [sK]
theorem mvL_end (n : Nat) (f : Nat → Nat → Int) (s : Nat → Int) : mvL n f s n 0 = (List.range n).map fun i => sK (fun k => f i k * s k) n := by
  apply List.ext_getElem (by simp [mvL])
  intro i h1 h2
  have : i < n := by simpa [mvL] using h1
  simp only [mvL, List.getElem_map, List.getElem_range]
  rw [if_pos this]
theorem sK_le (g : Nat → Int) (B : Int) (hB : ∀ k, -B ≤ g k ∧ g k ≤ B) : ∀ n : Nat, -((n : Int) * B) ≤ sK g n ∧ sK g n ≤ (n : Int) * B
  | 0 => by simp [sK]
  | n + 1 => by
    have ih := sK_le g B hB n
    have h := hB n
    have e : ((n + 1 : Nat) : Int) * B = (n : Int) * B + B := by rw [Int.natCast_add, Int.add_mul]; simp
    simp only [sK]
    rw [e]
    omega
theorem mv_bd {x y : Int} (h1 : -600 ≤ x ∧ x ≤ 600) (h2 : -1048576 ≤ y ∧ y ≤ 1048576) : -629145600 ≤ x * y ∧ x * y ≤ 629145600 := by
  rcases Int.le_total 0 y with h | h
  · have a := Int.mul_le_mul_of_nonneg_right h1.1 h
    have b := Int.mul_le_mul_of_nonneg_right h1.2 h
    omega
  · have a := Int.mul_le_mul_of_nonpos_right h1.1 h
    have b := Int.mul_le_mul_of_nonpos_right h1.2 h
    omega
/-- What the reference fills in is the image. -/
theorem mvL_img {n : Nat} {es : List (Int × Int × Int)} {ns : List (Nat × Nat × Nat)} (h : RG (n : Int) es ns) (s : Nat → Int) : mvL n (ent n ns) s n 0 = imgL n ns s := by
  rw [mvL_end]
  unfold imgL
  refine List.map_congr_left fun i hi => ?_
  rw [List.mem_range] at hi
  rw [← lap_img n s i (fun x hx => by have := h.rng x hx; omega)]
  refine sK_congr fun k hk => ?_
  rw [ent_lap (fun x hx => by have := h.rng x hx; omega) h.asc i k hi hk]
end Go.Proofs.YtkkklfikdoibcaaGreatDoor
