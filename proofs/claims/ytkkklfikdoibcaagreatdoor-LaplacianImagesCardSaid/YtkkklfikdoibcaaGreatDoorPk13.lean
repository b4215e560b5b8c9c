/- The walks of the Laplacian's reference: In, Script, Moved. The image of a script as the reference computes it, in plain words. The walk of the Laplacian's reference: Moved. The walk of the Laplacian's reference: Image. -/
import Derived.Test.YtkkklfikdoibcaaGreatDoorPk11
import Derived.Test.YtkkklfikdoibcaaGreatDoorPk12
import Derived.Test.YtkkklfikdoibcaaGreatDoorPk10
namespace Go.Proofs.YtkkklfikdoibcaaGreatDoor
open Go.RowKit
set_option maxRecDepth 100000

theorem rIn_any (w : World) (z : Int) : Calls Tryz.prog 79 #[.int .i64 z] w (Rets fun r w' => r = .bool (!outB z) ∧ w = w') := by
  by_cases h1 : -1048576 ≤ z
  · by_cases h2 : z ≤ 1048576
    · have H := Lib.hid (show (!outB z) = true by simp only [outB, Bool.not_eq_true', Bool.or_eq_false_iff, decide_eq_false_iff_not]; omega)
      go_enter Tryz.func79, Tryz.ntmps79
      go_wp2
      go_ret
      exact ⟨_, rfl, by rw [H.out]; rfl, rfl⟩
    · have H := Lib.hid (show (!outB z) = false by
        have e : decide (1048576 < z) = true := decide_eq_true (by omega)
        simp only [outB, e, Bool.or_true]; rfl)
      have d : decide (z ≤ 1048576) = false := by simp only [decide_eq_false_iff_not]; exact h2
      go_enter Tryz.func79, Tryz.ntmps79
      go_wp2
      go_ret
      exact ⟨_, rfl, by rw [H.out]; rfl, rfl⟩
  · have H := Lib.hid (show (!outB z) = false by
      have e : decide (z < -1048576) = true := decide_eq_true (by omega)
      simp only [outB, e, Bool.true_or]; rfl)
    have d : decide (-1048576 ≤ z) = false := by simp only [decide_eq_false_iff_not]; exact h1
    go_enter Tryz.func79, Tryz.ntmps79
    go_wp2
    go_ret
    exact ⟨_, rfl, by rw [H.out]; rfl, rfl⟩
theorem inB_take {xs : List Int} {k : Nat} (h : k < xs.length) : inB (xs.take (k + 1)) = (inB (xs.take k) && !outB xs[k]) := by
  unfold inB
  rw [List.take_succ_eq_append_getElem h, List.all_append]
  simp
theorem inB_false {xs : List Int} {k : Nat} (h : k < xs.length) (hk : (!outB xs[k]) = false) : inB xs = false := by
  unfold inB
  rw [List.all_eq_false]
  exact ⟨xs[k], List.getElem_mem h, by rw [hk]; decide⟩
/-- What Script answers. -/
def scrS (n : Int) (xs : List Int) : Int := if (xs.length : Int) = n then (if inB xs = true then 0 else 2) else 8
set_option maxHeartbeats 4000000 in
theorem rScript_any (w : World) (n : Int) (v sv : Value) (es : List (Int × Int × Int)) (xs : List Int) (hv : SlK e3 3 w v es) (hs : Sl eZ w sv xs) :
    Calls Tryz.prog 77 #[.agg #[.int .i64 n, v], sv] w (Rets fun r w' => r = .int .i64 (scrS n xs) ∧ Below w.heap.size w w') := by
  obtain ⟨ad, c, rfl⟩ := hv.form
  obtain ⟨sa, b, o, sc, rfl, hi, hp, hc, hm⟩ := hs.open elemInt
  have q0 := Lib.hid ((Below.refl w.heap.size w).alloc (Nat.le_refl _) (.cells #[.int .i64 n, .slice ad es.length c] 24))
  have hP := Lib.hid hp
  clear hv hs hp
  by_cases hl : (xs.length : Int) = n
  rotate_left
  · have HX := Lib.hid (show scrS n xs = 8 by unfold scrS; rw [if_neg hl])
    have hne : ((xs.length : Int) != n) = true := by simp [hl]
    rw [HX.out]
    go_enter Tryz.func77, Tryz.ntmps77
    go_wp2
    go_ret
    exact ⟨_, rfl, rfl, q0.out⟩
  · subst hl
    obtain ⟨z, hz⟩ : ∃ z, scrS (xs.length : Nat) xs = z := ⟨_, rfl⟩
    have HZ2 := Lib.hid (show inB xs = false → z = 2 from fun h => by rw [← hz]; unfold scrS; rw [if_pos rfl, if_neg (by rw [h]; decide)])
    have HZ0 := Lib.hid (show inB xs = true → z = 0 from fun h => by rw [← hz]; unfold scrS; rw [if_pos rfl, if_pos h])
    rw [hz]
    clear hz
    unfold maxLen at hm
    have hne : ((xs.length : Int) != (xs.length : Int)) = false := by simp
    go_enter Tryz.func77, Tryz.ntmps77
    go_wp2
    go_loopw [5] (fun i wr => ∃ k : Nat, k ≤ xs.length ∧ i = .int .i64 k ∧ Hid (inB (xs.take k) = true) ∧ Hid (Below w.heap.size w wr)) (fun i _ => xs.length - (intOf i).toNat)
    case atStart => exact ⟨0, Nat.zero_le _, rfl, Lib.hid rfl, q0⟩
    case round =>
      obtain ⟨k, hk, rfl, hI, hB⟩ := hrel
      by_cases hkn : k < xs.length
      · have h1 : wr.cell? ⟨b, o + k, none⟩ = some (.int .i64 xs[k]) := hP.out.at hB.out (Nat.le_refl _) k hkn
        have q1 : (0 : Int) ≤ (k : Int) := by omega
        have q2 : (k : Int) < (xs.length : Int) := by omega
        cases ho : (!outB xs[k])
        · have HO := Lib.hid ho
          have HF := Lib.hid (inB_false hkn ho)
          clear ho
          go_wp2_with ((go_at_call 79); (with_reducible refine (rIn_any _ xs[k]).mono ?_); rintro e w1 ⟨v1, rfl, rfl, rfl⟩; rw [HO.out])
          go_ret
          exact ⟨_, rfl, by rw [HZ2.out HF.out]; rfl, hB.out⟩
        · have HO := Lib.hid ho
          have HT := Lib.hid (show inB (xs.take (k + 1)) = true by rw [inB_take hkn, hI.out, ho]; rfl)
          clear ho
          go_wp2_with ((go_at_call 79); (with_reducible refine (rIn_any _ xs[k]).mono ?_); rintro e w1 ⟨v1, rfl, rfl, rfl⟩; rw [HO.out])
          go_roundw
          case rel => exact ⟨k + 1, by omega, by go_num, HT, hB⟩
          case measure => simp [intOf]; omega
      · obtain rfl : k = xs.length := by omega
        have HI := Lib.hid (show inB xs = true by have := hI.out; rwa [List.take_length] at this)
        go_wp2
        go_ret
        exact ⟨_, rfl, by rw [HZ0.out HI.out]; rfl, hB.out⟩
end Go.Proofs.YtkkklfikdoibcaaGreatDoor

namespace Go.Proofs.YtkkklfikdoibcaaGreatDoor
open Go.RowKit

/-- The numbers while an image is filled: the rows below a are done, of row a the terms below b. -/
def mvL (n : Nat) (f : Nat → Nat → Int) (s : Nat → Int) (a b : Nat) : List Int := (List.range n).map fun i => if i < a then sK (fun k => f i k * s k) n else if i = a then sK (fun k => f i k * s k) b else 0
theorem mvL_len (n : Nat) (f : Nat → Nat → Int) (s : Nat → Int) (a b : Nat) : (mvL n f s a b).length = n := by simp [mvL]
theorem mvL_zero (n : Nat) (f : Nat → Nat → Int) (s : Nat → Int) : mvL n f s 0 0 = List.replicate n 0 := by
  apply List.ext_getElem (by simp [mvL])
  intro i h1 h2
  simp [mvL, sK]
theorem mvL_get {n : Nat} {f : Nat → Nat → Int} {s : Nat → Int} {a b : Nat} (h : a < (mvL n f s a b).length) : (mvL n f s a b)[a] = sK (fun k => f a k * s k) b := by simp [mvL]
theorem mvL_set (n : Nat) (f : Nat → Nat → Int) (s : Nat → Int) (a b : Nat) : (mvL n f s a b).set a (sK (fun k => f a k * s k) b + f a b * s b) = mvL n f s a (b + 1) := by
  apply List.ext_getElem (by simp [mvL])
  intro i h1 h2
  rw [List.getElem_set]
  simp only [mvL, List.getElem_map, List.getElem_range]
  by_cases e : a = i
  · subst e
    rw [if_pos rfl, if_neg (by omega), if_pos rfl]
    rfl
  · have e' : ¬ i = a := fun h => e h.symm
    rw [if_neg e]
    simp only [e', if_false]
theorem mvL_next (n : Nat) (f : Nat → Nat → Int) (s : Nat → Int) (a : Nat) : mvL n f s a n = mvL n f s (a + 1) 0 := by
  apply List.ext_getElem (by simp [mvL])
  intro i h1 h2
  simp only [mvL, List.getElem_map, List.getElem_range]
  rcases Nat.lt_trichotomy i a with h | h | h
  · rw [if_pos h, if_pos (by omega)]
  · rw [if_neg (by omega), if_pos h, if_pos (by omega)]
  · rw [if_neg (by omega), if_neg (by omega), if_neg (by omega)]
    simp [sK]
theorem mvL_end (n : Nat) (f : Nat → Nat → Int) (s : Nat → Int) : mvL n f s n 0 = (List.range n).map fun i => sK (fun k => f i k * s k) n := by
  apply List.ext_getElem (by simp [mvL])
  intro i h1 h2
  have : i < n := by simpa [mvL] using h1
  simp only [mvL, List.getElem_map, List.getElem_range]
  rw [if_pos this]
theorem sK_le (g : Nat → Int) (B : Int) (hB : ∀ k, -B ≤ g k ∧ g k ≤ B) : ∀ n : Nat, -((n : Int) * B) ≤ sK g n ∧ sK g n ≤ (n : Int) * B
  | 0 => by simp [sK]
  | n + 1 => by
    have ih := sK_le g B hB n
    have h := hB n
    have e : ((n + 1 : Nat) : Int) * B = (n : Int) * B + B := by rw [Int.natCast_add, Int.add_mul]; simp
    simp only [sK]
    rw [e]
    omega
theorem mv_bd {x y : Int} (h1 : -600 ≤ x ∧ x ≤ 600) (h2 : -1048576 ≤ y ∧ y ≤ 1048576) : -629145600 ≤ x * y ∧ x * y ≤ 629145600 := by
  rcases Int.le_total 0 y with h | h
  · have a := Int.mul_le_mul_of_nonneg_right h1.1 h
    have b := Int.mul_le_mul_of_nonneg_right h1.2 h
    omega
  · have a := Int.mul_le_mul_of_nonpos_right h1.1 h
    have b := Int.mul_le_mul_of_nonpos_right h1.2 h
    omega
/-- What the reference fills in is the image. -/
theorem mvL_img {n : Nat} {es : List (Int × Int × Int)} {ns : List (Nat × Nat × Nat)} (h : RG (n : Int) es ns) (s : Nat → Int) : mvL n (ent n ns) s n 0 = imgL n ns s := by
  rw [mvL_end]
  unfold imgL
  refine List.map_congr_left fun i hi => ?_
  rw [List.mem_range] at hi
  rw [← lap_img n s i (fun x hx => by have := h.rng x hx; omega)]
  refine sK_congr fun k hk => ?_
  rw [ent_lap (fun x hx => by have := h.rng x hx; omega) h.asc i k hi hk]
end Go.Proofs.YtkkklfikdoibcaaGreatDoor

namespace Go.Proofs.YtkkklfikdoibcaaGreatDoor
open Go.RowKit
set_option maxRecDepth 100000

set_option maxHeartbeats 4000000 in
theorem rMoved_any (w : World) (n : Nat) (v sv : Value) (es : List (Int × Int × Int)) (ns : List (Nat × Nat × Nat)) (xs : List Int) (hv : SlK e3 3 w v (ns.map n3)) (hs : Sl eZ w sv xs) (hR : RG (n : Int) es ns) (hl : xs.length = n) (hx : inB xs = true) :
    Calls Tryz.prog 78 #[.agg #[.int .i64 (n : Nat), v], sv] w (Rets fun r w' => Sl eZ w' r (imgL n ns fun k => xs.getD k 0) ∧ Below w.heap.size w w') := by
  have hm : ∀ x ∈ ns, x.2.2 ≤ 50 := fun x hx => (hR.rng x hx).2.2.2.1
  have hn : n ≤ 12 := by have := hR.le; omega
  have HV := Lib.hid hv; have HM := Lib.hid hm
  have HBS := Lib.hid (fun j => inB_get hx j)
  obtain ⟨s, hsd⟩ : ∃ s : Nat → Int, (fun k => xs.getD k 0) = s := ⟨_, rfl⟩
  have HSD := Lib.hid (show ∀ k (h : k < xs.length), xs[k] = s k from fun k h => by rw [← hsd]; simp [List.getD_eq_getElem?_getD, h])
  have HSB := Lib.hid (show ∀ j, -1048576 ≤ s j ∧ s j ≤ 1048576 from fun j => by rw [← hsd]; exact HBS.out j)
  have HIM := Lib.hid (mvL_img hR s)
  rw [hsd]
  have HEL := Lib.hid (fun i k => ent_le hm hn i k)
  obtain ⟨ad, c, rfl⟩ := hv.form
  obtain ⟨sa, bb, oo, sc, rfl, hi, hp, hc, hmx⟩ := hs.open elemInt
  have HP := Lib.hid hp
  rw [List.length_map] at HV ⊢
  rw [hl] at hi hc ⊢
  have HXL := Lib.hid hl
  obtain ⟨D, hD⟩ : ∃ D, w.heap.size = D := ⟨_, rfl⟩
  obtain ⟨W, hW⟩ : ∃ W, w.alloc (.cells #[.int .i64 (n : Nat), .slice ad ns.length c] 24) = W := ⟨_, rfl⟩
  have HK := Lib.hid (show Blk W D [.int .i64 (n : Nat), .slice ad ns.length c] 24 by rw [← hW, ← hD]; exact Blk.new w _ _)
  have HB := Lib.hid (show Below D w W by rw [← hW, ← hD]; exact (Below.refl _ w).alloc (Nat.le_refl _) _)
  have hWs : W.heap.size = D + 1 := by rw [← hW, ← hD]; simp
  have HW := Lib.hid hW
  have h0 := HK.out.cell 0 _ rfl; have h1 := HK.out.cell 1 _ rfl; have hl0 := HK.out.lt
  clear hv hs hR hl hx hsd hW hp hm HBS
  go_enter Tryz.func78, Tryz.ntmps78
  go_wp2_with (at_make; rw [HW.out]; refine mkN elemInt rfl _ _ rfl n rfl rfl rfl rfl (by omega) (by unfold maxLen; omega) HB.out (by omega) rfl ?_; intro w2 hown hb2 hb3; rw [hWs] at hown ⊢)
  rw [show List.replicate n (Value.int .i64 0) = (mvL n (ent n ns) s 0 0).map eZ by rw [mvL_zero]; simp [eZ]] at hown
  have HO2 := Lib.hid hown; have HB2 := Lib.hid hb2; have HK2 := Lib.hid (HK.out.below hb3 (Nat.le_refl _))
  clear hown hb2 hb3 h0 h1 hl0 HK HB
  go_loopw [6] (fun i wr => ∃ a : Nat, a ≤ n ∧ i = .int .i64 a ∧ Hid (wr.ownsRow (D + 1) 3 1 (.slice (some ⟨D + 1, 0, none⟩) n n) n ((mvL n (ent n ns) s a 0).map eZ)) ∧ Hid (Blk wr D [.int .i64 (n : Nat), .slice ad ns.length c] 24) ∧ Hid (Below D w wr)) (fun i _ => n - (intOf i).toNat)
  case atStart => exact ⟨0, Nat.zero_le _, rfl, HO2, HK2, HB2⟩
  case round =>
    clear HO2 HK2 HB2
    obtain ⟨a, ha, rfl, hO, hK, hB⟩ := hrel
    have k0 := hK.out.cell 0 _ rfl; have k1 := hK.out.cell 1 _ rfl; have kl := hK.out.lt
    by_cases han : a < n
    · go_wp2
      clear k0 k1 kl
      go_loopw [7] (fun j wr => ∃ b : Nat, b ≤ n ∧ j = .int .i64 b ∧ Hid (wr.ownsRow (D + 1) 3 1 (.slice (some ⟨D + 1, 0, none⟩) n n) n ((mvL n (ent n ns) s a b).map eZ)) ∧ Hid (Blk wr D [.int .i64 (n : Nat), .slice ad ns.length c] 24) ∧ Hid (Below D w wr)) (fun j _ => n - (intOf j).toNat)
      case atStart => exact ⟨0, Nat.zero_le _, rfl, hO, hK, hB⟩
      case round =>
        clear hO hK hB
        obtain ⟨b, hb, rfl, hO, hK, hB⟩ := hrel
        have k0 := hK.out.cell 0 _ rfl; have k1 := hK.out.cell 1 _ rfl; have kl := hK.out.lt
        by_cases hbn : b < n
        · have HVW := Lib.hid (HV.out.below hB.out (Nat.le_of_eq hD))
          have HLEN := Lib.hid (show a < (mvL n (ent n ns) s a b).length by rw [mvL_len]; exact han)
          obtain ⟨z, hz⟩ : ∃ z, sK (fun k => ent n ns a k * s k) b = z := ⟨_, rfl⟩
          have HGET := Lib.hid (show (mvL n (ent n ns) s a b)[a]'HLEN.out = z by rw [mvL_get, hz])
          obtain ⟨F, hF⟩ : ∃ F, ent n ns a b = F := ⟨_, rfl⟩
          obtain ⟨y, hy⟩ : ∃ y, s b = y := ⟨_, rfl⟩
          have HSET := Lib.hid (show (mvL n (ent n ns) s a b).set a (z + F * y) = mvL n (ent n ns) s a (b + 1) by rw [← hz, ← hF, ← hy]; exact mvL_set _ _ _ _ _)
          have hFb := HEL.out a b
          have hyb := HSB.out b
          rw [hF] at hFb
          rw [hy] at hyb
          have hPb := mv_bd hFb hyb
          have hzb := sK_le (fun k => ent n ns a k * s k) 629145600 (fun k => mv_bd (HEL.out a k) (HSB.out k)) b
          rw [hz] at hzb
          obtain ⟨P, hP⟩ : ∃ P, F * y = P := ⟨_, rfl⟩
          rw [hP] at HSET hPb
          have e1 : IntKind.i64.wrap (F * y) = P := by rw [hP, IntKind.wrap_i64]; omega
          have e2 : IntKind.i64.wrap (z + P) = z + P := by rw [IntKind.wrap_i64]; omega
          have HBX := Lib.hid (show b < xs.length by rw [HXL.out]; exact hbn)
          have HSV := Lib.hid (show some (eZ (xs[b]'HBX.out)) = some (.int .i64 y) by rw [HSD.out b HBX.out, hy]; rfl)
          have cs : wr.cell? ⟨bb, oo + b, none⟩ = some (.int .i64 y) := (HP.out.at hB.out (Nat.le_of_eq hD) b HBX.out).trans HSV.out
          have cu : wr.cell? ⟨D + 1, a, none⟩ = some (.int .i64 z) := by have := (own_get hO.out HLEN.out).1; rw [HGET.out] at this; exact this
          have HEN := Lib.hid (fun (W1 : World) (h : SlK e3 3 W1 (.slice ad ns.length c) (ns.map n3)) => show Calls Tryz.prog 133 #[.agg #[.int .i64 (n : Nat), .slice ad ns.length c], .int .i64 (a : Nat), .int .i64 (b : Nat)] W1 (Rets fun r w' => r = .int .i64 F ∧ Below W1.heap.size W1 w') from by rw [← hF]; exact entry_any W1 n _ ns a b h HM.out hn)
          have q1 : (0 : Int) ≤ (a : Int) := by omega
          have q2 : (a : Int) < (n : Int) := by omega
          have q3 : (0 : Int) ≤ (b : Int) := by omega
          have q4 : (b : Int) < (n : Int) := by omega
          clear hz hF hy hP hzb hFb hyb hPb
          go_wp2_with fail
          -- REGION 8
          have hS := (⟨k0, k1, cu, cs⟩ : wr.drew.cell? ⟨D, 0, none⟩ = some (.int .i64 (n : Nat)) ∧ wr.drew.cell? ⟨D, 1, none⟩ = some (.slice ad ns.length c) ∧ wr.drew.cell? ⟨D + 1, a, none⟩ = some (.int .i64 z) ∧ wr.drew.cell? ⟨bb, oo + b, none⟩ = some (.int .i64 y))
          refine wp_regionJ (S := fun w' => w'.cell? ⟨D, 0, none⟩ = some (.int .i64 (n : Nat)) ∧ w'.cell? ⟨D, 1, none⟩ = some (.slice ad ns.length c) ∧ w'.cell? ⟨D + 1, a, none⟩ = some (.int .i64 z) ∧ w'.cell? ⟨bb, oo + b, none⟩ = some (.int .i64 y)) (A := fun i => decide (i < 15)) (by kernel_rfl) ?_
          refine wpAnyJ_take (i := 0) (oi := { dst := some 23, op := .move (.tmp 5), type := _, pos := _, after := _, guard := _ }) (v := ?_) rfl (by kernel_rfl) (by kernel_rfl) (by kernel_rfl) (early_sat (by kernel_rfl)) (fun _ _ _ h => h) (Or.inl ⟨by rfl, ?_⟩) hS ?_
          rotate_left
          · intro wl hSw
            obtain ⟨s0, s1, s2, s3⟩ := hSw
            go_simp
            with_reducible rfl
          simp only [Act.put, List.setIfInBounds_toArray, List.set_cons_zero, List.set_cons_succ]
          refine wpAnyJ_take (i := 1) (oi := { dst := some 24, op := .move (.tmp 6), type := _, pos := _, after := _, guard := _ }) (v := ?_) rfl (by kernel_rfl) (by kernel_rfl) (by kernel_rfl) (early_sat (by kernel_rfl)) (fun _ _ _ h => h) (Or.inl ⟨by rfl, ?_⟩) hS ?_
          rotate_left
          · intro wl hSw
            obtain ⟨s0, s1, s2, s3⟩ := hSw
            go_simp
            with_reducible rfl
          simp only [Act.put, List.setIfInBounds_toArray, List.set_cons_zero, List.set_cons_succ]
          refine wpAnyJ_take (i := 2) (oi := { dst := some 25, op := .indexAddr _ (.tmp 23) (.tmp 24), type := _, pos := _, after := _, guard := _ }) (v := ?_) rfl (by kernel_rfl) (by kernel_rfl) (by kernel_rfl) (early_sat (by kernel_rfl)) (fun _ _ _ h => h) (Or.inl ⟨by rfl, ?_⟩) hS ?_
          rotate_left
          · intro wl hSw
            obtain ⟨s0, s1, s2, s3⟩ := hSw
            go_simp
            with_reducible rfl
          simp only [Act.put, List.setIfInBounds_toArray, List.set_cons_zero, List.set_cons_succ]
          refine wpAnyJ_take (i := 3) (oi := { dst := some 26, op := .load _ (.tmp 25), type := _, pos := _, after := _, guard := _ }) (v := ?_) rfl (by kernel_rfl) (by kernel_rfl) (by kernel_rfl) (early_sat (by kernel_rfl)) (fun _ _ _ h => h) (Or.inl ⟨by rfl, ?_⟩) hS ?_
          rotate_left
          · intro wl hSw
            obtain ⟨s0, s1, s2, s3⟩ := hSw
            go_simp
            with_reducible rfl
          simp only [Act.put, List.setIfInBounds_toArray, List.set_cons_zero, List.set_cons_succ]
          refine wpAnyJ_take (i := 4) (oi := { dst := some 27, op := .load _ (.tmp 2), type := _, pos := _, after := _, guard := _ }) (v := ?_) rfl (by kernel_rfl) (by kernel_rfl) (by kernel_rfl) (early_sat (by kernel_rfl)) (fun _ _ _ h => h) (Or.inl ⟨by rfl, ?_⟩) hS ?_
          rotate_left
          · intro wl hSw
            obtain ⟨s0, s1, s2, s3⟩ := hSw
            go_simp
            with_reducible rfl
          simp only [Act.put, List.setIfInBounds_toArray, List.set_cons_zero, List.set_cons_succ]
          refine wpAnyJ_take (i := 5) (oi := { dst := some 28, op := .move (.tmp 6), type := _, pos := _, after := _, guard := _ }) (v := ?_) rfl (by kernel_rfl) (by kernel_rfl) (by kernel_rfl) (early_sat (by kernel_rfl)) (fun _ _ _ h => h) (Or.inl ⟨by rfl, ?_⟩) hS ?_
          rotate_left
          · intro wl hSw
            obtain ⟨s0, s1, s2, s3⟩ := hSw
            go_simp
            with_reducible rfl
          simp only [Act.put, List.setIfInBounds_toArray, List.set_cons_zero, List.set_cons_succ]
          refine wpAnyJ_take (i := 6) (oi := { dst := some 29, op := .move (.tmp 7), type := _, pos := _, after := _, guard := _ }) (v := ?_) rfl (by kernel_rfl) (by kernel_rfl) (by kernel_rfl) (early_sat (by kernel_rfl)) (fun _ _ _ h => h) (Or.inl ⟨by rfl, ?_⟩) hS ?_
          rotate_left
          · intro wl hSw
            obtain ⟨s0, s1, s2, s3⟩ := hSw
            go_simp
            with_reducible rfl
          simp only [Act.put, List.setIfInBounds_toArray, List.set_cons_zero, List.set_cons_succ]
          refine wpAnyJ_take (i := 8) (oi := { dst := some 31, op := .move (.tmp 1), type := _, pos := _, after := _, guard := _ }) (v := ?_) rfl (by kernel_rfl) (by kernel_rfl) (by kernel_rfl) (early_sat (by kernel_rfl)) (fun _ _ _ h => h) (Or.inl ⟨by rfl, ?_⟩) hS ?_
          rotate_left
          · intro wl hSw
            obtain ⟨s0, s1, s2, s3⟩ := hSw
            go_simp
            with_reducible rfl
          simp only [Act.put, List.setIfInBounds_toArray, List.set_cons_zero, List.set_cons_succ]
          refine wpAnyJ_take (i := 9) (oi := { dst := some 32, op := .move (.tmp 7), type := _, pos := _, after := _, guard := _ }) (v := ?_) rfl (by kernel_rfl) (by kernel_rfl) (by kernel_rfl) (early_sat (by kernel_rfl)) (fun _ _ _ h => h) (Or.inl ⟨by rfl, ?_⟩) hS ?_
          rotate_left
          · intro wl hSw
            obtain ⟨s0, s1, s2, s3⟩ := hSw
            go_simp
            with_reducible rfl
          simp only [Act.put, List.setIfInBounds_toArray, List.set_cons_zero, List.set_cons_succ]
          refine wpAnyJ_take (i := 10) (oi := { dst := some 33, op := .indexAddr _ (.tmp 31) (.tmp 32), type := _, pos := _, after := _, guard := _ }) (v := ?_) rfl (by kernel_rfl) (by kernel_rfl) (by kernel_rfl) (early_sat (by kernel_rfl)) (fun _ _ _ h => h) (Or.inl ⟨by rfl, ?_⟩) hS ?_
          rotate_left
          · intro wl hSw
            obtain ⟨s0, s1, s2, s3⟩ := hSw
            go_simp
            with_reducible rfl
          simp only [Act.put, List.setIfInBounds_toArray, List.set_cons_zero, List.set_cons_succ]
          refine wpAnyJ_take (i := 11) (oi := { dst := some 34, op := .load _ (.tmp 33), type := _, pos := _, after := _, guard := _ }) (v := ?_) rfl (by kernel_rfl) (by kernel_rfl) (by kernel_rfl) (early_sat (by kernel_rfl)) (fun _ _ _ h => h) (Or.inl ⟨by rfl, ?_⟩) hS ?_
          rotate_left
          · intro wl hSw
            obtain ⟨s0, s1, s2, s3⟩ := hSw
            go_simp
            with_reducible rfl
          simp only [Act.put, List.setIfInBounds_toArray, List.set_cons_zero, List.set_cons_succ]
          refine wpAnyJ_only (i := 7) (o := { dst := some 30, op := _, type := _, pos := _, after := _, guard := _ }) (by kernel_rfl) rfl (fun K hKK => ?_)
          go_simp
          refine (HEN.out wr.drew (HVW.out.below (Below.refl _ _).drew (Nat.le_refl _))).mono ?_
          rintro e5 w1 ⟨v1, rfl, rfl, hb1⟩
          have HK1 := Lib.hid (Blk.below (Blk.below (cs := [.int .i64 (n : Nat), .slice ad ns.length c]) hK.out ((Below.refl wr.heap.size wr).drew) (Nat.le_refl _)) hb1 (Nat.le_refl _)); have HO1 := Lib.hid (own_below (own_drewN hO.out 1) hb1 (Nat.le_refl _)); have HB1 := Lib.hid (hB.out.drew.trans (hb1.mono (by rw [← hD]; exact hB.out.size)))
          have hS := (⟨HK1.out.cell 0 _ rfl, HK1.out.cell 1 _ rfl, by have := (own_get HO1.out HLEN.out).1; rw [HGET.out] at this; exact this, HP.out.at HB1.out (Nat.le_of_eq hD) b HBX.out |>.trans HSV.out⟩ : w1.cell? ⟨D, 0, none⟩ = some (.int .i64 (n : Nat)) ∧ w1.cell? ⟨D, 1, none⟩ = some (.slice ad ns.length c) ∧ w1.cell? ⟨D + 1, a, none⟩ = some (.int .i64 z) ∧ w1.cell? ⟨bb, oo + b, none⟩ = some (.int .i64 y))
          refine hKK.out _ _ (fun _ => hS) ?_
          try simp only [Act.put, List.setIfInBounds_toArray, List.set_cons_zero, List.set_cons_succ]
          clear hKK K
          refine wpAnyJ_take (i := 12) (oi := { dst := some 35, op := .binOp _ _ (.tmp 30) (.tmp 34) _, type := _, pos := _, after := _, guard := _ }) (v := ?_) rfl (by kernel_rfl) (by kernel_rfl) (by kernel_rfl) (early_sat (by kernel_rfl)) (fun _ _ _ h => h) (Or.inl ⟨by rfl, ?_⟩) hS ?_
          rotate_left
          · intro wl hSw
            obtain ⟨s0, s1, s2, s3⟩ := hSw
            go_simp
            with_reducible rfl
          simp only [Act.put, List.setIfInBounds_toArray, List.set_cons_zero, List.set_cons_succ]
          refine wpAnyJ_take (i := 13) (oi := { dst := some 36, op := .binOp _ _ (.tmp 26) (.tmp 35) _, type := _, pos := _, after := _, guard := _ }) (v := ?_) rfl (by kernel_rfl) (by kernel_rfl) (by kernel_rfl) (early_sat (by kernel_rfl)) (fun _ _ _ h => h) (Or.inl ⟨by rfl, ?_⟩) hS ?_
          rotate_left
          · intro wl hSw
            obtain ⟨s0, s1, s2, s3⟩ := hSw
            go_simp
            with_reducible rfl
          simp only [Act.put, List.setIfInBounds_toArray, List.set_cons_zero, List.set_cons_succ]
          refine wpAnyJ_take (i := 14) (oi := { dst := some 37, op := .indexAddr _ (.tmp 23) (.tmp 24), type := _, pos := _, after := _, guard := _ }) (v := ?_) rfl (by kernel_rfl) (by kernel_rfl) (by kernel_rfl) (early_sat (by kernel_rfl)) (fun _ _ _ h => h) (Or.inl ⟨by rfl, ?_⟩) hS ?_
          rotate_left
          · intro wl hSw
            obtain ⟨s0, s1, s2, s3⟩ := hSw
            go_simp
            with_reducible rfl
          simp only [Act.put, List.setIfInBounds_toArray, List.set_cons_zero, List.set_cons_succ]
          have fz := (own_get HO1.out HLEN.out).2
          refine wpAnyJ_only (i := 15) (o := { dst := none, op := .store _ (.tmp 37) (.tmp 36), type := _, pos := _, after := _, guard := _ }) (by kernel_rfl) rfl (fun K hK => ?_)
          go_simp
          refine hK.out _ _ (fun h => absurd h (by decide)) ?_
          try simp only [Act.put, List.setIfInBounds_toArray, List.set_cons_zero, List.set_cons_succ]
          clear hK K
          refine wpAnyJ_done (by kernel_rfl) ?_ _
          -- BEHIND REGION 8
          clear hS fz
          go_wp2
          go_roundw
          case rel =>
            obtain ⟨h8, h9⟩ := own_put HO1.out HB1.out (Nat.le_succ D) a (z + P) (.int .i64 (z + P)) rfl
            exact ⟨b + 1, by omega, by go_num, Lib.hid (by rw [← HSET.out]; exact h8), Lib.hid (HK1.out.setCell (by omega) _), Lib.hid h9⟩
          case measure => simp [intOf]; omega
        · obtain rfl : b = n := by omega
          go_wp2
          go_roundw
          case rel => exact ⟨a + 1, by omega, by go_num, Lib.hid (by rw [← mvL_next]; exact hO.out), hK, hB⟩
          case measure => simp [intOf]; omega
    · obtain rfl : a = n := by omega
      have HSL := Lib.hid (show Sl eZ wr (.slice (some ⟨D + 1, 0, none⟩) a a) (imgL a ns s) by rw [← HIM.out]; exact Sl.ofOwns hO.out)
      go_wp2
      go_ret
      exact ⟨_, rfl, HSL.out, by rw [hD]; exact hB.out⟩
end Go.Proofs.YtkkklfikdoibcaaGreatDoor

namespace Go.Proofs.YtkkklfikdoibcaaGreatDoor
open Go.RowKit
set_option maxRecDepth 100000

theorem scrS_zero {n : Int} {xs : List Int} (h : scrS n xs = 0) : (xs.length : Int) = n ∧ inB xs = true := by
  unfold scrS at h
  by_cases h1 : (xs.length : Int) = n
  · rw [if_pos h1] at h
    by_cases h2 : inB xs = true
    · exact ⟨h1, h2⟩
    · rw [if_neg h2] at h; cases h
  · rw [if_neg h1] at h; cases h
theorem imgS_scr {n : Int} {es : List (Int × Int × Int)} {xs : List Int} (hc : chkG n es = 0) (h : scrS n xs ≠ 0) : imgS n es xs = ([], scrS n xs) := by
  unfold imgS
  unfold scrS at h ⊢
  rw [if_pos hc]
  by_cases h1 : (xs.length : Int) = n
  · rw [if_pos h1] at h ⊢
    rw [if_pos h1]
    by_cases h2 : inB xs = true
    · rw [if_pos h2] at h; exact absurd rfl h
    · rw [if_neg h2, if_neg h2]
  · rw [if_neg h1, if_neg h1]
set_option maxHeartbeats 4000000 in
theorem rImage_any (w : World) (n : Int) (v sv : Value) (es : List (Int × Int × Int)) (xs : List Int) (hv : SlK e3 3 w v es) (hs : Sl eZ w sv xs) :
    Calls Tryz.prog 22 #[.agg #[.int .i64 n, v], sv] w (RetL w (imgS n es xs).1 (imgS n es xs).2) := by
  have HV := Lib.hid hv
  obtain ⟨ad, c, rfl⟩ := hv.form
  obtain ⟨sa, sc, rfl⟩ := sl_form hs
  have HK := Lib.hid (Blk.new w [.int .i64 n, .slice ad es.length c] 24)
  have q0 := (Below.refl w.heap.size w).alloc (Nat.le_refl _) (.cells #[.int .i64 n, .slice ad es.length c] 24)
  have HV1 := Lib.hid (HV.out.below q0 (Nat.le_refl _))
  have HS1 := Lib.hid (hs.below q0 (Nat.le_refl _))
  clear hv hs
  by_cases h : chkG n es = 0
  · by_cases hs0 : scrS n xs = 0
    · obtain ⟨ns, hRG⟩ := rg_of h
      obtain ⟨N, rfl⟩ : ∃ N : Nat, n = (N : Int) := ⟨n.toNat, by have := hRG.pos; omega⟩
      have hes := hRG.eq
      subst hes
      obtain ⟨hxl, hxi⟩ := scrS_zero hs0
      have hxl : xs.length = N := by omega
      obtain ⟨ys, hys⟩ : ∃ ys, (imgL N ns fun k => xs.getD k 0) = ys := ⟨_, rfl⟩
      obtain ⟨⟨T, K⟩, hTK⟩ : ∃ p, imgS (N : Int) (ns.map n3) xs = p := ⟨_, rfl⟩
      have HT1 := Lib.hid (show inB ys = true → T = ys ∧ K = 0 from fun e => by
        have := hTK
        unfold imgS at this
        rw [if_pos h, if_pos (by omega), if_pos hxi, nsOf_n3, Int.toNat_natCast, hys, if_pos e] at this
        simp at this; exact ⟨this.1.symm, this.2.symm⟩)
      have HT2 := Lib.hid (show inB ys = false → T = [] ∧ K = 11 from fun e => by
        have := hTK
        unfold imgS at this
        rw [if_pos h, if_pos (by omega), if_pos hxi, nsOf_n3, Int.toNat_natCast, hys, if_neg (by rw [e]; decide)] at this
        simp at this; exact ⟨this.1, this.2.symm⟩)
      have H := Lib.hid h; have HG := Lib.hid hRG; have HS0 := Lib.hid hs0; have HXL := Lib.hid hxl; have HXI := Lib.hid hxi; have HYS := Lib.hid hys
      show Calls _ _ _ _ (RetL w (imgS (N : Int) (ns.map n3) xs).1 (imgS (N : Int) (ns.map n3) xs).2)
      rw [hTK]
      have hnl : (ns.map n3).length = ns.length := List.length_map _
      rw [hnl] at HV HK q0 HV1 HS1 ⊢
      have HMV := Lib.hid (fun (W : World) (h1 : SlK e3 3 W (.slice ad ns.length c) (ns.map n3)) (h2 : Sl eZ W (.slice sa xs.length sc) xs) => show Calls Tryz.prog 78 #[.agg #[.int .i64 (N : Nat), .slice ad ns.length c], .slice sa xs.length sc] W (Rets fun r w' => Sl eZ w' r ys ∧ Below W.heap.size W w') from by rw [← hys]; exact rMoved_any W N _ _ (ns.map n3) ns xs h1 h2 hRG hxl hxi)
      clear h hRG hs0 hxl hxi hys hTK
      go_enter Tryz.func22, Tryz.ntmps22
      go_wp2_with (first
        | (go_at_call 78; (with_reducible refine (HMV.out _ (HV1.out.below b2 (Nat.le_refl _)) HS3.out).mono ?_); rintro e w3 ⟨v3, rfl, hs3, hb3⟩; obtain ⟨ya, yc, rfl⟩ := sl_form hs3; have HY3 := Lib.hid hs3; have q3 := q2.trans (hb3.mono q2.size); have HQ3 := Lib.hid q3; clear hs3 hb3)
        | (go_at_call 77; (with_reducible refine (rScript_any _ (N : Int) _ _ (ns.map n3) xs (HV1.out.below b1 (Nat.le_refl _)) HS2.out).mono ?_); rintro e w2 ⟨v2, rfl, rfl, hb2⟩; rw [HS0.out]; have q2 := q1.trans (hb2.mono q1.size); have b2 := b1.trans (hb2.mono b1.size); have HS3 := Lib.hid (HS2.out.below hb2 (Nat.le_refl _)); have HK2 := Lib.hid (HK1.out.below hb2 (Nat.le_refl _)); have g20 := HK2.out.cell 0 _ rfl; have g21 := HK2.out.cell 1 _ rfl; have gl2 := HK2.out.lt; clear hb2)
        | (go_at_call 69; (with_reducible refine (rGCheck_any _ (N : Int) _ (ns.map n3) HV1.out).mono ?_); rintro e w1 ⟨v1, rfl, rfl, hb1⟩; rw [H.out]; have q1 := q0.trans (hb1.mono q0.size); have b1 := hb1; have HS2 := Lib.hid (HS1.out.below hb1 (Nat.le_refl _)); have HK1 := Lib.hid (HK.out.below hb1 (Nat.le_refl _)); have g0 := HK1.out.cell 0 _ rfl; have g1 := HK1.out.cell 1 _ rfl; have gl := HK1.out.lt; clear hb1))
      clear q0 q1 q2 q3 b1 b2 g0 g1 gl g20 g21 gl2
      obtain ⟨ya', yb, yo, yc', hyf, hyi, hyp, hyc, hym⟩ := HY3.out.open elemInt
      simp only [Value.slice.injEq, true_and] at hyf
      obtain ⟨rfl, rfl⟩ := hyf
      have HYP := Lib.hid hyp
      unfold maxLen at hym
      clear hyp
      go_loopw [9] (fun i wr => ∃ k : Nat, k ≤ ys.length ∧ i = .int .i64 k ∧ Hid (inB (ys.take k) = true) ∧ Hid (Below w3.heap.size w3 wr)) (fun i _ => ys.length - (intOf i).toNat)
      case atStart => exact ⟨0, Nat.zero_le _, rfl, Lib.hid rfl, Lib.hid (Below.refl _ _)⟩
      case round =>
        obtain ⟨k, hk, rfl, hI, hB⟩ := hrel
        by_cases hkn : k < ys.length
        · have h1 : wr.cell? ⟨yb, yo + k, none⟩ = some (.int .i64 ys[k]) := HYP.out.at hB.out (Nat.le_refl _) k hkn
          have p1 : (0 : Int) ≤ (k : Int) := by omega
          have p2 : (k : Int) < (ys.length : Int) := by omega
          cases ho : (!outB ys[k])
          · have HO := Lib.hid ho
            obtain ⟨hT, hK⟩ := HT2.out (inB_false hkn ho)
            have HR := Lib.hid (HQ3.out.trans (hB.out.mono HQ3.out.size))
            subst hT; subst hK
            clear ho
            go_wp2_with ((go_at_call 79); (with_reducible refine (rIn_any _ ys[k]).mono ?_); rintro e w1 ⟨v1, rfl, rfl, rfl⟩; rw [HO.out])
            go_ret2
            exact ⟨_, rfl, _, rfl, Sl.nil' _ _, HR.out⟩
          · have HO := Lib.hid ho
            have HT := Lib.hid (show inB (ys.take (k + 1)) = true by rw [inB_take hkn, hI.out, ho]; rfl)
            clear ho
            go_wp2_with ((go_at_call 79); (with_reducible refine (rIn_any _ ys[k]).mono ?_); rintro e w1 ⟨v1, rfl, rfl, rfl⟩; rw [HO.out])
            go_roundw
            case rel => exact ⟨k + 1, by omega, by go_num, HT, hB⟩
            case measure => simp [intOf]; omega
        · have hnk : decide ((k : Int) < (ys.length : Int)) = false := by simp only [decide_eq_false_iff_not]; omega
          obtain ⟨hT, hK⟩ := HT1.out (by have := hI.out; rwa [show k = ys.length by omega, List.take_length] at this)
          have HR := Lib.hid (HQ3.out.trans (hB.out.mono HQ3.out.size))
          have HY4 := Lib.hid (HY3.out.below hB.out (Nat.le_refl _))
          subst hT; subst hK
          go_wp2
          go_ret2
          exact ⟨_, rfl, _, rfl, HY4.out, HR.out⟩
    · have hne : (scrS n xs != 0) = true := by simp [hs0]
      have HX := Lib.hid (imgS_scr h hs0)
      rw [HX.out]
      have H := Lib.hid h
      obtain ⟨z, hz⟩ : ∃ z, scrS n xs = z := ⟨_, rfl⟩
      have HZ := Lib.hid hz
      rw [hz] at hne ⊢
      clear h hs0 hz
      go_enter Tryz.func22, Tryz.ntmps22
      go_wp2_with (first
        | (go_at_call 77; (with_reducible refine (rScript_any _ n _ _ es xs (HV1.out.below b1 (Nat.le_refl _)) HS2.out).mono ?_); rintro e w2 ⟨v2, rfl, rfl, hb2⟩; rw [HZ.out]; have q2 := q1.trans (hb2.mono q1.size); clear hb2)
        | (go_at_call 69; (with_reducible refine (rGCheck_any _ n _ es HV1.out).mono ?_); rintro e w1 ⟨v1, rfl, rfl, hb1⟩; rw [H.out]; have q1 := q0.trans (hb1.mono q0.size); have b1 := hb1; have HS2 := Lib.hid (HS1.out.below hb1 (Nat.le_refl _)); have HK1 := Lib.hid (HK.out.below hb1 (Nat.le_refl _)); have g0 := HK1.out.cell 0 _ rfl; have g1 := HK1.out.cell 1 _ rfl; have gl := HK1.out.lt; clear hb1))
      go_ret2
      exact ⟨_, rfl, _, rfl, Sl.nil' _ _, q2⟩
  · have hne : (chkG n es != 0) = true := by simp [h]
    have HX := Lib.hid (show imgS n es xs = ([], chkG n es) by unfold imgS; rw [if_neg h])
    rw [HX.out]
    obtain ⟨z, hz⟩ : ∃ z, chkG n es = z := ⟨_, rfl⟩
    have HZ := Lib.hid hz
    rw [hz] at hne ⊢
    clear h hz
    go_enter Tryz.func22, Tryz.ntmps22
    go_wp2_with ((go_at_call 69); (with_reducible refine (rGCheck_any _ n _ es HV1.out).mono ?_); rintro e w1 ⟨v1, rfl, rfl, hb1⟩; rw [HZ.out]; have q1 := q0.trans (hb1.mono q0.size); clear hb1)
    go_ret2
    exact ⟨_, rfl, _, rfl, Sl.nil' _ _, q1⟩
end Go.Proofs.YtkkklfikdoibcaaGreatDoor
