/- The walks of integer's text of a number, and of its result. -/
import Derived.Test.YtcjcknncajinpaaGreatDoorIJ
namespace Go.Proofs.YtcjcknncajinpaaGreatDoor
open Go.RowKit
set_option maxRecDepth 100000

theorem dec_mem (n : Nat) : ∀ d ∈ Lib.decDigits n, 48 ≤ d.toNat ∧ d.toNat ≤ 57 := by
  induction n using Nat.strongRecOn with
  | _ n ih =>
    rw [Lib.decDigits]
    split
    · intro d hd; simp only [List.mem_singleton] at hd; subst hd
      rw [UInt8.toNat_ofNat']; omega
    · intro d hd
      rcases List.mem_append.1 hd with h | h
      · exact ih (n / 10) (by omega) d h
      · simp only [List.mem_singleton] at h; subst h
        rw [UInt8.toNat_ofNat']; omega
theorem dec_ne (n : Nat) : Lib.decDigits n ≠ [] := by rw [Lib.decDigits]; split <;> simp
theorem dec_minus (n : Nat) : Lib.hasPrefix (Lib.decDigits n) [45] = false := by
  have h := dec_mem n
  cases e : Lib.decDigits n with
  | nil => exact absurd e (dec_ne n)
  | cons d l =>
    rw [e] at h
    have := h d (by simp)
    have hd : d ≠ 45 := by rintro rfl; revert this; decide
    simp [Lib.hasPrefix, List.isPrefixOf]; exact fun h => hd h.symm
theorem itoa_cases (z : Int) : Lib.itoa z = if z < 0 then 45 :: Lib.decDigits z.natAbs else Lib.decDigits z.natAbs := by
  unfold Lib.itoa; split
  · rfl
  · rw [show z.toNat = z.natAbs by omega]
theorem pre_itoa (z : Int) : Lib.hasPrefix (Lib.itoa z) [45] = decide (z < 0) := by
  rw [itoa_cases]; split
  · next h => simp [Lib.hasPrefix, List.isPrefixOf, h]
  · next h => rw [dec_minus]; simp [h]
theorem trim_itoa (z : Int) : Lib.trimPrefix (Lib.itoa z) [45] = Lib.decDigits z.natAbs := by
  unfold Lib.trimPrefix
  rw [pre_itoa, itoa_cases]
  by_cases h : z < 0 <;> simp [h]

theorem dec_len (n : Nat) : (Lib.decDigits n).length ≤ 9 * (digs 1000000000 n).length + 1 := by
  rw [Lib.decDigits_length]
  refine nDigits_le (Nat.lt_of_lt_of_le (lt_pow_len 1000000000 n (by omega)) ?_)
  rw [show (1000000000 : Nat) = 10 ^ 9 from rfl, ← Nat.pow_mul]
  exact Nat.pow_le_pow_right (by omega) (by omega)

/-- The decimal text of an integer. -/
def txt (z : Int) : ByteArray := ⟨(Lib.itoa z).toArray⟩

set_option maxHeartbeats 400000 in
theorem ntext_any (w : World) (x : Value) (z : Int) (hx : Num w x z) (hl : wl z ≤ 1000000000000) (he : Env w) :
    Calls Tryz.prog 62 #[x] w (Rets fun v w' => v = .string (txt z) ∧ Below w.heap.size w w') := by
  obtain ⟨m, a, n, c, rfl, hm, hs⟩ := hx
  have HX := Lib.hid hs; have HE := Lib.hid he
  have e1 := itoa_cases z
  have E1 := Lib.hid e1; have HL := Lib.hid hl
  have hd : ¬ 9223372036854775807 < 1 + (Lib.decDigits z.natAbs).length := by have := dec_len z.natAbs; unfold wl at hl; omega
  clear hs e1 he hl
  have hb0 : Below w.heap.size w (w.alloc (.cells #[.bool m, .slice a n c] 52)) := (Below.refl _ w).alloc (Nat.le_refl _) _
  have HB0 := Lib.hid hb0; clear hb0
  cases m
  · have hz : ¬ z < 0 := by simpa using hm.symm
    clear hm
    go_enter Tryz.func62, Tryz.ntmps62
    go_wp2_with (go_at_call 39; refine (text_any _ _ z.natAbs (HX.out.below HB0.out (Nat.le_refl _)) HL.out (HE.out.below HB0.out (Nat.le_refl _))).mono ?_; rintro e w' ⟨v, rfl, rfl, hb⟩)
    go_ret
    refine ⟨_, rfl, ?_, HB0.out.trans (hb.mono (by simp))⟩
    rw [txt, E1.out, if_neg (by omega)]; rfl
  · have hz : z < 0 := by simpa using hm.symm
    clear hm
    go_enter Tryz.func62, Tryz.ntmps62
    go_wp2_with (go_at_call 39; refine (text_any _ _ z.natAbs (HX.out.below HB0.out (Nat.le_refl _)) HL.out (HE.out.below HB0.out (Nat.le_refl _))).mono ?_; rintro e w' ⟨v, rfl, rfl, hb⟩)
    go_ret
    refine ⟨_, rfl, ?_, HB0.out.trans (hb.mono (by simp))⟩
    rw [txt, E1.out, if_pos hz]
    simp [ByteArray.append, ← ByteArray.append_eq]
set_option maxHeartbeats 400000 in
theorem length_any (w : World) (s : ByteArray) :
    Calls Tryz.prog 63 #[.string s] w (Rets fun v w' => v = .int .i64 ((Lib.trimPrefix s.data.toList [45]).length) ∧ w' = w) := by
  go_enter Tryz.func63, Tryz.ntmps63
  go_wp2_with (go_at_call 81; refine (Tryz.strings_TrimPrefix _ _ _).mono ?_; rintro e w' ⟨rfl, rfl⟩)
  go_ret
  exact ⟨_, rfl, by simp, rfl⟩

/-- Has the integer more digits than the limit? -/
def big (z : Int) : Bool := decide (1024 < (Lib.decDigits z.natAbs).length)
/-- What 'result' answers. -/
def resV (z : Int) : Value := if big z then .tuple #[.string ⟨#[]⟩, .int .i64 11] else .tuple #[.string (txt z), .int .i64 0]

set_option maxHeartbeats 400000 in
theorem result_any (w : World) (x : Value) (z : Int) (hx : Num w x z) (hl : wl z ≤ 1000000000000) (he : Env w) :
    Calls Tryz.prog 30 #[x] w (Rets fun v w' => v = resV z ∧ Below w.heap.size w w') := by
  obtain ⟨m, a, n, c, rfl, hm, hs⟩ := hx
  have HX := Lib.hid hs; have HE := Lib.hid he; have HM := Lib.hid hm; have HL := Lib.hid hl
  have ht : Lib.trimPrefix (txt z).data.toList [45] = Lib.decDigits z.natAbs := trim_itoa z
  have HT := Lib.hid ht
  have hb0 : Below w.heap.size w (w.alloc (.cells #[.bool m, .slice a n c] 52)) := (Below.refl _ w).alloc (Nat.le_refl _) _
  have HB0 := Lib.hid hb0
  clear hs he hm hl ht hb0
  go_enter Tryz.func30, Tryz.ntmps30
  by_cases hg : 1024 < (Lib.decDigits z.natAbs).length
  · have hr : resV z = .tuple #[.string ⟨#[]⟩, .int .i64 11] := by simp [resV, big, hg]
    have HR := Lib.hid hr; clear hr
    go_wp2_with (first
      | (go_at_call 62; refine (ntext_any _ _ z ⟨_, _, _, _, rfl, HM.out, HX.out.below HB0.out (Nat.le_refl _)⟩ HL.out (HE.out.below HB0.out (Nat.le_refl _))).mono ?_; rintro e w' ⟨v, rfl, rfl, hb⟩)
      | (go_at_call 63; refine (length_any _ _).mono ?_; rintro e w' ⟨v, rfl, rfl, rfl⟩; rw [HT.out]))
    go_ret2
    exact ⟨_, rfl, by rw [HR.out]; rfl, HB0.out.trans (hb.mono (by simp))⟩
  · have hr : resV z = .tuple #[.string (txt z), .int .i64 0] := by simp [resV, big, hg]
    have HR := Lib.hid hr; clear hr
    go_wp2_with (first
      | (go_at_call 62; refine (ntext_any _ _ z ⟨_, _, _, _, rfl, HM.out, HX.out.below HB0.out (Nat.le_refl _)⟩ HL.out (HE.out.below HB0.out (Nat.le_refl _))).mono ?_; rintro e w' ⟨v, rfl, rfl, hb⟩)
      | (go_at_call 63; refine (length_any _ _).mono ?_; rintro e w' ⟨v, rfl, rfl, rfl⟩; rw [HT.out]))
    go_ret2
    exact ⟨_, rfl, by rw [HR.out]; rfl, HB0.out.trans (hb.mono (by simp))⟩
end Go.Proofs.YtcjcknncajinpaaGreatDoor
