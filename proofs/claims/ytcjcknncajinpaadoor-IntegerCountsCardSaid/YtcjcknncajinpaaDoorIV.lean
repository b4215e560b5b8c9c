/- The walk of integer's Small. -/
import Derived.Test.YtcjcknncajinpaaDoorIU
import Derived.Lib.AtoiAllCases
namespace Go.Proofs.YtcjcknncajinpaaDoor
open Go.RowKit
set_option maxRecDepth 100000

theorem dv_ge (l : List UInt8) : ∀ acc, acc ≤ dv acc l := by
  induction l with
  | nil => intro acc; rw [dv_nil]; exact Nat.le_refl _
  | cons c l ih => intro acc; rw [dv_cons]; have := ih (acc * 10 + (c.toNat - 48)); omega
theorem parse10 (l : List UInt8) (h : l.all isDig = true) : ∀ acc, acc < 18446744073709551616 → Lib.parseUint10 acc l = if dv acc l < 18446744073709551616 then .ok (dv acc l) else .range := by
  induction l with
  | nil => intro acc ha; rw [dv_nil, if_pos ha]; rfl
  | cons c l ih =>
    intro acc ha
    simp only [List.all_cons, Bool.and_eq_true] at h
    have hx : 48 ≤ c.toNat ∧ c.toNat ≤ 57 := by have := h.1; simp [isDig] at this; exact ⟨this.1, this.2⟩
    have hge := dv_ge l (acc * 10 + (c.toNat - 48))
    rw [Lib.parseUint10, if_pos hx, dv_cons]
    by_cases h1 : 1844674407370955162 ≤ acc
    · rw [if_pos h1, if_neg (by omega)]
    · rw [if_neg h1]
      by_cases h2 : 18446744073709551616 ≤ acc * 10 + (c.toNat - 48)
      · rw [if_pos h2, if_neg (by omega)]
      · rw [if_neg h2]; exact ih h.2 _ (by omega)
theorem mag_dec (n : Nat) : Lib.parseMag (Lib.decDigits n) = if n < 18446744073709551616 then .ok n else .range := by
  unfold Lib.parseMag
  rw [if_neg (dec_ne n), parse10 _ (dec_all n) 0 (by omega), dv_dec]
/-- Is it an int? -/
def isI64 (z : Int) : Bool := decide (-9223372036854775808 ≤ z) && decide (z ≤ 9223372036854775807)
theorem atoi_itoa (z : Int) : Lib.atoiAll (Lib.itoa z) = if isI64 z then .ok z else .range := by
  rw [itoa_cases]
  by_cases h : z < 0
  · rw [if_pos h, Lib.atoiAll_minus, mag_dec]
    by_cases h1 : z.natAbs < 18446744073709551616
    · rw [if_pos h1]
      simp only [Lib.signed]
      by_cases h2 : 9223372036854775808 < z.natAbs
      · rw [if_pos h2, if_neg (by simp [isI64]; omega)]
      · rw [if_neg h2, if_pos (by simp [isI64]; omega)]; congr 1; omega
    · rw [if_neg h1, if_neg (by simp [isI64]; omega)]; rfl
  · rw [if_neg h]
    have hm := dec_mem z.natAbs
    have he := mag_dec z.natAbs
    cases e : Lib.decDigits z.natAbs with
    | nil => exact absurd e (dec_ne _)
    | cons c r =>
      rw [e] at hm he
      have := hm c (by simp)
      rw [Lib.atoiAll_plain c r (by omega) (by omega), he]
      by_cases h1 : z.natAbs < 18446744073709551616
      · rw [if_pos h1]
        simp only [Lib.signless]
        by_cases h2 : 9223372036854775808 ≤ z.natAbs
        · rw [if_pos h2, if_neg (by simp [isI64]; omega)]
        · rw [if_neg h2, if_pos (by simp [isI64]; omega)]; congr 1; omega
      · rw [if_neg h1, if_neg (by simp [isI64]; omega)]; rfl

set_option maxHeartbeats 400000 in
theorem Small_err (w : World) (s : ByteArray) (hsz : s.size ≤ 1000000) (h : chk s.data.toList ≠ 0) :
    Calls Tryd.prog 32 #[.string s] w (Rets fun v w' => v = .tuple #[.int .i64 0, .int .i64 (chk s.data.toList)] ∧ Below w.heap.size w w') := by
  have hne : (chk s.data.toList != 0) = true := by simp [h]
  clear h
  go_enter Tryd.func32, Tryd.ntmps32
  go_wp2_with (go_at_call 35; refine (check_any _ _ hsz).mono ?_; rintro e w' ⟨v, rfl, rfl, hb⟩)
  go_ret2
  exact ⟨_, rfl, rfl, hb⟩
set_option maxHeartbeats 400000 in
theorem Small_ok (w : World) (s : ByteArray) (z : Int) (hz : Good s z) (hi : isI64 z = true) :
    Calls Tryd.prog 32 #[.string s] w (Rets fun v w' => v = .tuple #[.int .i64 z, .int .i64 0] ∧ Below w.heap.size w w') := by
  have hat : Lib.atoiAll s.data.toList = .ok z := by rw [hz.1, atoi_itoa, hi]; rfl
  have HZ := Lib.hid hz; have HAT := Lib.hid hat; clear hz hat hi
  go_enter Tryd.func32, Tryd.ntmps32
  go_wp2_with (first
    | (go_at_call 35; refine (check_any _ _ (by have := HZ.out.size; omega)).mono ?_; rintro e w' ⟨v, rfl, rfl, hb⟩; rw [HZ.out.chk])
    | (go_at_call 62; refine (Tryd.strconv_Atoi_ok s (by have := HZ.out.size; omega) z HAT.out _).mono ?_; rintro e w2 ⟨rfl, hw2⟩; have HW2 := Lib.hid hw2; clear hw2))
  go_ret2
  refine ⟨_, rfl, rfl, ?_⟩
  rcases HW2.out with rfl | ⟨t, rfl⟩
  · exact hb
  · exact hb.trans ((Lib.bytesWorld_below _ _ _).mono hb.size)
set_option maxHeartbeats 400000 in
theorem Small_range (w : World) (s : ByteArray) (z : Int) (hz : Good s z) (hi : isI64 z = false) (he : Env w) :
    Calls Tryd.prog 32 #[.string s] w (Rets fun v w' => v = .tuple #[.int .i64 0, .int .i64 2] ∧ Below w.heap.size w w') := by
  have hat : Lib.atoiAll s.data.toList = .range := by rw [hz.1, atoi_itoa, hi]; rfl
  have HZ := Lib.hid hz; have HAT := Lib.hid hat; have HE := Lib.hid he; clear hz hat hi he
  go_enter Tryd.func32, Tryd.ntmps32
  go_wp2_with (first
    | (go_at_call 35; refine (check_any _ _ (by have := HZ.out.size; omega)).mono ?_; rintro e w' ⟨v, rfl, rfl, hb⟩; rw [HZ.out.chk]; have he2 := HE.out.below hb (Nat.le_refl _); obtain ⟨tp, p, hv⟩ := he2.rng; have HV := Lib.hid hv; clear hv he2)
    | (go_at_call 62; refine (Tryd.strconv_Atoi_range_var s (by have := HZ.out.size; omega) HAT.out tp p _ HV.out).mono ?_; rintro e w2 ⟨N, rfl, hN, hcN, hb2⟩; have HCN := Lib.hid hcN; clear hcN))
  go_ret2
  exact ⟨_, rfl, rfl, hb.trans (hb2.mono hb.size)⟩
end Go.Proofs.YtcjcknncajinpaaDoor
