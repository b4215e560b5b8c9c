/- The walks of integer's Sign, Neg, Abs, Of. -/
import Derived.Test.YtcjcknncajinpaaGreatDoorIN
namespace Go.Proofs.YtcjcknncajinpaaGreatDoor
open Go.RowKit
set_option maxRecDepth 100000

/-- The text is the numeral of the integer, and not too long. -/
def Good (s : ByteArray) (z : Int) : Prop := s.data.toList = Lib.itoa z ∧ big z = false
theorem Good.chk {s : ByteArray} {z : Int} (h : Good s z) : chk s.data.toList = 0 := by rw [h.1, chk_itoa, h.2]; rfl
theorem Good.dec {s : ByteArray} {z : Int} (h : Good s z) : (Lib.decDigits z.natAbs).length ≤ 1024 := by
  have := h.2; simp only [big, decide_eq_false_iff_not] at this; omega
theorem Good.size {s : ByteArray} {z : Int} (h : Good s z) : s.size ≤ 1025 := by
  have := h.dec
  rw [Lib.size_eq, h.1, itoa_cases]
  split
  · rw [List.length_cons]; omega
  · omega
theorem wl_dec (z : Int) : wl z ≤ (Lib.decDigits z.natAbs).length := by
  unfold wl
  rw [digs_len _ _ _ (by omega)]
  have h := dv_lt _ (dec_all z.natAbs)
  rw [dv_dec] at h
  exact Nat.lt_of_lt_of_le h (Nat.pow_le_pow_left (by omega) _)
theorem Good.wl {s : ByteArray} {z : Int} (h : Good s z) : wl z ≤ 1024 := Nat.le_trans (wl_dec z) h.dec
theorem good_of {s : ByteArray} (h : chk s.data.toList = 0) : ∃ z, Good s z := by
  obtain ⟨z, e, h2⟩ := chk_form s.data.toList (by rw [h]; decide)
  refine ⟨z, e, ?_⟩
  rw [h] at h2
  cases hb : big z
  · rfl
  · rw [hb] at h2; exact absurd h2 (by decide)

set_option maxHeartbeats 400000 in
theorem Neg_err (w : World) (s : ByteArray) (hsz : s.size ≤ 1000000) (h : chk s.data.toList ≠ 0) :
    Calls Tryz.prog 19 #[.string s] w (Rets fun v w' => v = .tuple #[.string ⟨#[]⟩, .int .i64 (chk s.data.toList)] ∧ Below w.heap.size w w') := by
  have hne : (chk s.data.toList != 0) = true := by simp [h]
  clear h
  go_enter Tryz.func19, Tryz.ntmps19
  go_wp2_with (go_at_call 26; refine (check_any _ _ hsz).mono ?_; rintro e w' ⟨v, rfl, rfl, hb⟩)
  go_ret2
  exact ⟨_, rfl, rfl, hb⟩
/-- What 'result' answers, parted. -/
theorem resV_cases (z : Int) : ∃ (t : ByteArray) (k : Int), resV z = .tuple #[.string t, .int .i64 k] ∧ (big z = true → t = ⟨#[]⟩ ∧ k = 11) ∧ (big z = false → t = txt z ∧ k = 0) := by
  unfold resV
  cases h : big z
  · exact ⟨_, _, rfl, fun h => (by cases h), fun _ => ⟨rfl, rfl⟩⟩
  · exact ⟨_, _, rfl, fun _ => ⟨rfl, rfl⟩, fun h => (by cases h)⟩
set_option maxHeartbeats 400000 in
theorem Neg_ok (w : World) (s : ByteArray) (z : Int) (hz : Good s z) (he : Env w) :
    Calls Tryz.prog 19 #[.string s] w (Rets fun v w' => v = resV (-z) ∧ Below w.heap.size w w') := by
  obtain ⟨t, k, hr, -, -⟩ := resV_cases (-z)
  have HR := Lib.hid hr
  have HZ := Lib.hid hz; have HE := Lib.hid he; clear hz he hr
  go_enter Tryz.func19, Tryz.ntmps19
  go_wp2_with (first
    | (go_at_call 26; refine (check_any _ _ (by have := HZ.out.size; omega)).mono ?_; rintro e w' ⟨v, rfl, rfl, hb⟩; rw [HZ.out.chk])
    | (go_at_call 28; refine (read_any _ _ z HZ.out.1 (by have := HZ.out.size; omega)).mono ?_; rintro e w2 ⟨v, rfl, hn, hb2⟩; have HN := Lib.hid hn; clear hn; have hbb := hb.trans (hb2.mono hb.size))
    | (go_at_call 44; refine (neg_any _ _ z HN.out).mono ?_; rintro e w3 ⟨v, rfl, hn2, hb3⟩; have HN2 := Lib.hid hn2; clear hn2; have hbc := hbb.trans (hb3.mono hbb.size))
    | (go_at_call 30; refine (result_any _ _ (-z) HN2.out (by have := HZ.out.wl; rw [wl_neg]; omega) (HE.out.below hbc (Nat.le_refl _))).mono ?_; rintro e w4 ⟨v, rfl, rfl, hb4⟩; rw [HR.out]))
  go_ret2
  exact ⟨_, rfl, by rw [HR.out]; rfl, hbc.trans (hb4.mono hbc.size)⟩

set_option maxHeartbeats 400000 in
theorem Of_any (w : World) (n : Int) (h0 : -9223372036854775808 ≤ n) (h1 : n ≤ 9223372036854775807) (he : Env w) :
    Calls Tryz.prog 40 #[.int .i64 n] w (Rets fun v w' => v = .string (txt n) ∧ Below w.heap.size w w') := by
  have HE := Lib.hid he; have H0 := Lib.hid h0; have H1 := Lib.hid h1; clear he h0 h1
  go_enter Tryz.func40, Tryz.ntmps40
  go_wp2_with (go_at_call 65; refine (itoa_any n H0.out H1.out _ HE.out).mono ?_; rintro e w' ⟨v, rfl, rfl, hb⟩)
  go_ret
  exact ⟨_, rfl, rfl, hb⟩
end Go.Proofs.YtcjcknncajinpaaGreatDoor
