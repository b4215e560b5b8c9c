/- The walks of integer's Abs, Quo, Rem. -/
import Derived.Test.YtcjcknncajinpaaGreatDoorIQ
namespace Go.Proofs.YtcjcknncajinpaaGreatDoor
open Go.RowKit
set_option maxRecDepth 100000

theorem fmod_abs (x y : Int) (h : y ≠ 0) : (Int.fmod x y).natAbs < y.natAbs := by
  rcases Int.lt_or_gt_of_ne h with h0 | h0
  · have := (Int.fdiv_fmod_unique' (a := x) (b := y) (r := Int.fmod x y) (q := Int.fdiv x y) h0).1 ⟨rfl, rfl⟩
    omega
  · have := (Int.fdiv_fmod_unique (a := x) (b := y) (r := Int.fmod x y) (q := Int.fdiv x y) h0).1 ⟨rfl, rfl⟩
    omega
theorem fdiv_abs (x y : Int) (h : y ≠ 0) : (Int.fdiv x y).natAbs ≤ x.natAbs + y.natAbs := by
  have h1 := Int.fmod_add_mul_fdiv x y
  have h2 := fmod_abs x y h
  have h3 : (y * Int.fdiv x y).natAbs = y.natAbs * (Int.fdiv x y).natAbs := Int.natAbs_mul _ _
  have h4 : (Int.fdiv x y).natAbs ≤ y.natAbs * (Int.fdiv x y).natAbs := Nat.le_mul_of_pos_left _ (by omega)
  omega
theorem wl_fdiv (x y : Int) (h : y ≠ 0) : wl (Int.fdiv x y) ≤ wl x + wl y + 1 := by
  have := digs_len_add 1000000000 x.natAbs y.natAbs (by omega)
  have h2 := digs_len_mono 1000000000 (by omega) (fdiv_abs x y h)
  unfold wl; omega
theorem wl_fmod (x y : Int) (h : y ≠ 0) : wl (Int.fmod x y) ≤ wl x + wl y + 1 := by
  have h2 := digs_len_mono 1000000000 (by omega) (Nat.le_of_lt (fmod_abs x y h))
  unfold wl; omega
theorem Good.eq {s : ByteArray} {z : Int} (h : Good s z) : s = txt z := by
  have := h.1
  unfold txt
  rw [← this]
theorem Good.text {s : ByteArray} (h : Good s 0) : s = ⟨#[48]⟩ := by
  rw [h.eq]
  have e : Lib.itoa 0 = [48] := by rw [itoa_cases, if_neg (by omega), show Int.natAbs 0 = 0 from rfl, Lib.decDigits_one (by omega)]; rfl
  unfold txt; rw [e]
theorem itoa_inj {x y : Int} (h : Lib.itoa x = Lib.itoa y) : x = y := by
  have h1 := congrArg (fun l => Lib.hasPrefix l [45]) h
  have h2 := congrArg (fun l => dv 0 (Lib.trimPrefix l [45])) h
  simp only [pre_itoa, trim_itoa, dv_dec] at h1 h2
  have : (x < 0) = (y < 0) := by simpa using h1
  by_cases hx : x < 0
  · have : y < 0 := by rw [← this]; exact hx
    omega
  · have : ¬ y < 0 := by rw [← this]; exact hx
    omega
theorem Good.not_zero {s : ByteArray} {z : Int} (h : Good s z) (hz : z ≠ 0) : (s.toList == [48]) = false := by
  have e : Lib.itoa 0 = [48] := by rw [itoa_cases, if_neg (by omega), show Int.natAbs 0 = 0 from rfl, Lib.decDigits_one (by omega)]; rfl
  rw [ByteArray.toList_eq, h.1, ← e]
  simp only [beq_eq_false_iff_ne]
  exact fun h => hz (itoa_inj h)

set_option maxHeartbeats 400000 in
theorem Abs_err (w : World) (s : ByteArray) (hsz : s.size ≤ 1000000) (h : chk s.data.toList ≠ 0) :
    Calls Tryz.prog 20 #[.string s] w (Rets fun v w' => v = .tuple #[.string ⟨#[]⟩, .int .i64 (chk s.data.toList)] ∧ Below w.heap.size w w') := by
  have hne : (chk s.data.toList != 0) = true := by simp [h]
  clear h
  go_enter Tryz.func20, Tryz.ntmps20
  go_wp2_with (go_at_call 26; refine (check_any _ _ hsz).mono ?_; rintro e w' ⟨v, rfl, rfl, hb⟩)
  go_ret2
  exact ⟨_, rfl, rfl, hb⟩
set_option maxHeartbeats 400000 in
theorem Abs_ok (w : World) (s : ByteArray) (z : Int) (hz : Good s z) (he : Env w) :
    Calls Tryz.prog 20 #[.string s] w (Rets fun v w' => v = resV (z.natAbs : Int) ∧ Below w.heap.size w w') := by
  obtain ⟨t, k, hr, -, -⟩ := resV_cases (z.natAbs : Int)
  have HR := Lib.hid hr
  have hwl : wl (z.natAbs : Int) ≤ 1024 := by have := hz.wl; unfold wl at *; rw [Int.natAbs_natCast]; exact this
  have HWL := Lib.hid hwl
  have HZ := Lib.hid hz; have HE := Lib.hid he; clear hz he hr hwl
  have hfd : ∀ (w : World) (m : Bool) (a : Option Addr) (n c : Nat), (Instr.field 52 (.agg #[.bool m, .slice a n c]) 1).run Tryz.prog w = .ok (.slice a n c) w := fun _ _ _ _ _ => by kernel_rfl
  go_enter Tryz.func20, Tryz.ntmps20
  go_wp2_with (first
    | (go_at_call 26; refine (check_any _ _ (by have := HZ.out.size; omega)).mono ?_; rintro e w' ⟨v, rfl, rfl, hb⟩; rw [HZ.out.chk])
    | (go_at_call 28; refine (read_any _ _ z HZ.out.1 (by have := HZ.out.size; omega)).mono ?_; rintro e w2 ⟨v, rfl, ⟨m, a, n, c, rfl, hm, hs⟩, hb2⟩; have HN := Lib.hid hs; clear hm hs; have hbb := hb.trans (hb2.mono hb.size))
    | (go_at_call 36; refine (signed_any _ _ _ z.natAbs HN.out).mono ?_; rintro e w3 ⟨v, rfl, hn2, hb3⟩; have HN2 := Lib.hid hn2; clear hn2; have hbc := hbb.trans (hb3.mono hbb.size))
    | (go_at_call 30; refine (result_any _ _ (z.natAbs : Int) HN2.out (by have := HWL.out; omega) (HE.out.below hbc (Nat.le_refl _))).mono ?_; rintro e w4 ⟨v, rfl, rfl, hb4⟩; rw [HR.out]))
  go_ret2
  exact ⟨_, rfl, by rw [HR.out]; rfl, hbc.trans (hb4.mono hbc.size)⟩

set_option maxHeartbeats 400000 in
theorem Quo_err (w : World) (s t : ByteArray) (hs : s.size ≤ 1000000) (ht : t.size ≤ 1000000) (h : chks [s, t] ≠ 0) :
    Calls Tryz.prog 7 #[.string s, .string t] w (Rets fun v w' => v = .tuple #[.string ⟨#[]⟩, .int .i64 (chks [s, t])] ∧ Below w.heap.size w w') := by
  have hne : (chks [s, t] != 0) = true := by simp [h]
  have hb0 : Below w.heap.size w (w.alloc (.cells #[.string s, .string t] 22)) := (Below.refl _ w).alloc (Nat.le_refl _) _
  have HB0 := Lib.hid hb0
  have HSZ := Lib.hid (show ∀ x ∈ [s, t], x.size ≤ 1000000 by intro x hx; simp at hx; rcases hx with rfl | rfl; exact hs; exact ht)
  clear h hb0
  go_enter Tryz.func7, Tryz.ntmps7
  go_wp2_with (go_at_call 27; refine (checked_any _ _ _ (Sl.pair w s t _) HSZ.out (by simp)).mono ?_; rintro e w' ⟨v, rfl, rfl, hb⟩)
  go_ret2
  exact ⟨_, rfl, rfl, HB0.out.trans (hb.mono (by simp))⟩
set_option maxHeartbeats 400000 in
theorem Quo_zero (w : World) (s t : ByteArray) (x : Int) (hx : Good s x) (hy : Good t 0) :
    Calls Tryz.prog 7 #[.string s, .string t] w (Rets fun v w' => v = .tuple #[.string ⟨#[]⟩, .int .i64 10] ∧ Below w.heap.size w w') := by
  have h0 : chks [s, t] = 0 := by rw [chks_pair, hx.chk, hy.chk]; rfl
  obtain rfl : t = ⟨#[48]⟩ := hy.text
  have hb0 : Below w.heap.size w (w.alloc (.cells #[.string s, .string ⟨#[48]⟩] 22)) := (Below.refl _ w).alloc (Nat.le_refl _) _
  have HB0 := Lib.hid hb0; have H0 := Lib.hid h0
  have HSZ := Lib.hid (show ∀ x ∈ [s, ⟨#[48]⟩], x.size ≤ 1000000 by intro x h; simp at h; rcases h with rfl | rfl; (have := hx.size; omega); (decide))
  clear h0 hb0 hx hy
  go_enter Tryz.func7, Tryz.ntmps7
  go_wp2_with (go_at_call 27; refine (checked_any _ _ _ (Sl.pair w s ⟨#[48]⟩ _) HSZ.out (by simp)).mono ?_; rintro e w1 ⟨v, rfl, rfl, hb1⟩; rw [H0.out]; have b1 := HB0.out.trans (hb1.mono (by simp)))
  go_ret2
  exact ⟨_, rfl, rfl, b1⟩
set_option maxHeartbeats 400000 in
theorem Quo_ok (w : World) (s t : ByteArray) (x y : Int) (hx : Good s x) (hy : Good t y) (h0 : y ≠ 0) (he : Env w) :
    Calls Tryz.prog 7 #[.string s, .string t] w (Rets fun v w' => v = resV (Int.fdiv x y) ∧ Below w.heap.size w w') := by
  have h0' : chks [s, t] = 0 := by rw [chks_pair, hx.chk, hy.chk]; rfl
  have hb0 : Below w.heap.size w (w.alloc (.cells #[.string s, .string t] 22)) := (Below.refl _ w).alloc (Nat.le_refl _) _
  obtain ⟨tt, k, hr, -, -⟩ := resV_cases (Int.fdiv x y)
  have ht0 : (t.toList == [48]) = false := hy.not_zero h0
  have hwl : wl (Int.fdiv x y) ≤ wl x + wl y + 1 := wl_fdiv x y h0
  have HWL := Lib.hid hwl; have HY0 := Lib.hid h0
  have HB0 := Lib.hid hb0; have H0 := Lib.hid h0'; have HX := Lib.hid hx; have HY := Lib.hid hy; have HR := Lib.hid hr; have HE := Lib.hid he
  have HSZ := Lib.hid (show ∀ x ∈ [s, t], x.size ≤ 1000000 by intro x h; simp at h; rcases h with rfl | rfl; (have := hx.size; omega); (have := hy.size; omega))
  clear h0' hb0 hx hy hr he hwl h0
  go_enter Tryz.func7, Tryz.ntmps7
  go_wp2_with (first
    | (go_at_call 27; refine (checked_any _ _ _ (Sl.pair w s t _) HSZ.out (by simp)).mono ?_; rintro e w1 ⟨v, rfl, rfl, hb1⟩; rw [H0.out]; have b1 := HB0.out.trans (hb1.mono (by simp)))
    | (go_at_call_of 28 (Value.string s); refine (read_any _ _ x HX.out.1 (by have := HX.out.size; omega)).mono ?_; rintro e w2 ⟨v, rfl, hn2, hb2⟩; have HN2 := Lib.hid hn2; clear hn2; have b2 := b1.trans (hb2.mono b1.size))
    | (go_at_call_of 28 (Value.string t); refine (read_any _ _ y HY.out.1 (by have := HY.out.size; omega)).mono ?_; rintro e w3 ⟨v, rfl, hn3, hb3⟩; have HN3 := Lib.hid hn3; clear hn3; have b3 := b2.trans (hb3.mono b2.size))
    | (go_at_call 29; refine (down_any _ _ _ x y (HN2.out.below hb3 (Nat.le_refl _)) HN3.out HY0.out (by have := HX.out.wl; omega) (by have := HY.out.wl; omega)).mono ?_; rintro e w5 ⟨v, rfl, ⟨_, _, rfl, ⟨mq, aq, nq, cq, rfl, hmq, hsq⟩, ⟨mr, ar, nr, cr, rfl, hmr, hsr⟩⟩, hb5⟩; have HM5 := Lib.hid hmq; have HS5 := Lib.hid hsq; clear hmq hsq hmr hsr; have b5 := b3.trans (hb5.mono b3.size))
    | (go_at_call 30; have b6 := ((Below.refl w5.heap.size w5).alloc (Nat.le_refl _) (.cells #[.bool mq, .slice aq nq cq] 52)).alloc (by simp) (.cells #[.bool mr, .slice ar nr cr] 52); have b7 := b5.trans (b6.mono b5.size); refine (result_any _ _ _ ⟨_, _, _, _, rfl, HM5.out, HS5.out.below b6 (Nat.le_refl _)⟩ (by have := HX.out.wl; have := HY.out.wl; have := HWL.out; omega) (HE.out.below b7 (Nat.le_refl _))).mono ?_; rintro e w6 ⟨v, rfl, rfl, hb6⟩; rw [HR.out]))
  go_ret2
  exact ⟨_, rfl, by rw [HR.out]; rfl, b7.trans (hb6.mono b7.size)⟩

set_option maxHeartbeats 400000 in
theorem Rem_err (w : World) (s t : ByteArray) (hs : s.size ≤ 1000000) (ht : t.size ≤ 1000000) (h : chks [s, t] ≠ 0) :
    Calls Tryz.prog 8 #[.string s, .string t] w (Rets fun v w' => v = .tuple #[.string ⟨#[]⟩, .int .i64 (chks [s, t])] ∧ Below w.heap.size w w') := by
  have hne : (chks [s, t] != 0) = true := by simp [h]
  have hb0 : Below w.heap.size w (w.alloc (.cells #[.string s, .string t] 22)) := (Below.refl _ w).alloc (Nat.le_refl _) _
  have HB0 := Lib.hid hb0
  have HSZ := Lib.hid (show ∀ x ∈ [s, t], x.size ≤ 1000000 by intro x hx; simp at hx; rcases hx with rfl | rfl; exact hs; exact ht)
  clear h hb0
  go_enter Tryz.func8, Tryz.ntmps8
  go_wp2_with (go_at_call 27; refine (checked_any _ _ _ (Sl.pair w s t _) HSZ.out (by simp)).mono ?_; rintro e w' ⟨v, rfl, rfl, hb⟩)
  go_ret2
  exact ⟨_, rfl, rfl, HB0.out.trans (hb.mono (by simp))⟩
set_option maxHeartbeats 400000 in
theorem Rem_zero (w : World) (s t : ByteArray) (x : Int) (hx : Good s x) (hy : Good t 0) :
    Calls Tryz.prog 8 #[.string s, .string t] w (Rets fun v w' => v = .tuple #[.string ⟨#[]⟩, .int .i64 10] ∧ Below w.heap.size w w') := by
  have h0 : chks [s, t] = 0 := by rw [chks_pair, hx.chk, hy.chk]; rfl
  obtain rfl : t = ⟨#[48]⟩ := hy.text
  have hb0 : Below w.heap.size w (w.alloc (.cells #[.string s, .string ⟨#[48]⟩] 22)) := (Below.refl _ w).alloc (Nat.le_refl _) _
  have HB0 := Lib.hid hb0; have H0 := Lib.hid h0
  have HSZ := Lib.hid (show ∀ x ∈ [s, ⟨#[48]⟩], x.size ≤ 1000000 by intro x h; simp at h; rcases h with rfl | rfl; (have := hx.size; omega); (decide))
  clear h0 hb0 hx hy
  go_enter Tryz.func8, Tryz.ntmps8
  go_wp2_with (go_at_call 27; refine (checked_any _ _ _ (Sl.pair w s ⟨#[48]⟩ _) HSZ.out (by simp)).mono ?_; rintro e w1 ⟨v, rfl, rfl, hb1⟩; rw [H0.out]; have b1 := HB0.out.trans (hb1.mono (by simp)))
  go_ret2
  exact ⟨_, rfl, rfl, b1⟩
set_option maxHeartbeats 400000 in
theorem Rem_ok (w : World) (s t : ByteArray) (x y : Int) (hx : Good s x) (hy : Good t y) (h0 : y ≠ 0) (he : Env w) :
    Calls Tryz.prog 8 #[.string s, .string t] w (Rets fun v w' => v = resV (Int.fmod x y) ∧ Below w.heap.size w w') := by
  have h0' : chks [s, t] = 0 := by rw [chks_pair, hx.chk, hy.chk]; rfl
  have hb0 : Below w.heap.size w (w.alloc (.cells #[.string s, .string t] 22)) := (Below.refl _ w).alloc (Nat.le_refl _) _
  obtain ⟨tt, k, hr, -, -⟩ := resV_cases (Int.fmod x y)
  have ht0 : (t.toList == [48]) = false := hy.not_zero h0
  have hwl : wl (Int.fmod x y) ≤ wl x + wl y + 1 := wl_fmod x y h0
  have HWL := Lib.hid hwl; have HY0 := Lib.hid h0
  have HB0 := Lib.hid hb0; have H0 := Lib.hid h0'; have HX := Lib.hid hx; have HY := Lib.hid hy; have HR := Lib.hid hr; have HE := Lib.hid he
  have HSZ := Lib.hid (show ∀ x ∈ [s, t], x.size ≤ 1000000 by intro x h; simp at h; rcases h with rfl | rfl; (have := hx.size; omega); (have := hy.size; omega))
  clear h0' hb0 hx hy hr he hwl h0
  go_enter Tryz.func8, Tryz.ntmps8
  go_wp2_with (first
    | (go_at_call 27; refine (checked_any _ _ _ (Sl.pair w s t _) HSZ.out (by simp)).mono ?_; rintro e w1 ⟨v, rfl, rfl, hb1⟩; rw [H0.out]; have b1 := HB0.out.trans (hb1.mono (by simp)))
    | (go_at_call_of 28 (Value.string s); refine (read_any _ _ x HX.out.1 (by have := HX.out.size; omega)).mono ?_; rintro e w2 ⟨v, rfl, hn2, hb2⟩; have HN2 := Lib.hid hn2; clear hn2; have b2 := b1.trans (hb2.mono b1.size))
    | (go_at_call_of 28 (Value.string t); refine (read_any _ _ y HY.out.1 (by have := HY.out.size; omega)).mono ?_; rintro e w3 ⟨v, rfl, hn3, hb3⟩; have HN3 := Lib.hid hn3; clear hn3; have b3 := b2.trans (hb3.mono b2.size))
    | (go_at_call 29; refine (down_any _ _ _ x y (HN2.out.below hb3 (Nat.le_refl _)) HN3.out HY0.out (by have := HX.out.wl; omega) (by have := HY.out.wl; omega)).mono ?_; rintro e w5 ⟨v, rfl, ⟨_, _, rfl, ⟨mq, aq, nq, cq, rfl, hmq, hsq⟩, ⟨mr, ar, nr, cr, rfl, hmr, hsr⟩⟩, hb5⟩; have HM5 := Lib.hid hmr; have HS5 := Lib.hid hsr; clear hmq hsq hmr hsr; have b5 := b3.trans (hb5.mono b3.size))
    | (go_at_call 30; have b6 := ((Below.refl w5.heap.size w5).alloc (Nat.le_refl _) (.cells #[.bool mq, .slice aq nq cq] 52)).alloc (by simp) (.cells #[.bool mr, .slice ar nr cr] 52); have b7 := b5.trans (b6.mono b5.size); refine (result_any _ _ _ ⟨_, _, _, _, rfl, HM5.out, HS5.out.below b6 (Nat.le_refl _)⟩ (by have := HX.out.wl; have := HY.out.wl; have := HWL.out; omega) (HE.out.below b7 (Nat.le_refl _))).mono ?_; rintro e w6 ⟨v, rfl, rfl, hb6⟩; rw [HR.out]))
  go_ret2
  exact ⟨_, rfl, by rw [HR.out]; rfl, b7.trans (hb6.mono b7.size)⟩
end Go.Proofs.YtcjcknncajinpaaGreatDoor
