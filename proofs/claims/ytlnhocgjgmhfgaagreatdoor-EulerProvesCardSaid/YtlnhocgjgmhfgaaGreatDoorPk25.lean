/- The walks of integer's Sign, Neg, Abs, Of. The walk of integer's Compare. The walks of integer's Abs, Quo, Rem. Plain facts on decimal digits, the last one first. The walks of the reference's digits of integers. The walks of the reference's digits, text and order of integers. The walks of the reference's sums and differences of digits. The walks of the reference's differences and products of digits. The walk of the reference's product of digits. -/
import Derived.Test.YtlnhocgjgmhfgaaGreatDoorPk24
import Derived.Test.YtlnhocgjgmhfgaaGreatDoorPk18
import Derived.Test.YtlnhocgjgmhfgaaGreatDoorPk20
namespace Go.Proofs.YtlnhocgjgmhfgaaGreatDoor
open Go.RowKit
set_option maxRecDepth 100000

/-- The text is the numeral of the integer, and not too long. -/
def Good (s : ByteArray) (z : Int) : Prop := s.data.toList = Lib.itoa z ∧ big z = false
theorem Good.chk {s : ByteArray} {z : Int} (h : Good s z) : chk s.data.toList = 0 := by rw [h.1, chk_itoa, h.2]; rfl
theorem Good.dec {s : ByteArray} {z : Int} (h : Good s z) : (Lib.decDigits z.natAbs).length ≤ 1024 := by
  have := h.2; simp only [big, decide_eq_false_iff_not] at this; omega
theorem Good.size {s : ByteArray} {z : Int} (h : Good s z) : s.size ≤ 1025 := by
  have := h.dec
  rw [Lib.size_eq, h.1, itoa_cases]
  split
  · rw [List.length_cons]; omega
  · omega
theorem wl_dec (z : Int) : wl z ≤ (Lib.decDigits z.natAbs).length := by
  unfold wl
  rw [digs_len _ _ _ (by omega)]
  have h := dv_lt _ (dec_all z.natAbs)
  rw [dv_dec] at h
  exact Nat.lt_of_lt_of_le h (Nat.pow_le_pow_left (by omega) _)
theorem Good.wl {s : ByteArray} {z : Int} (h : Good s z) : wl z ≤ 1024 := Nat.le_trans (wl_dec z) h.dec
theorem good_of {s : ByteArray} (h : chk s.data.toList = 0) : ∃ z, Good s z := by
  obtain ⟨z, e, h2⟩ := chk_form s.data.toList (by rw [h]; decide)
  refine ⟨z, e, ?_⟩
  rw [h] at h2
  cases hb : big z
  · rfl
  · rw [hb] at h2; exact absurd h2 (by decide)

set_option maxHeartbeats 400000 in
theorem Neg_err (w : World) (s : ByteArray) (hsz : s.size ≤ 1000000) (h : chk s.data.toList ≠ 0) :
    Calls Tryz.prog 100 #[.string s] w (Rets fun v w' => v = .tuple #[.string ⟨#[]⟩, .int .i64 (chk s.data.toList)] ∧ Below w.heap.size w w') := by
  have hne : (chk s.data.toList != 0) = true := by simp [h]
  clear h
  go_enter Tryz.func100, Tryz.ntmps100
  go_wp2_with (go_at_call 113; refine (check_any _ _ hsz).mono ?_; rintro e w' ⟨v, rfl, rfl, hb⟩)
  go_ret2
  exact ⟨_, rfl, rfl, hb⟩
/-- What 'result' answers, parted. -/
theorem resV_cases (z : Int) : ∃ (t : ByteArray) (k : Int), resV z = .tuple #[.string t, .int .i64 k] ∧ (big z = true → t = ⟨#[]⟩ ∧ k = 11) ∧ (big z = false → t = txt z ∧ k = 0) := by
  unfold resV
  cases h : big z
  · exact ⟨_, _, rfl, fun h => (by cases h), fun _ => ⟨rfl, rfl⟩⟩
  · exact ⟨_, _, rfl, fun _ => ⟨rfl, rfl⟩, fun h => (by cases h)⟩
set_option maxHeartbeats 400000 in
theorem Neg_ok (w : World) (s : ByteArray) (z : Int) (hz : Good s z) (he : Env w) :
    Calls Tryz.prog 100 #[.string s] w (Rets fun v w' => v = resV (-z) ∧ Below w.heap.size w w') := by
  obtain ⟨t, k, hr, -, -⟩ := resV_cases (-z)
  have HR := Lib.hid hr
  have HZ := Lib.hid hz; have HE := Lib.hid he; clear hz he hr
  go_enter Tryz.func100, Tryz.ntmps100
  go_wp2_with (first
    | (go_at_call 113; refine (check_any _ _ (by have := HZ.out.size; omega)).mono ?_; rintro e w' ⟨v, rfl, rfl, hb⟩; rw [HZ.out.chk])
    | (go_at_call 103; refine (read_any _ _ z HZ.out.1 (by have := HZ.out.size; omega)).mono ?_; rintro e w2 ⟨v, rfl, hn, hb2⟩; have HN := Lib.hid hn; clear hn; have hbb := hb.trans (hb2.mono hb.size))
    | (go_at_call 117; refine (neg_any _ _ z HN.out).mono ?_; rintro e w3 ⟨v, rfl, hn2, hb3⟩; have HN2 := Lib.hid hn2; clear hn2; have hbc := hbb.trans (hb3.mono hbb.size))
    | (go_at_call 102; refine (result_any _ _ (-z) HN2.out (by have := HZ.out.wl; rw [wl_neg]; omega) (HE.out.below hbc (Nat.le_refl _))).mono ?_; rintro e w4 ⟨v, rfl, rfl, hb4⟩; rw [HR.out]))
  go_ret2
  exact ⟨_, rfl, by rw [HR.out]; rfl, hbc.trans (hb4.mono hbc.size)⟩

set_option maxHeartbeats 400000 in
theorem Of_any (w : World) (n : Int) (h0 : -9223372036854775808 ≤ n) (h1 : n ≤ 9223372036854775807) (he : Env w) :
    Calls Tryz.prog 61 #[.int .i64 n] w (Rets fun v w' => v = .string (txt n) ∧ Below w.heap.size w w') := by
  have HE := Lib.hid he; have H0 := Lib.hid h0; have H1 := Lib.hid h1; clear he h0 h1
  go_enter Tryz.func61, Tryz.ntmps61
  go_wp2_with (go_at_call 79; refine (itoa_any n H0.out H1.out _ HE.out).mono ?_; rintro e w' ⟨v, rfl, rfl, hb⟩)
  go_ret
  exact ⟨_, rfl, rfl, hb⟩
end Go.Proofs.YtlnhocgjgmhfgaaGreatDoor

namespace Go.Proofs.YtlnhocgjgmhfgaaGreatDoor
open Go.RowKit
set_option maxRecDepth 100000

theorem Sl.pair (w : World) (s t : ByteArray) (e : TypeId) : Sl eS (w.alloc (.cells #[.string s, .string t] e)) (.slice (some ⟨w.heap.size, 0, none⟩) 2 2) [s, t] :=
  Sl.ofOwns (n := 2) (base := 0) (e := e) ⟨rfl, .inr ⟨w.heap.size, 2, #[.string s, .string t], rfl, by omega, heap_alloc_new w _, by omega, by simp [maxLen], rfl, rfl⟩⟩
theorem chks_pair (s t : ByteArray) : chks [s, t] = if chk s.data.toList = 0 then chk t.data.toList else chk s.data.toList := by
  simp only [chks]
  by_cases h : chk t.data.toList = 0 <;> simp [h]

end Go.Proofs.YtlnhocgjgmhfgaaGreatDoor

namespace Go.Proofs.YtlnhocgjgmhfgaaGreatDoor
open Go.RowKit
set_option maxRecDepth 100000

theorem fmod_abs (x y : Int) (h : y ≠ 0) : (Int.fmod x y).natAbs < y.natAbs := by
  rcases Int.lt_or_gt_of_ne h with h0 | h0
  · have := (Int.fdiv_fmod_unique' (a := x) (b := y) (r := Int.fmod x y) (q := Int.fdiv x y) h0).1 ⟨rfl, rfl⟩
    omega
  · have := (Int.fdiv_fmod_unique (a := x) (b := y) (r := Int.fmod x y) (q := Int.fdiv x y) h0).1 ⟨rfl, rfl⟩
    omega
theorem fdiv_abs (x y : Int) (h : y ≠ 0) : (Int.fdiv x y).natAbs ≤ x.natAbs + y.natAbs := by
  have h1 := Int.fmod_add_mul_fdiv x y
  have h2 := fmod_abs x y h
  have h3 : (y * Int.fdiv x y).natAbs = y.natAbs * (Int.fdiv x y).natAbs := Int.natAbs_mul _ _
  have h4 : (Int.fdiv x y).natAbs ≤ y.natAbs * (Int.fdiv x y).natAbs := Nat.le_mul_of_pos_left _ (by omega)
  omega
theorem wl_fdiv (x y : Int) (h : y ≠ 0) : wl (Int.fdiv x y) ≤ wl x + wl y + 1 := by
  have := digs_len_add 1000000000 x.natAbs y.natAbs (by omega)
  have h2 := digs_len_mono 1000000000 (by omega) (fdiv_abs x y h)
  unfold wl; omega
theorem wl_fmod (x y : Int) (h : y ≠ 0) : wl (Int.fmod x y) ≤ wl x + wl y + 1 := by
  have h2 := digs_len_mono 1000000000 (by omega) (Nat.le_of_lt (fmod_abs x y h))
  unfold wl; omega
theorem Good.eq {s : ByteArray} {z : Int} (h : Good s z) : s = txt z := by
  have := h.1
  unfold txt
  rw [← this]
theorem Good.text {s : ByteArray} (h : Good s 0) : s = ⟨#[48]⟩ := by
  rw [h.eq]
  have e : Lib.itoa 0 = [48] := by rw [itoa_cases, if_neg (by omega), show Int.natAbs 0 = 0 from rfl, Lib.decDigits_one (by omega)]; rfl
  unfold txt; rw [e]
theorem itoa_inj {x y : Int} (h : Lib.itoa x = Lib.itoa y) : x = y := by
  have h1 := congrArg (fun l => Lib.hasPrefix l [45]) h
  have h2 := congrArg (fun l => dv 0 (Lib.trimPrefix l [45])) h
  simp only [pre_itoa, trim_itoa, dv_dec] at h1 h2
  have : (x < 0) = (y < 0) := by simpa using h1
  by_cases hx : x < 0
  · have : y < 0 := by rw [← this]; exact hx
    omega
  · have : ¬ y < 0 := by rw [← this]; exact hx
    omega
theorem Good.not_zero {s : ByteArray} {z : Int} (h : Good s z) (hz : z ≠ 0) : (s.toList == [48]) = false := by
  have e : Lib.itoa 0 = [48] := by rw [itoa_cases, if_neg (by omega), show Int.natAbs 0 = 0 from rfl, Lib.decDigits_one (by omega)]; rfl
  rw [ByteArray.toList_eq, h.1, ← e]
  simp only [beq_eq_false_iff_ne]
  exact fun h => hz (itoa_inj h)

set_option maxHeartbeats 400000 in
theorem Quo_err (w : World) (s t : ByteArray) (hs : s.size ≤ 1000000) (ht : t.size ≤ 1000000) (h : chks [s, t] ≠ 0) :
    Calls Tryz.prog 139 #[.string s, .string t] w (Rets fun v w' => v = .tuple #[.string ⟨#[]⟩, .int .i64 (chks [s, t])] ∧ Below w.heap.size w w') := by
  have hne : (chks [s, t] != 0) = true := by simp [h]
  have hb0 : Below w.heap.size w (w.alloc (.cells #[.string s, .string t] 74)) := (Below.refl _ w).alloc (Nat.le_refl _) _
  have HB0 := Lib.hid hb0
  have HSZ := Lib.hid (show ∀ x ∈ [s, t], x.size ≤ 1000000 by intro x hx; simp at hx; rcases hx with rfl | rfl; exact hs; exact ht)
  clear h hb0
  go_enter Tryz.func139, Tryz.ntmps139
  go_wp2_with (go_at_call 101; refine (checked_any _ _ _ (Sl.pair w s t _) HSZ.out (by simp)).mono ?_; rintro e w' ⟨v, rfl, rfl, hb⟩)
  go_ret2
  exact ⟨_, rfl, rfl, HB0.out.trans (hb.mono (by simp))⟩
set_option maxHeartbeats 400000 in
theorem Quo_zero (w : World) (s t : ByteArray) (x : Int) (hx : Good s x) (hy : Good t 0) :
    Calls Tryz.prog 139 #[.string s, .string t] w (Rets fun v w' => v = .tuple #[.string ⟨#[]⟩, .int .i64 10] ∧ Below w.heap.size w w') := by
  have h0 : chks [s, t] = 0 := by rw [chks_pair, hx.chk, hy.chk]; rfl
  obtain rfl : t = ⟨#[48]⟩ := hy.text
  have hb0 : Below w.heap.size w (w.alloc (.cells #[.string s, .string ⟨#[48]⟩] 74)) := (Below.refl _ w).alloc (Nat.le_refl _) _
  have HB0 := Lib.hid hb0; have H0 := Lib.hid h0
  have HSZ := Lib.hid (show ∀ x ∈ [s, ⟨#[48]⟩], x.size ≤ 1000000 by intro x h; simp at h; rcases h with rfl | rfl; (have := hx.size; omega); (decide))
  clear h0 hb0 hx hy
  go_enter Tryz.func139, Tryz.ntmps139
  go_wp2_with (go_at_call 101; refine (checked_any _ _ _ (Sl.pair w s ⟨#[48]⟩ _) HSZ.out (by simp)).mono ?_; rintro e w1 ⟨v, rfl, rfl, hb1⟩; rw [H0.out]; have b1 := HB0.out.trans (hb1.mono (by simp)))
  go_ret2
  exact ⟨_, rfl, rfl, b1⟩
set_option maxHeartbeats 400000 in
theorem Quo_ok (w : World) (s t : ByteArray) (x y : Int) (hx : Good s x) (hy : Good t y) (h0 : y ≠ 0) (he : Env w) :
    Calls Tryz.prog 139 #[.string s, .string t] w (Rets fun v w' => v = resV (Int.fdiv x y) ∧ Below w.heap.size w w') := by
  have h0' : chks [s, t] = 0 := by rw [chks_pair, hx.chk, hy.chk]; rfl
  have hb0 : Below w.heap.size w (w.alloc (.cells #[.string s, .string t] 74)) := (Below.refl _ w).alloc (Nat.le_refl _) _
  obtain ⟨tt, k, hr, -, -⟩ := resV_cases (Int.fdiv x y)
  have ht0 : (t.toList == [48]) = false := hy.not_zero h0
  have hwl : wl (Int.fdiv x y) ≤ wl x + wl y + 1 := wl_fdiv x y h0
  have HWL := Lib.hid hwl; have HY0 := Lib.hid h0
  have HB0 := Lib.hid hb0; have H0 := Lib.hid h0'; have HX := Lib.hid hx; have HY := Lib.hid hy; have HR := Lib.hid hr; have HE := Lib.hid he
  have HSZ := Lib.hid (show ∀ x ∈ [s, t], x.size ≤ 1000000 by intro x h; simp at h; rcases h with rfl | rfl; (have := hx.size; omega); (have := hy.size; omega))
  clear h0' hb0 hx hy hr he hwl h0
  go_enter Tryz.func139, Tryz.ntmps139
  go_wp2_with (first
    | (go_at_call 101; refine (checked_any _ _ _ (Sl.pair w s t _) HSZ.out (by simp)).mono ?_; rintro e w1 ⟨v, rfl, rfl, hb1⟩; rw [H0.out]; have b1 := HB0.out.trans (hb1.mono (by simp)))
    | (go_at_call_of 103 (Value.string s); refine (read_any _ _ x HX.out.1 (by have := HX.out.size; omega)).mono ?_; rintro e w2 ⟨v, rfl, hn2, hb2⟩; have HN2 := Lib.hid hn2; clear hn2; have b2 := b1.trans (hb2.mono b1.size))
    | (go_at_call_of 103 (Value.string t); refine (read_any _ _ y HY.out.1 (by have := HY.out.size; omega)).mono ?_; rintro e w3 ⟨v, rfl, hn3, hb3⟩; have HN3 := Lib.hid hn3; clear hn3; have b3 := b2.trans (hb3.mono b2.size))
    | (go_at_call 153; refine (down_any _ _ _ x y (HN2.out.below hb3 (Nat.le_refl _)) HN3.out HY0.out (by have := HX.out.wl; omega) (by have := HY.out.wl; omega)).mono ?_; rintro e w5 ⟨v, rfl, ⟨_, _, rfl, ⟨mq, aq, nq, cq, rfl, hmq, hsq⟩, ⟨mr, ar, nr, cr, rfl, hmr, hsr⟩⟩, hb5⟩; have HM5 := Lib.hid hmq; have HS5 := Lib.hid hsq; clear hmq hsq hmr hsr; have b5 := b3.trans (hb5.mono b3.size))
    | (go_at_call 102; have b6 := ((Below.refl w5.heap.size w5).alloc (Nat.le_refl _) (.cells #[.bool mq, .slice aq nq cq] 138)).alloc (by simp) (.cells #[.bool mr, .slice ar nr cr] 138); have b7 := b5.trans (b6.mono b5.size); refine (result_any _ _ _ ⟨_, _, _, _, rfl, HM5.out, HS5.out.below b6 (Nat.le_refl _)⟩ (by have := HX.out.wl; have := HY.out.wl; have := HWL.out; omega) (HE.out.below b7 (Nat.le_refl _))).mono ?_; rintro e w6 ⟨v, rfl, rfl, hb6⟩; rw [HR.out]))
  go_ret2
  exact ⟨_, rfl, by rw [HR.out]; rfl, b7.trans (hb6.mono b7.size)⟩

end Go.Proofs.YtlnhocgjgmhfgaaGreatDoor

namespace Go.Proofs.YtlnhocgjgmhfgaaGreatDoor
open Go.RowKit

/-- The digits in a text, its sign left out. -/
def dl (l : List UInt8) : List Nat := (l.filter (fun c => c != 45)).map (fun c => c.toNat - 48)
theorem dl_nil : dl [] = [] := rfl
theorem dl_minus (l : List UInt8) : dl (45 :: l) = dl l := by simp [dl]
theorem dl_dig (c : UInt8) (l : List UInt8) (h : c ≠ 45) : dl (c :: l) = (c.toNat - 48) :: dl l := by simp [dl, h]
theorem dl_all (l : List UInt8) (h : l.all isDig = true) : dl l = l.map (fun c => c.toNat - 48) := by
  induction l with
  | nil => rfl
  | cons c l ih =>
    simp only [List.all_cons, Bool.and_eq_true] at h
    have hc : c ≠ 45 := by rintro rfl; exact absurd h.1 (by decide)
    rw [dl_dig _ _ hc, ih h.2, List.map_cons]
theorem dl_itoa (z : Int) : dl (Lib.itoa z) = (Lib.decDigits z.natAbs).map (fun c => c.toNat - 48) := by
  rw [itoa_cases]
  split
  · rw [dl_minus, dl_all _ (dec_all _)]
  · rw [dl_all _ (dec_all _)]
theorem val_rev (l : List UInt8) : val 10 ((l.map (fun c => c.toNat - 48)).reverse) = dv 0 l := by
  refine snoc_ind (P := fun l => val 10 ((l.map (fun c => c.toNat - 48)).reverse) = dv 0 l) rfl (fun l c ih => ?_) l
  rw [List.map_append, List.reverse_append, dv_append, dv_cons, dv_nil, ← ih]
  simp only [List.map_cons, List.map_nil, List.reverse_cons, List.reverse_nil, List.nil_append, List.singleton_append, val]
  omega
theorem dl_lt (z : Int) : ∀ d ∈ (dl (Lib.itoa z)).reverse, d < 10 := by
  intro d hd
  rw [List.mem_reverse, dl_itoa] at hd
  obtain ⟨c, hc, rfl⟩ := List.mem_map.1 hd
  have := dec_mem _ c hc
  omega
/-- The digits of an integer's text, without zeros at the end. -/
theorem trim_dl (z : Int) : trim ((dl (Lib.itoa z)).reverse) = digs 10 z.natAbs := by
  refine trim_of 10 _ _ (by omega) (dl_lt z) ?_
  rw [dl_itoa, val_rev, dv_dec]
/-- The bytes of digits, the first one of the text first. -/
def bytesOf (l : List Nat) : List UInt8 := (l.map (fun d => UInt8.ofNat (48 + d))).reverse
theorem bytesOf_nil : bytesOf [] = [] := rfl
theorem bytesOf_snoc (l : List Nat) (d : Nat) : bytesOf (l ++ [d]) = UInt8.ofNat (48 + d) :: bytesOf l := by simp [bytesOf]
theorem bytes_digs (n : Nat) (h : 0 < n) : bytesOf (digs 10 n) = Lib.decDigits n := by
  induction n using Nat.strongRecOn with
  | _ n ih =>
    rw [digs_pos 10 n (by omega) h]
    by_cases hn : n < 10
    · rw [Lib.decDigits_one hn, show n / 10 = 0 by omega, digs_zero, show n % 10 = n by omega]; rfl
    · have e := ih (n / 10) (by omega) (by omega)
      rw [Lib.decDigits, dif_neg hn, ← e]
      simp [bytesOf]
theorem digs10_len (n : Nat) : (digs 10 n).length ≤ (Lib.decDigits n).length := by
  rw [digs_len _ _ _ (by omega)]
  have h := dv_lt _ (dec_all n)
  rwa [dv_dec] at h
theorem digs10_len_eq (n : Nat) (h : 0 < n) : (digs 10 n).length = (Lib.decDigits n).length := by
  rw [← bytes_digs n h]; simp [bytesOf]
/-- What 'result' answers, in two parts. -/
def resT (z : Int) : ByteArray := if big z then ⟨#[]⟩ else txt z
def resK (z : Int) : Int := if big z then 11 else 0
theorem resV_eq (z : Int) : resV z = .tuple #[.string (resT z), .int .i64 (resK z)] := by
  unfold resV resT resK; cases big z <;> rfl
theorem resT_ok {z : Int} (h : big z = false) : resT z = txt z := by unfold resT; rw [h]; rfl
theorem resK_ok {z : Int} (h : big z = false) : resK z = 0 := by unfold resK; rw [h]; rfl
theorem big_digs (z : Int) : big z = decide (1024 < (digs 10 z.natAbs).length) := by
  unfold big
  rcases Nat.eq_zero_or_pos z.natAbs with h | h
  · rw [h, digs_zero, Lib.decDigits_one (by omega)]; rfl
  · rw [digs10_len_eq _ h]
theorem big_iff (z : Int) : big z = false ↔ z.natAbs < 10 ^ 1024 := by
  rw [big_digs, decide_eq_false_iff_not, Nat.not_lt, digs_len _ _ _ (by omega)]
theorem Good.of {z : Int} (h : big z = false) : Good (txt z) z := ⟨rfl, h⟩

/-- One round of the sum of digits: what is left goes on as the digits of a number. -/
theorem added_step (a b : List Nat) (i c : Nat) (os : List Nat) (N : Nat)
    (h : digs 10 N = os ++ digs 10 (c + val 10 (a.drop i) + val 10 (b.drop i))) (hp : 0 < c + val 10 (a.drop i) + val 10 (b.drop i)) :
    digs 10 N = (os ++ [(c + (a.getD i 0 + b.getD i 0)) % 10]) ++ digs 10 ((c + (a.getD i 0 + b.getD i 0)) / 10 + val 10 (a.drop (i + 1)) + val 10 (b.drop (i + 1))) := by
  have key : ∀ l : List Nat, val 10 (l.drop i) = l.getD i 0 + 10 * val 10 (l.drop (i + 1)) := by
    intro l
    by_cases hi : i < l.length
    · rw [List.drop_eq_getElem_cons hi, val]; simp [hi]
    · rw [List.drop_of_length_le (by omega), List.drop_of_length_le (by omega)]; simp [val, List.getElem?_eq_none (Nat.le_of_not_lt hi)]
  rw [h, digs_pos 10 _ (by omega) hp, key a, key b, List.append_assoc]
  congr 1
  have e1 : (c + (a.getD i 0 + 10 * val 10 (a.drop (i + 1))) + (b.getD i 0 + 10 * val 10 (b.drop (i + 1)))) % 10 = (c + (a.getD i 0 + b.getD i 0)) % 10 := by omega
  have e2 : (c + (a.getD i 0 + 10 * val 10 (a.drop (i + 1))) + (b.getD i 0 + 10 * val 10 (b.drop (i + 1)))) / 10 = (c + (a.getD i 0 + b.getD i 0)) / 10 + val 10 (a.drop (i + 1)) + val 10 (b.drop (i + 1)) := by omega
  rw [e1, e2]; rfl
theorem val_digs_drop (n i : Nat) : 0 < val 10 ((digs 10 n).drop i) ↔ i < (digs 10 n).length := by
  have key : ∀ (l : List Nat), l.getLast? ≠ some 0 → l ≠ [] → 0 < val 10 l := by
    intro l
    induction l with
    | nil => intro _ h; exact absurd rfl h
    | cons a l ih =>
      intro h _
      rw [val]
      by_cases hl : l = []
      · subst hl
        have : a ≠ 0 := by simpa using h
        simp [val]; omega
      · have := ih (by rw [List.getLast?_cons] at h; cases hg : l.getLast? with
          | none => simp
          | some b => rw [hg] at h; simpa using h) hl
        omega
  constructor
  · intro h
    rcases Nat.lt_or_ge i (digs 10 n).length with hi | hi
    · exact hi
    · rw [List.drop_of_length_le hi] at h; simp [val] at h
  · intro h
    refine key _ ?_ (by simp; omega)
    have hl := digs_last 10 n (by omega)
    rw [List.getLast?_drop, if_neg (by omega)]
    exact hl
end Go.Proofs.YtlnhocgjgmhfgaaGreatDoor
namespace Go.Proofs.YtlnhocgjgmhfgaaGreatDoor
open Go.RowKit
set_option maxRecDepth 100000

theorem elemInt : ElemOk Tryz.prog 36 3 (.int .i64 0) 1 8 :=
  ⟨Tryz.underlying36, info_parts (by kernel_rfl : (Tryz.prog.info? 3).map (fun i => (i.zero, i.size, i.bytes)) = some (some (.int .i64 0), 1, 8)), rfl, by decide, by kernel_rfl, fun _ => by kernel_rfl⟩

theorem itoa_ne (z : Int) : Lib.itoa z ≠ [] := by
  rw [itoa_cases]; split
  · simp
  · exact dec_ne _
end Go.Proofs.YtlnhocgjgmhfgaaGreatDoor

namespace Go.Proofs.YtlnhocgjgmhfgaaGreatDoor
open Go.RowKit
set_option maxRecDepth 100000

theorem itoa_mem (z : Int) : ∀ c ∈ Lib.itoa z, c = 45 ∨ (48 ≤ c.toNat ∧ c.toNat ≤ 57) := by
  intro c hc
  rw [itoa_cases] at hc
  split at hc
  · rcases List.mem_cons.1 hc with h | h
    · exact .inl h
    · exact .inr (dec_mem _ c h)
  · exact .inr (dec_mem _ c hc)

theorem bytesOf_length (l : List Nat) : (bytesOf l).length = l.length := by simp [bytesOf]
theorem sg_zero (m : Bool) : sg m 0 = 0 := by cases m <;> rfl
theorem txt_pos (m : Bool) (n : Nat) (h : 0 < n) : txt (sg m n) = ⟨(if m then 45 :: Lib.decDigits n else Lib.decDigits n).toArray⟩ := by
  unfold txt
  rw [itoa_cases, sg_abs]
  cases m
  · rw [if_neg (by simp [sg])]; rfl
  · rw [if_pos (by simp [sg]; omega)]; rfl
theorem order_lt {m n : Nat} (h : m < n) : ((m : Int) - n).sign = -1 := Int.sign_eq_neg_one_of_neg (by omega)
theorem order_gt {m n : Nat} (h : n < m) : ((m : Int) - n).sign = 1 := Int.sign_eq_one_of_pos (by omega)
theorem order_eq {m n : Nat} (h : m = n) : ((m : Int) - n).sign = 0 := by subst h; rw [Int.sub_self]; rfl
end Go.Proofs.YtlnhocgjgmhfgaaGreatDoor

namespace Go.Proofs.YtlnhocgjgmhfgaaGreatDoor
open Go.RowKit
set_option maxRecDepth 100000

theorem val_drop_zero (a : List Nat) (i : Nat) (h : a.length ≤ i) : val 10 (a.drop i) = 0 := by rw [List.drop_of_length_le h]; rfl
end Go.Proofs.YtlnhocgjgmhfgaaGreatDoor
namespace Go.Proofs.YtlnhocgjgmhfgaaGreatDoor
open Go.RowKit
set_option maxRecDepth 100000

end Go.Proofs.YtlnhocgjgmhfgaaGreatDoor

namespace Go.Proofs.YtlnhocgjgmhfgaaGreatDoor
open Go.RowKit
set_option maxRecDepth 100000

theorem dig_bound {a b c d : Nat} (ha : a < 10) (hb : b < 10) (hc : c < 10) (hd : d < 10) : c + (d + a * b) < 100 ∧ a * b ≤ 81 := by
  have := Nat.mul_le_mul (show a ≤ 9 by omega) (show b ≤ 9 by omega)
  omega
end Go.Proofs.YtlnhocgjgmhfgaaGreatDoor
