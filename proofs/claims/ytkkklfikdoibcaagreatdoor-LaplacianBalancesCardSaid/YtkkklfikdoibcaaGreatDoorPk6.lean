/- The walk of integer's Small. The walks of the reference's Small and Of. The walks of integer's Add and Mul. The walk of integer's Sub. The walk of matrix's elimination: one entry, one column. A region that draws its order: a condition on the world that holds till the late operations come. The walks of the reference's Without, Turned, Of, One and Least of matrices. The walk of the reference's Det. The walk of matrix's column: one column of the elimination. A range over a function whose values lie in memory: what the iterator says of the world at each value and behind the last one goes through to the caller; the body never leaves the loop. -/
import Derived.Test.YtkkklfikdoibcaaGreatDoorPk4
import Derived.Lib.AtoiAllCases
import Derived.Test.YtkkklfikdoibcaaGreatDoorPk5
import Derived.Test.YtkkklfikdoibcaaGreatDoorPk1
import Derived.Test.YtkkklfikdoibcaaGreatDoorPk3
namespace Go.Proofs.YtkkklfikdoibcaaGreatDoor
open Go.RowKit
set_option maxRecDepth 100000

theorem dv_ge (l : List UInt8) : ∀ acc, acc ≤ dv acc l := by
  induction l with
  | nil => intro acc; rw [dv_nil]; exact Nat.le_refl _
  | cons c l ih => intro acc; rw [dv_cons]; have := ih (acc * 10 + (c.toNat - 48)); omega
theorem parse10 (l : List UInt8) (h : l.all isDig = true) : ∀ acc, acc < 18446744073709551616 → Lib.parseUint10 acc l = if dv acc l < 18446744073709551616 then .ok (dv acc l) else .range := by
  induction l with
  | nil => intro acc ha; rw [dv_nil, if_pos ha]; rfl
  | cons c l ih =>
    intro acc ha
    simp only [List.all_cons, Bool.and_eq_true] at h
    have hx : 48 ≤ c.toNat ∧ c.toNat ≤ 57 := by have := h.1; simp [isDig] at this; exact ⟨this.1, this.2⟩
    have hge := dv_ge l (acc * 10 + (c.toNat - 48))
    rw [Lib.parseUint10, if_pos hx, dv_cons]
    by_cases h1 : 1844674407370955162 ≤ acc
    · rw [if_pos h1, if_neg (by omega)]
    · rw [if_neg h1]
      by_cases h2 : 18446744073709551616 ≤ acc * 10 + (c.toNat - 48)
      · rw [if_pos h2, if_neg (by omega)]
      · rw [if_neg h2]; exact ih h.2 _ (by omega)
theorem mag_dec (n : Nat) : Lib.parseMag (Lib.decDigits n) = if n < 18446744073709551616 then .ok n else .range := by
  unfold Lib.parseMag
  rw [if_neg (dec_ne n), parse10 _ (dec_all n) 0 (by omega), dv_dec]
/-- Is it an int? -/
def isI64 (z : Int) : Bool := decide (-9223372036854775808 ≤ z) && decide (z ≤ 9223372036854775807)
theorem atoi_itoa (z : Int) : Lib.atoiAll (Lib.itoa z) = if isI64 z then .ok z else .range := by
  rw [itoa_cases]
  by_cases h : z < 0
  · rw [if_pos h, Lib.atoiAll_minus, mag_dec]
    by_cases h1 : z.natAbs < 18446744073709551616
    · rw [if_pos h1]
      simp only [Lib.signed]
      by_cases h2 : 9223372036854775808 < z.natAbs
      · rw [if_pos h2, if_neg (by simp [isI64]; omega)]
      · rw [if_neg h2, if_pos (by simp [isI64]; omega)]; congr 1; omega
    · rw [if_neg h1, if_neg (by simp [isI64]; omega)]; rfl
  · rw [if_neg h]
    have hm := dec_mem z.natAbs
    have he := mag_dec z.natAbs
    cases e : Lib.decDigits z.natAbs with
    | nil => exact absurd e (dec_ne _)
    | cons c r =>
      rw [e] at hm he
      have := hm c (by simp)
      rw [Lib.atoiAll_plain c r (by omega) (by omega), he]
      by_cases h1 : z.natAbs < 18446744073709551616
      · rw [if_pos h1]
        simp only [Lib.signless]
        by_cases h2 : 9223372036854775808 ≤ z.natAbs
        · rw [if_pos h2, if_neg (by simp [isI64]; omega)]
        · rw [if_neg h2, if_pos (by simp [isI64]; omega)]; congr 1; omega
      · rw [if_neg h1, if_neg (by simp [isI64]; omega)]; rfl

end Go.Proofs.YtkkklfikdoibcaaGreatDoor

namespace Go.Proofs.YtkkklfikdoibcaaGreatDoor
open Go.RowKit
set_option maxRecDepth 100000

theorem gmax : Good ⟨#[57, 50, 50, 51, 51, 55, 50, 48, 51, 54, 56, 53, 52, 55, 55, 53, 56, 48, 55]⟩ 9223372036854775807 := good_lit (by decide) (by decide)
theorem gmin : Good ⟨#[45, 57, 50, 50, 51, 51, 55, 50, 48, 51, 54, 56, 53, 52, 55, 55, 53, 56, 48, 56]⟩ (-9223372036854775808) := good_lit (by decide) (by decide)
theorem val_drop_cons (xs : List Nat) (k : Nat) (h : k < xs.length) : val 10 (xs.drop k) = xs[k] + 10 * val 10 (xs.drop (k + 1)) := by
  rw [List.drop_eq_getElem_cons h]; rfl
theorem val_drop_le (xs : List Nat) : ∀ k, val 10 (xs.drop k) ≤ val 10 xs := by
  induction xs with
  | nil => intro k; simp
  | cons a l ih =>
    intro k
    cases k with
    | zero => simp
    | succ k => rw [List.drop_succ_cons]; have := ih k; simp only [val]; omega
theorem digs_split (n k : Nat) (os : List Nat) (hk : 0 < k) (h : digs 10 n = os ++ digs 10 k) : digs 10 n = (os ++ [k % 10]) ++ digs 10 (k / 10) := by
  rw [h, digs_pos 10 k (by omega) hk, List.append_assoc]; rfl
set_option maxHeartbeats 1000000 in
theorem rOf_pos (w : World) (n : Nat) (h1 : n ≤ 9223372036854775807) :
    Calls Tryz.prog 146 #[.int .i64 n] w (Rets fun v w' => v = .string (txt n) ∧ Below w.heap.size w w') := by
  have hL : (digs 10 n).length ≤ 19 := (digs_len 10 n 19 (by omega)).2 (by omega)
  have HL := Lib.hid hL
  have h0 : (0 : Int) ≤ n := by omega
  have hnn : (n : Int) ≤ 9223372036854775807 := by omega
  have HS := Lib.hid (show sg false n = (n : Int) from rfl)
  clear hL h1
  go_enter Tryz.func146, Tryz.ntmps146
  go_wp2
  go_loopw [0, 4] (fun m l wr => ∃ (k : Nat) (os : List Nat), m = .int .i64 k ∧ k ≤ n ∧ Hid (digs 10 n = os ++ digs 10 k) ∧ Hid (os.length ≤ 19) ∧ wr.ownsRow w.heap.size 3 1 l os.length (os.map eI) ∧ Below w.heap.size w wr) (fun m _ _ => (intOf m).toNat)
  case atStart => exact ⟨n, [], rfl, Nat.le_refl _, Lib.hid rfl, Lib.hid (by simp), World.ownsRow_nil _ _ _ _, Below.refl _ _⟩
  case round =>
    obtain ⟨k, os, rfl, hkn, hd, hol, hown, hb⟩ := hrel
    have hbs := hb.size
    by_cases hk0 : k = 0
    · subst hk0
      have ho : os = digs 10 n := by rw [hd.out, digs_zero, List.append_nil]
      have HO := Lib.hid (show Sl eI wr _ (digs 10 n) from ho ▸ Sl.ofOwns hown)
      obtain ⟨a3, b3, o3, c3, hl3, -, -, -, -⟩ := HO.out.open elemInt
      clear ho hown
      subst hl3
      go_wp2_with (go_at_call 187; (with_reducible refine (rtext_any _ _ n false HO.out (by have := HL.out; omega)).mono ?_); rintro e w2 ⟨v, rfl, rfl, hb2⟩; rw [HS.out])
      go_ret
      exact ⟨_, rfl, rfl, hb.trans (hb2.mono hb.size)⟩
    · have hk1 : 0 < k := by omega
      have HD := Lib.hid (digs_split n k os hk1 hd.out)
      have hol2 : os.length ≤ 19 := hol.out
      have hol3 : os.length + 1 ≤ 19 := by
        have := congrArg List.length HD.out
        simp at this; have := HL.out; omega
      go_wp2_with (at_builtin; refine app1 elemInt rfl _ _ rfl rfl rfl hown hb (Nat.le_refl _) hbs rfl (by simp [Value.oneCell']) (by omega) (by unfold maxLen; omega) ?_; intro v' w2 hown' hb')
      go_roundw
      case rel => exact ⟨k / 10, os ++ [k % 10], congrArg (Value.int .i64) (by omega), by omega, HD, Lib.hid (by simp; omega), by simpa [eI] using hown', hb'⟩
      case measure => simp [intOf]; omega
set_option maxHeartbeats 1000000 in
theorem rOf_neg (w : World) (n : Nat) (h1 : n ≤ 9223372036854775808) (hn0 : 0 < n) :
    Calls Tryz.prog 146 #[.int .i64 (-(n : Int))] w (Rets fun v w' => v = .string (txt (-(n : Int))) ∧ Below w.heap.size w w') := by
  have hL : (digs 10 n).length ≤ 19 := (digs_len 10 n 19 (by omega)).2 (by omega)
  have HL := Lib.hid hL
  have h0 : -(n : Int) < 0 := by omega
  have hnn : (n : Int) ≤ 9223372036854775808 := by omega
  have HS := Lib.hid (show sg true n = -(n : Int) from rfl)
  clear hL h1
  go_enter Tryz.func146, Tryz.ntmps146
  go_wp2
  go_loopw [0, 4] (fun m l wr => ∃ (k : Nat) (os : List Nat), m = .int .i64 (-(k : Int)) ∧ k ≤ n ∧ Hid (digs 10 n = os ++ digs 10 k) ∧ Hid (os.length ≤ 19) ∧ wr.ownsRow w.heap.size 3 1 l os.length (os.map eI) ∧ Below w.heap.size w wr) (fun m _ _ => (-(intOf m)).toNat)
  case atStart => exact ⟨n, [], rfl, Nat.le_refl _, Lib.hid rfl, Lib.hid (by simp), World.ownsRow_nil _ _ _ _, Below.refl _ _⟩
  case round =>
    obtain ⟨k, os, rfl, hkn, hd, hol, hown, hb⟩ := hrel
    have hbs := hb.size
    by_cases hk0 : k = 0
    · subst hk0
      have hdl : 0 < (digs 10 n).length := by rw [List.length_pos_iff, Ne, digs_nil (by omega)]; omega
      have ho : os = digs 10 n := by rw [hd.out, digs_zero, List.append_nil]
      have HO := Lib.hid (show Sl eI wr _ (digs 10 n) from ho ▸ Sl.ofOwns hown)
      obtain ⟨a3, b3, o3, c3, hl3, -, -, -, -⟩ := HO.out.open elemInt
      clear ho hown
      subst hl3
      go_wp2_with (go_at_call 187; (with_reducible refine (rtext_any _ _ n true HO.out (by have := HL.out; omega)).mono ?_); rintro e w2 ⟨v, rfl, rfl, hb2⟩; rw [HS.out])
      go_ret
      exact ⟨_, rfl, rfl, hb.trans (hb2.mono hb.size)⟩
    · have hk1 : 0 < k := by omega
      have HD := Lib.hid (digs_split n k os hk1 hd.out)
      have hol2 : os.length ≤ 19 := hol.out
      have hol3 : os.length + 1 ≤ 19 := by
        have := congrArg List.length HD.out
        simp at this; have := HL.out; omega
      rcases (show (k : Int) % 10 = 0 ∨ 0 < (k : Int) % 10 by omega) with hkm | hkm
      all_goals
        go_wp2_with (at_builtin; refine app1 elemInt rfl _ _ rfl rfl rfl hown hb (Nat.le_refl _) hbs rfl (by simp [Value.oneCell']) (by omega) (by unfold maxLen; omega) ?_; intro v' w2 hown' hb')
        go_roundw
        case rel => exact ⟨k / 10, os ++ [k % 10], congrArg (Value.int .i64) (by omega), by omega, HD, Lib.hid (by simp; omega), by first | simpa [eI] using hown' | (rw [show k % 10 = 0 by omega]; simpa [eI] using hown'), hb'⟩
        case measure => simp [intOf]; omega
theorem rOf_any (w : World) (n : Int) (h0 : -9223372036854775808 ≤ n) (h1 : n ≤ 9223372036854775807) :
    Calls Tryz.prog 146 #[.int .i64 n] w (Rets fun v w' => v = .string (txt n) ∧ Below w.heap.size w w') := by
  rcases Int.lt_or_le n 0 with h | h
  · obtain ⟨k, rfl⟩ : ∃ k : Nat, n = -(k : Int) := ⟨n.natAbs, by omega⟩
    exact rOf_neg w k (by omega) (by omega)
  · obtain ⟨k, rfl⟩ : ∃ k : Nat, n = (k : Int) := ⟨n.natAbs, by omega⟩
    exact rOf_pos w k (by omega)
end Go.Proofs.YtkkklfikdoibcaaGreatDoor

namespace Go.Proofs.YtkkklfikdoibcaaGreatDoor
open Go.RowKit
set_option maxRecDepth 100000

set_option maxHeartbeats 400000 in
theorem both_err (w : World) (s t : ByteArray) (f : Value) (hs : s.size ≤ 1000000) (ht : t.size ≤ 1000000) (h : chks [s, t] ≠ 0) :
    Calls Tryz.prog 141 #[.string s, .string t, f] w (Rets fun v w' => v = .tuple #[.string ⟨#[]⟩, .int .i64 (chks [s, t])] ∧ Below w.heap.size w w') := by
  have hne : (chks [s, t] != 0) = true := by simp [h]
  have hb0 : Below w.heap.size w (w.alloc (.cells #[.string s, .string t] 48)) := (Below.refl _ w).alloc (Nat.le_refl _) _
  have HB0 := Lib.hid hb0
  have HSZ := Lib.hid (show ∀ x ∈ [s, t], x.size ≤ 1000000 by intro x hx; simp at hx; rcases hx with rfl | rfl; exact hs; exact ht)
  clear h hb0
  go_enter Tryz.func141, Tryz.ntmps141
  go_wp2_with (go_at_call 182; refine (checked_any _ _ _ (Sl.pair w s t _) HSZ.out (by simp)).mono ?_; rintro e w' ⟨v, rfl, rfl, hb⟩)
  go_ret2
  exact ⟨_, rfl, rfl, HB0.out.trans (hb.mono (by simp))⟩

set_option maxHeartbeats 400000 in
theorem both_sum (w : World) (s t : ByteArray) (x y : Int) (hx : Good s x) (hy : Good t y) (he : Env w) :
    Calls Tryz.prog 141 #[.string s, .string t, .func (.func 143) #[] #[]] w (Rets fun v w' => v = resV (x + y) ∧ Below w.heap.size w w') := by
  have h0 : chks [s, t] = 0 := by rw [chks_pair, hx.chk, hy.chk]; rfl
  have hb0 : Below w.heap.size w (w.alloc (.cells #[.string s, .string t] 48)) := (Below.refl _ w).alloc (Nat.le_refl _) _
  obtain ⟨tt, k, hr, -, -⟩ := resV_cases (x + y)
  have hwl := wl_add x y
  have HWL := Lib.hid hwl
  have HB0 := Lib.hid hb0; have H0 := Lib.hid h0; have HX := Lib.hid hx; have HY := Lib.hid hy; have HR := Lib.hid hr; have HE := Lib.hid he
  have HSZ := Lib.hid (show ∀ x ∈ [s, t], x.size ≤ 1000000 by intro x h; simp at h; rcases h with rfl | rfl; (have := hx.size; omega); (have := hy.size; omega))
  clear h0 hb0 hx hy hr he hwl
  go_enter Tryz.func141, Tryz.ntmps141
  go_wp2_with (first
    | (go_at_call 182; refine (checked_any _ _ _ (Sl.pair w s t _) HSZ.out (by simp)).mono ?_; rintro e w1 ⟨v, rfl, rfl, hb1⟩; rw [H0.out]; have b1 := HB0.out.trans (hb1.mono (by simp)))
    | (go_at_call_of 153 (Value.string s); refine (read_any _ _ x HX.out.1 (by have := HX.out.size; omega)).mono ?_; rintro e w2 ⟨v, rfl, hn2, hb2⟩; have HN2 := Lib.hid hn2; clear hn2; have b2 := b1.trans (hb2.mono b1.size))
    | (go_at_call_of 153 (Value.string t); refine (read_any _ _ y HY.out.1 (by have := HY.out.size; omega)).mono ?_; rintro e w3 ⟨v, rfl, hn3, hb3⟩; have HN3 := Lib.hid hn3; clear hn3; have b3 := b2.trans (hb3.mono b2.size))
    | (go_at_call 143; refine (sum_any _ _ _ x y (HN2.out.below hb3 (Nat.le_refl _)) HN3.out (by have := HX.out.wl; omega) (by have := HY.out.wl; omega)).mono ?_; rintro e w5 ⟨v, rfl, hn5, hb5⟩; have HN5 := Lib.hid hn5; clear hn5; have b5 := b3.trans (hb5.mono b3.size))
    | (go_at_call 152; refine (result_any _ _ _ HN5.out (by have := HX.out.wl; have := HY.out.wl; have := HWL.out; omega) (HE.out.below b5 (Nat.le_refl _))).mono ?_; rintro e w6 ⟨v, rfl, rfl, hb6⟩; rw [HR.out]))
  go_ret2
  exact ⟨_, rfl, by rw [HR.out]; rfl, b5.trans (hb6.mono b5.size)⟩
set_option maxHeartbeats 400000 in
theorem both_product (w : World) (s t : ByteArray) (x y : Int) (hx : Good s x) (hy : Good t y) (he : Env w) :
    Calls Tryz.prog 141 #[.string s, .string t, .func (.func 206) #[] #[]] w (Rets fun v w' => v = resV (x * y) ∧ Below w.heap.size w w') := by
  have h0 : chks [s, t] = 0 := by rw [chks_pair, hx.chk, hy.chk]; rfl
  have hb0 : Below w.heap.size w (w.alloc (.cells #[.string s, .string t] 48)) := (Below.refl _ w).alloc (Nat.le_refl _) _
  obtain ⟨tt, k, hr, -, -⟩ := resV_cases (x * y)
  have hwl := wl_mul x y
  have HWL := Lib.hid hwl
  have HB0 := Lib.hid hb0; have H0 := Lib.hid h0; have HX := Lib.hid hx; have HY := Lib.hid hy; have HR := Lib.hid hr; have HE := Lib.hid he
  have HSZ := Lib.hid (show ∀ x ∈ [s, t], x.size ≤ 1000000 by intro x h; simp at h; rcases h with rfl | rfl; (have := hx.size; omega); (have := hy.size; omega))
  clear h0 hb0 hx hy hr he hwl
  go_enter Tryz.func141, Tryz.ntmps141
  go_wp2_with (first
    | (go_at_call 182; refine (checked_any _ _ _ (Sl.pair w s t _) HSZ.out (by simp)).mono ?_; rintro e w1 ⟨v, rfl, rfl, hb1⟩; rw [H0.out]; have b1 := HB0.out.trans (hb1.mono (by simp)))
    | (go_at_call_of 153 (Value.string s); refine (read_any _ _ x HX.out.1 (by have := HX.out.size; omega)).mono ?_; rintro e w2 ⟨v, rfl, hn2, hb2⟩; have HN2 := Lib.hid hn2; clear hn2; have b2 := b1.trans (hb2.mono b1.size))
    | (go_at_call_of 153 (Value.string t); refine (read_any _ _ y HY.out.1 (by have := HY.out.size; omega)).mono ?_; rintro e w3 ⟨v, rfl, hn3, hb3⟩; have HN3 := Lib.hid hn3; clear hn3; have b3 := b2.trans (hb3.mono b2.size))
    | (go_at_call 206; refine (product_any _ _ _ x y (HN2.out.below hb3 (Nat.le_refl _)) HN3.out (by have := HX.out.wl; have := HY.out.wl; omega)).mono ?_; rintro e w5 ⟨v, rfl, hn5, hb5⟩; have HN5 := Lib.hid hn5; clear hn5; have b5 := b3.trans (hb5.mono b3.size))
    | (go_at_call 152; refine (result_any _ _ _ HN5.out (by have := HX.out.wl; have := HY.out.wl; have := HWL.out; omega) (HE.out.below b5 (Nat.le_refl _))).mono ?_; rintro e w6 ⟨v, rfl, rfl, hb6⟩; rw [HR.out]))
  go_ret2
  exact ⟨_, rfl, by rw [HR.out]; rfl, b5.trans (hb6.mono b5.size)⟩

set_option maxHeartbeats 400000 in
theorem Mul_err (w : World) (s t : ByteArray) (hs : s.size ≤ 1000000) (ht : t.size ≤ 1000000) (h : chks [s, t] ≠ 0) :
    Calls Tryz.prog 162 #[.string s, .string t] w (Rets fun v w' => v = .tuple #[.string ⟨#[]⟩, .int .i64 (chks [s, t])] ∧ Below w.heap.size w w') := by
  go_enter Tryz.func162, Tryz.ntmps162
  go_wp2_with (go_at_call 141; refine (both_err _ _ _ _ hs ht h).mono ?_; rintro e w' ⟨v, rfl, rfl, hb⟩)
  go_ret2
  exact ⟨_, rfl, rfl, hb⟩
set_option maxHeartbeats 400000 in
theorem Mul_ok (w : World) (s t : ByteArray) (x y : Int) (hx : Good s x) (hy : Good t y) (he : Env w) :
    Calls Tryz.prog 162 #[.string s, .string t] w (Rets fun v w' => v = resV (x * y) ∧ Below w.heap.size w w') := by
  obtain ⟨tt, k, hr, -, -⟩ := resV_cases (x * y)
  have HR := Lib.hid hr; have HX := Lib.hid hx; have HY := Lib.hid hy; have HE := Lib.hid he
  clear hr hx hy he
  go_enter Tryz.func162, Tryz.ntmps162
  go_wp2_with (go_at_call 141; refine (both_product _ _ _ x y HX.out HY.out HE.out).mono ?_; rintro e w' ⟨v, rfl, rfl, hb⟩; rw [HR.out])
  go_ret2
  exact ⟨_, rfl, by rw [HR.out]; rfl, hb⟩
end Go.Proofs.YtkkklfikdoibcaaGreatDoor

namespace Go.Proofs.YtkkklfikdoibcaaGreatDoor
open Go.RowKit
set_option maxRecDepth 100000

theorem Boxes.both {w w1 : World} {m : Bool} {a : Option Addr} {n c : Nat} {m' : Bool} {a' : Option Addr} {n' c' : Nat} (h : Boxes w m a n c m' a' n' c' w1) : Boxes w m a n c m' a' n' c' w1 ∧ (w1.cell? ⟨w.heap.size, 0, none⟩ = some (.bool m) ∧ w1.cell? ⟨w.heap.size, 1, none⟩ = some (.slice a n c) ∧ w1.cell? ⟨w.heap.size + 1, 0, none⟩ = some (.bool m') ∧ w1.cell? ⟨w.heap.size + 1, 1, none⟩ = some (.slice a' n' c')) := ⟨h, h.facts⟩

set_option maxHeartbeats 1000000 in
theorem sub1_any (w : World) (x y : Value) (s t : Int) (hx : Num w x s) (hy : Num w y t) (hl : wl s ≤ 1000000000000) (hl' : wl t ≤ 1000000000000) :
    Calls Tryz.prog 142 #[x, y] w (Rets fun v w' => Num w' v (s - t) ∧ Below w.heap.size w w') := by
  obtain ⟨m, a, n, c, rfl, hm, hs⟩ := hx
  obtain ⟨m', a', n', c', rfl, hm', hs'⟩ := hy
  have HX := Lib.hid hs; have HY := Lib.hid hs'; have HM := Lib.hid hm; have HM' := Lib.hid hm'
  have HBX := Lib.hid (Boxes.made w m a n c m' a' n' c')
  have HL := Lib.hid hl; have HL' := Lib.hid (show wl (-t) ≤ 1000000000000 by rw [wl_neg]; exact hl')
  clear hs hs' hm hm' hl hl'
  go_enter Tryz.func142, Tryz.ntmps142
  go_wp2_with fail
  go_region_held3 (fun w' => Boxes w m a n c m' a' n' c' w' ∧ (w'.cell? ⟨w.heap.size, 0, none⟩ = some (.bool m) ∧ w'.cell? ⟨w.heap.size, 1, none⟩ = some (.slice a n c) ∧ w'.cell? ⟨w.heap.size + 1, 0, none⟩ = some (.bool m') ∧ w'.cell? ⟨w.heap.size + 1, 1, none⟩ = some (.slice a' n' c')))
    (((with_reducible refine Boxes.both ?_); first
      | with_reducible exact HBX.out.drew
      | with_reducible refine Boxes.store (And.left (by assumption)) _ _ _ _
      | with_reducible refine Boxes.keep (And.left (by assumption)) (by assumption)))
    (first
      | (go_at_call 144; refine (neg_any _ _ t ⟨_, _, _, _, rfl, HM'.out, HY.out.below (Boxes.below' (by assumption)) (Nat.le_refl _)⟩).mono ?_; rintro e w2 ⟨v, rfl, hn2, hb2⟩; have HN2 := Lib.hid hn2; clear hn2)
      | (go_at_call 143; refine (sum_any _ _ _ s (-t) ⟨_, _, _, _, rfl, HM.out, HX.out.below (Boxes.below' (by assumption)) (Nat.le_refl _)⟩ HN2.out HL.out HL'.out).mono ?_; rintro e w3 ⟨v, rfl, ⟨m1, a1, n1, c1, rfl, hm1, hs1⟩, hb⟩; have HM1 := Lib.hid hm1; clear hm1; have hk := Boxes.keep (And.left (by assumption)) hb; obtain ⟨p, q, hk0, hk1, hf0, hf1⟩ := hk.res))
  all_goals
    obtain ⟨g1, r0, r1, hst⟩ := hk.stored (r := m1) hs1
    have HG := Lib.hid g1; have HST := Lib.hid hst
    clear g1 hst hs1
    go_wp2
    refine bodyPost_ret (v := .agg #[.bool m1, .slice a1 n1 c1]) (by simp [results, Tryz.results142, go_sem, r0, r1]) rfl ?_
    exact ⟨_, rfl, ⟨_, _, _, _, rfl, by rw [Int.sub_eq_add_neg]; exact HM1.out, by rw [Int.sub_eq_add_neg]; exact HG.out⟩, HST.out⟩
theorem wl_sub (x y : Int) : wl (x - y) ≤ max (wl x) (wl y) + 1 := by
  rw [Int.sub_eq_add_neg]; have := wl_add x (-y); rwa [wl_neg] at this
set_option maxHeartbeats 400000 in
theorem both_sub (w : World) (s t : ByteArray) (x y : Int) (hx : Good s x) (hy : Good t y) (he : Env w) :
    Calls Tryz.prog 141 #[.string s, .string t, .func (.func 142) #[] #[]] w (Rets fun v w' => v = resV (x - y) ∧ Below w.heap.size w w') := by
  have h0 : chks [s, t] = 0 := by rw [chks_pair, hx.chk, hy.chk]; rfl
  have hb0 : Below w.heap.size w (w.alloc (.cells #[.string s, .string t] 48)) := (Below.refl _ w).alloc (Nat.le_refl _) _
  obtain ⟨tt, k, hr, -, -⟩ := resV_cases (x - y)
  have hwl := wl_sub x y
  have HWL := Lib.hid hwl
  have HB0 := Lib.hid hb0; have H0 := Lib.hid h0; have HX := Lib.hid hx; have HY := Lib.hid hy; have HR := Lib.hid hr; have HE := Lib.hid he
  have HSZ := Lib.hid (show ∀ x ∈ [s, t], x.size ≤ 1000000 by intro x h; simp at h; rcases h with rfl | rfl; (have := hx.size; omega); (have := hy.size; omega))
  clear h0 hb0 hx hy hr he hwl
  go_enter Tryz.func141, Tryz.ntmps141
  go_wp2_with (first
    | (go_at_call 182; refine (checked_any _ _ _ (Sl.pair w s t _) HSZ.out (by simp)).mono ?_; rintro e w1 ⟨v, rfl, rfl, hb1⟩; rw [H0.out]; have b1 := HB0.out.trans (hb1.mono (by simp)))
    | (go_at_call_of 153 (Value.string s); refine (read_any _ _ x HX.out.1 (by have := HX.out.size; omega)).mono ?_; rintro e w2 ⟨v, rfl, hn2, hb2⟩; have HN2 := Lib.hid hn2; clear hn2; have b2 := b1.trans (hb2.mono b1.size))
    | (go_at_call_of 153 (Value.string t); refine (read_any _ _ y HY.out.1 (by have := HY.out.size; omega)).mono ?_; rintro e w3 ⟨v, rfl, hn3, hb3⟩; have HN3 := Lib.hid hn3; clear hn3; have b3 := b2.trans (hb3.mono b2.size))
    | (go_at_call 142; refine (sub1_any _ _ _ x y (HN2.out.below hb3 (Nat.le_refl _)) HN3.out (by have := HX.out.wl; omega) (by have := HY.out.wl; omega)).mono ?_; rintro e w5 ⟨v, rfl, hn5, hb5⟩; have HN5 := Lib.hid hn5; clear hn5; have b5 := b3.trans (hb5.mono b3.size))
    | (go_at_call 152; refine (result_any _ _ _ HN5.out (by have := HX.out.wl; have := HY.out.wl; have := HWL.out; omega) (HE.out.below b5 (Nat.le_refl _))).mono ?_; rintro e w6 ⟨v, rfl, rfl, hb6⟩; rw [HR.out]))
  go_ret2
  exact ⟨_, rfl, by rw [HR.out]; rfl, b5.trans (hb6.mono b5.size)⟩
set_option maxHeartbeats 400000 in
theorem Sub_err (w : World) (s t : ByteArray) (hs : s.size ≤ 1000000) (ht : t.size ≤ 1000000) (h : chks [s, t] ≠ 0) :
    Calls Tryz.prog 85 #[.string s, .string t] w (Rets fun v w' => v = .tuple #[.string ⟨#[]⟩, .int .i64 (chks [s, t])] ∧ Below w.heap.size w w') := by
  go_enter Tryz.func85, Tryz.ntmps85
  go_wp2_with (go_at_call 141; refine (both_err _ _ _ _ hs ht h).mono ?_; rintro e w' ⟨v, rfl, rfl, hb⟩)
  go_ret2
  exact ⟨_, rfl, rfl, hb⟩
set_option maxHeartbeats 400000 in
theorem Sub_ok (w : World) (s t : ByteArray) (x y : Int) (hx : Good s x) (hy : Good t y) (he : Env w) :
    Calls Tryz.prog 85 #[.string s, .string t] w (Rets fun v w' => v = resV (x - y) ∧ Below w.heap.size w w') := by
  obtain ⟨tt, k, hr, -, -⟩ := resV_cases (x - y)
  have HR := Lib.hid hr; have HX := Lib.hid hx; have HY := Lib.hid hy; have HE := Lib.hid he
  clear hr hx hy he
  go_enter Tryz.func85, Tryz.ntmps85
  go_wp2_with (go_at_call 141; refine (both_sub _ _ _ x y HX.out HY.out HE.out).mono ?_; rintro e w' ⟨v, rfl, rfl, hb⟩; rw [HR.out])
  go_ret2
  exact ⟨_, rfl, by rw [HR.out]; rfl, hb⟩

end Go.Proofs.YtkkklfikdoibcaaGreatDoor

namespace Go.Proofs.YtkkklfikdoibcaaGreatDoor
open Go.RowKit
set_option maxRecDepth 100000

theorem setCell_same {w : World} {g j : Nat} {cs : List Value} {T : TypeId} {u : Value} (h : Blk w g cs T) (hu : cs[j]? = some u) : w.setCell ⟨g, j, none⟩ u = w := by
  have e : w.heap.modify g (fun | .cells c elem frozen => .cells (if (none : Option Nat).isSome then c else c.setIfInBounds j u) elem frozen | o => o) = w.heap := by
    refine Array.ext (by simp) fun i h1 h2 => ?_
    rw [Array.getElem_modify]
    split
    · rename_i hi
      subst hi
      have := (Array.getElem?_eq_some_iff.1 h).2
      rw [this]
      simp only [Option.isSome_none, Bool.false_eq_true, if_false]
      congr 1
      rw [List.setIfInBounds_toArray]
      congr 1
      obtain ⟨hj, hv⟩ := List.getElem?_eq_some_iff.1 hu
      rw [← hv]; exact List.set_getElem_self hj
    · rfl
  cases w
  simp only [World.setCell] at *
  congr 1
theorem big_abs {z : Int} {K : Nat} (h : z.natAbs < 10 ^ K) (hK : K ≤ 1024) : big z = false := by
  have h1 := (digs_len 10 z.natAbs K (by omega)).2 h
  rw [big_digs, decide_eq_false_iff_not]; omega
/-- What reduced is called with, and that nothing becomes too long. -/
structure RedOk (a d b c l : Int) : Prop where
  ha : big a = false
  hd : big d = false
  hb : big b = false
  hc : big c = false
  hl : big l = false
  l0 : l ≠ 0
  ad : big (a * d) = false
  bc : big (b * c) = false
  su : big (a * d - b * c) = false
  q : big (Int.fdiv (a * d - b * c) l) = false
theorem resV_good {z : Int} (h : big z = false) : resV z = .tuple #[.string (txt z), .int .i64 0] := by unfold resV; rw [h]; rfl
set_option maxHeartbeats 4000000 in
theorem reduced_any (w : World) (g : Nat) (rv sv kv : Value) (a d b c l : Int) (hk : Blk w g [rv, .string (txt l), sv, kv, .int .i64 0] 149) (hr : RedOk a d b c l) (he : Env w) :
    Calls Tryz.prog 204 #[.pointer (some ⟨g, 0, none⟩), .string (txt a), .string (txt d), .string (txt b), .string (txt c)] w (Rets fun v w' => v = .string (txt (Int.fdiv (a * d - b * c) l)) ∧ Below w.heap.size w w') := by
  have HK := Lib.hid hk; have HR := Lib.hid hr; have HE := Lib.hid he
  have R1 := Lib.hid (resV_good hr.ad); have R2 := Lib.hid (resV_good hr.bc); have R3 := Lib.hid (resV_good hr.su); have R4 := Lib.hid (resV_good hr.q)
  have k4 := hk.cell 4 _ rfl
  have hg := hk.lt
  clear hk hr he
  go_enter Tryz.func204, Tryz.ntmps204
  go_wp2_with (first
    | (go_at_call_of 162 (Value.string (txt a)); (with_reducible refine (Mul_ok _ _ _ a d (.of HR.out.ha) (.of HR.out.hd) HE.out).mono ?_); rintro e w1 ⟨v1, rfl, rfl, hb1⟩; rw [R1.out]; have K1 := Lib.hid (HK.out.below hb1 (Nat.le_refl _)); have E1 := Lib.hid (setCell_same K1.out (show [rv, .string (txt l), sv, kv, Value.int .i64 0][4]? = some (.int .i64 0) from rfl)); have c4 := K1.out.cell 4 _ rfl; have f4 := K1.out.free 4; have B1 := Lib.hid hb1; clear hb1)
    | (go_at_call_of 162 (Value.string (txt b)); (with_reducible refine (Mul_ok _ _ _ b c (.of HR.out.hb) (.of HR.out.hc) (HE.out.below (by rw [E1.out]; exact B1.out) (Nat.le_refl _))).mono ?_); rintro e w2 ⟨v2, rfl, rfl, hb2⟩; rw [E1.out] at hb2; rw [R2.out]; have K2 := Lib.hid (K1.out.below hb2 (Nat.le_refl _)); have E2 := Lib.hid (setCell_same K2.out (show [rv, .string (txt l), sv, kv, Value.int .i64 0][4]? = some (.int .i64 0) from rfl)); have d4 := K2.out.cell 4 _ rfl; have g4 := K2.out.free 4; have B2 := Lib.hid (B1.out.trans (hb2.mono B1.out.size)); clear hb2)
    | (go_at_call 85; (with_reducible refine (Sub_ok _ _ _ (a * d) (b * c) (.of HR.out.ad) (.of HR.out.bc) (HE.out.below (by rw [E2.out]; exact B2.out) (Nat.le_refl _))).mono ?_); rintro e w3 ⟨v3, rfl, rfl, hb3⟩; rw [E2.out] at hb3; rw [R3.out]; have K3 := Lib.hid (K2.out.below hb3 (Nat.le_refl _)); have E3 := Lib.hid (setCell_same K3.out (show [rv, .string (txt l), sv, kv, Value.int .i64 0][4]? = some (.int .i64 0) from rfl)); have l4 := K3.out.cell 4 _ rfl; have h4 := K3.out.free 4; have l1 := K3.out.cell 1 _ rfl; have B3 := Lib.hid (B2.out.trans (hb3.mono B2.out.size)); clear hb3)
    | (go_at_call 232; (with_reducible refine (Quo_ok _ _ _ (a * d - b * c) l (.of HR.out.su) (.of HR.out.hl) HR.out.l0 (HE.out.below (by rw [E3.out]; exact B3.out) (Nat.le_refl _))).mono ?_); rintro e w4 ⟨v4, rfl, rfl, hb4⟩; rw [E3.out] at hb4; rw [R4.out]; have K4 := Lib.hid (K3.out.below hb4 (Nat.le_refl _)); have E4 := Lib.hid (setCell_same K4.out (show [rv, .string (txt l), sv, kv, Value.int .i64 0][4]? = some (.int .i64 0) from rfl)); have m4 := K4.out.cell 4 _ rfl; have j4 := K4.out.free 4; have B4 := Lib.hid (B3.out.trans (hb4.mono B3.out.size)); clear hb4))
  go_ret
  exact ⟨_, rfl, rfl, by rw [E4.out]; exact B4.out⟩
end Go.Proofs.YtkkklfikdoibcaaGreatDoor

namespace Go.Proofs.YtkkklfikdoibcaaGreatDoor
open Go.RowKit
set_option maxRecDepth 100000

section
variable {P : Program} {ops : Array Oper} {Q : Exit → Act → World → Prop} {md : Region.Mode} {S : World → Prop} {A : Nat → Bool}

/-- Before operation i comes up no late one does. -/
def early (md : Region.Mode) (ops : Array Oper) (A : Nat → Bool) (i : Nat) : Nat → Array Bool → Bool
  | 0, _ => true
  | n + 1, l => (Region.ready md ops l).all fun j => j == i || (A j && early md ops A i n (l.setIfInBounds j true))

/-- Whatever order is picked, and S holds behind every operation that is not late. -/
def wpAnyJ (P : Program) (md : Region.Mode) (ops : Array Oper) (Q : Exit → Act → World → Prop) (S : World → Prop) (A : Nat → Bool) : Nat → Array Bool → Act → World → Prop
  | 0, listed, a, w => Region.ready md ops listed = [] ∧ Q .normal a w
  | fuel + 1, listed, a, w =>
    (Region.ready md ops listed = [] → Q .normal a w) ∧
    ∀ i ∈ Region.ready md ops listed, wpOp P ops Q i (fun a' w' => (A i = true → S w') ∧ wpAnyJ P md ops Q S A fuel (listed.setIfInBounds i true) a' w') a w
theorem wpAny_ofJ : ∀ (fuel : Nat) (listed : Array Bool) (a : Act) (w : World), wpAnyJ P md ops Q S A fuel listed a w → wpAny P md ops Q fuel listed a w
  | 0, _, _, _, h => h
  | fuel + 1, _, _, _, h => ⟨h.1, fun i hi => wpOp_mono (fun a' w' h' => wpAny_ofJ fuel _ a' w' h'.2) (h.2 i hi)⟩

theorem wpAnyJ_first {i : Nat} {oi : Oper} {v : Value} (hi : ops[i]? = some oi) (hsel : ∀ (j : Nat) (o : Oper) cs b, ops[j]? = some o → o.op ≠ .select cs b)
    (hQ : ∀ c a w, Q (.panic c) (a.put oi.dst v) w → Q (.panic c) a w) :
    ∀ (fuel : Nat) (listed : Array Bool) (a : Act) (w : World),
      (∀ j oj, ops[j]? = some oj → j ≠ i → listed.getD j true = false → (∀ e ∈ oj.after, Region.binds md e = true → e.on ≠ i) → oi.apart ops oj = true) →
      i ∈ Region.ready md ops listed → early md ops A i (fuel + 1) listed = true → YieldsIf P ops S oi v a → S w →
      wpAnyJ P md ops Q S A fuel (listed.setIfInBounds i true) (a.put oi.dst v) w → wpAnyJ P md ops Q S A (fuel + 1) listed a w := by
  intro fuel
  induction fuel with
  | zero =>
    intro listed a w _ hr _ hy hS H
    refine ⟨fun h => (by rw [h] at hr; cases hr), fun j hj => ?_⟩
    by_cases hji : j = i
    · subst hji; exact hy.wpOp hi hS ⟨fun _ => hS, H⟩
    · have := ready_mono hj hji
      rw [H.1] at this
      cases this
  | succ fuel ih =>
    intro listed a w hfree hr hE hy hS H
    refine ⟨fun h => (by rw [h] at hr; cases hr), fun j hj => ?_⟩
    by_cases hji : j = i
    · subst hji; exact hy.wpOp hi hS ⟨fun _ => hS, H⟩
    · have hE1 := hE
      unfold early at hE1
      have hE2 := List.all_eq_true.1 hE1 j hj
      simp only [Bool.or_eq_true, beq_iff_eq, hji, false_or, Bool.and_eq_true] at hE2
      have h1 := H.2 j (ready_mono hj hji)
      obtain ⟨hjun, oj, hoj, hall⟩ := mem_ready.1 hj
      have hnot : ∀ e ∈ oj.after, Region.binds md e = true → e.on ≠ i := fun e he hb heq => by
        have h1 := hall e he hb
        have h0 := (mem_ready.1 hr).1
        rw [heq] at h1
        rcases Nat.lt_or_ge i listed.size with h' | h'
        · simp [h'] at h0 h1; rw [h0] at h1; cases h1
        · simp [Array.getElem?_eq_none h'] at h1
      have h2 := wpOp_putIf hoj (hfree j oj hoj hji hjun hnot) (fun cs b => hsel i oi cs b hi) (fun cs b => hsel j oj cs b hoj) hQ hy h1
      have hfree' : ∀ k ok, ops[k]? = some ok → k ≠ i → (listed.setIfInBounds j true).getD k true = false →
          (∀ e ∈ ok.after, Region.binds md e = true → e.on ≠ i) → oi.apart ops ok = true := fun k ok hk hki hun hno => by
        refine hfree k ok hk hki ?_ hno
        by_cases hjk : j = k
        · subst hjk; exact hjun
        · rw [getD_set_ne true hjk] at hun; exact hun
      refine wpOp_mono (fun a' w' h3 => ⟨h3.2.1, ih (listed.setIfInBounds j true) a' w' hfree' (ready_mono hr (Ne.symm hji)) hE2.2 h3.1 (h3.2.1 hE2.1) ?_⟩) h2
      rw [Array.setIfInBounds_comm _ _ hji]
      exact h3.2.2
theorem wpAnyJ_take {i : Nat} {oi : Oper} {v : Value} {fuel : Nat} {listed : Array Bool} {a : Act} {w : World} (hi : ops[i]? = some oi)
    (hs : Region.noSelect ops = true) (hf : Region.free md ops listed i = true) (hr : (Region.ready md ops listed).contains i = true) (hE : early md ops A i (fuel + 1) listed = true)
    (hQ : ∀ c a w, Q (.panic c) (a.put oi.dst v) w → Q (.panic c) a w) (hy : YieldsIf P ops S oi v a) (hS : S w)
    (h : wpAnyJ P md ops Q S A fuel (listed.setIfInBounds i true) (a.put oi.dst v) w) : wpAnyJ P md ops Q S A (fuel + 1) listed a w :=
  wpAnyJ_first hi (Region.noSelect_spec hs) hQ fuel listed a w (Region.free_spec hi hf) (by simpa using hr) hE hy hS h
/-- One operation alone may come up. -/
theorem wpAnyJ_only {i : Nat} {o : Oper} {fuel : Nat} {listed : Array Bool} {a : Act} {w : World} (hr : Region.ready md ops listed = [i]) (ho : ops[i]? = some o)
    (h : ∀ K' : Act → World → Prop, Shut (∀ a w, (A i = true → S w) → wpAnyJ P md ops Q S A fuel (listed.setIfInBounds i true) a w → K' a w) → if Region.wanted o (yielded ops a.tmps) = true then Oper.wp P o a w K' Q else K' (a.put o.dst undef) w) :
    wpAnyJ P md ops Q S A (fuel + 1) listed a w :=
  ⟨fun h0 => absurd (hr ▸ h0) (by simp), by
    rw [hr]
    intro j hj
    rw [List.mem_singleton] at hj
    subst hj
    exact wpOp_step ho (fun K' hK => h K' (fun a w hS hW => hK a w ⟨hS, hW⟩))⟩
theorem wpAnyJ_done {listed : Array Bool} {a : Act} {w : World} (hr : Region.ready md ops listed = []) (h : Q .normal a w) :
    ∀ fuel, wpAnyJ P md ops Q S A fuel listed a w
  | 0 => ⟨hr, h⟩
  | _ + 1 => ⟨fun _ => h, by rw [hr]; simp⟩
theorem wp_regionJ {id : Nat} {a : Act} {w : World} (hm : P.follows .mixedOrders = true)
    (h : wpAnyJ P .any ops Q S A ops.size (Array.replicate ops.size false) a w.drew) : (Code.region id ops true).wp P Q a w :=
  wp_region_any hm (wpAny_ofJ _ _ _ _ h)
end
end Go.Proofs.YtkkklfikdoibcaaGreatDoor

namespace Go.Proofs.YtkkklfikdoibcaaGreatDoor
open Go.RowKit
set_option maxRecDepth 100000

/-- All below h is as it was in W. -/
def Up (h : Nat) (W w : World) : Prop := h ≤ W.heap.size ∧ Below h W w
theorem Up.drew {h : Nat} {W w : World} (H : Up h W w) : Up h W w.drew := ⟨H.1, H.2.drew⟩
theorem Up.call {h : Nat} {W w w' : World} (H : Up h W w) (hb : Below w.heap.size w w') : Up h W w' := ⟨H.1, H.2.trans (hb.mono (Nat.le_trans H.1 H.2.size))⟩
theorem Up.alloc {h : Nat} {W w : World} (H : Up h W w) (o : Obj) : Up h W (w.alloc o) := ⟨H.1, H.2.alloc (Nat.le_trans H.1 H.2.size) o⟩
theorem Up.app {h B : Nat} {W w w' : World} (H : Up h W w) (hb : Below B w w') (hB : h ≤ B) : Up h W w' := ⟨H.1, H.2.trans (hb.mono hB)⟩
theorem Up.set {h g j : Nat} {W w : World} (H : Up h W w) (hg : h ≤ g) (u : Value) : Up h W (w.setCell ⟨g, j, none⟩ u) := ⟨H.1, H.2.setCell hg u⟩
theorem Up.box {h g : Nat} {W w : World} {cs : List Value} {T : TypeId} (H : Up h W w) (hk : Blk W g cs T) (hg : g < h) : Blk w g cs T := (H.2.block g hg).trans hk
theorem Up.sl {α : Type} {enc : α → Value} {w0 W w : World} {h : Nat} {v : Value} {xs : List α} (H : Up h W w) (hv : Sl enc w0 v xs) (h0 : Below w0.heap.size w0 W) (hh : w0.heap.size ≤ h) : Sl enc w v xs :=
  hv.below (h0.trans (H.2.mono hh)) (Nat.le_refl _)
/-- Three cells of a block below h. -/
theorem held_box {h g : Nat} {W : World} {a b c : Value} {T : TypeId} (hk : Blk W g [a, b, c] T) (hg : g < h) : ∀ w', Up h W w' → Up h W w' ∧ w'.cell? ⟨g, 0, none⟩ = some a ∧ w'.cell? ⟨g, 1, none⟩ = some b ∧ w'.cell? ⟨g, 2, none⟩ = some c :=
  fun _ H => ⟨H, (H.box hk hg).cell 0 _ rfl, (H.box hk hg).cell 1 _ rfl, (H.box hk hg).cell 2 _ rfl⟩
set_option maxHeartbeats 4000000 in
theorem rWithout_any (w : World) (v : Value) (xs : List ByteArray) (r c r0 k0 : Nat) (A : Mat) (hv : Sl eS w v xs) (hx : xs = cellsF r c A) (hr : r ≤ 16) (hc : c ≤ 16) (hr0 : r0 < r) (hk0 : k0 < c) :
    Calls Tryz.prog 93 #[.agg #[.int .i64 r, .int .i64 c, v], .int .i64 r0, .int .i64 k0] w (Rets fun v' w' => ∃ u, v' = .agg #[.int .i64 ((r - 1 : Nat) : Int), .int .i64 ((c - 1 : Nat) : Int), u] ∧ Sl eS w' u (cellsF (r - 1) (c - 1) (mnr A r0 k0)) ∧ Below w.heap.size w w') := by
  have HV := Lib.hid hv
  have HX := Lib.hid hx
  obtain ⟨ad, b, o, cap, rfl, -, -, -, hm⟩ := hv.open elemStr
  clear hv hx
  have HRI := Lib.hid (show (r : Int) - 1 = ((r - 1 : Nat) : Int) by omega)
  have HCI := Lib.hid (show (c : Int) - 1 = ((c - 1 : Nat) : Int) by omega)
  obtain ⟨L, hL⟩ : ∃ L, cellsF (r - 1) (c - 1) (mnr A r0 k0) = L := ⟨_, rfl⟩
  have HN := Lib.hid (fun i k (h1 : i < r) (h2 : k < c) (h3 : i ≠ r0) (h4 : k ≠ k0) => without_next A hr0 hk0 h1 h2 h3 h4)
  have HE := Lib.hid (show L.take (wcnt c r0 k0 r 0) = L by rw [wcnt_end hr0, ← hL]; exact List.take_of_length_le (by rw [cellsF_len]; exact Nat.le_refl _))
  have HLL := Lib.hid (show L.length ≤ 256 by rw [← hL, cellsF_len]; exact Nat.mul_le_mul (show r - 1 ≤ 16 by omega) (show c - 1 ≤ 16 by omega))
  rw [hL] at HN ⊢
  clear hL
  go_enter Tryz.func93, Tryz.ntmps93
  go_wp2
  rw [HRI.out, HCI.out]
  have hF0 := FB.start (w.alloc (.cells #[.int .i64 r, .int .i64 c, .slice ad xs.length cap] 29)) ((r - 1 : Nat) : Int) ((c - 1 : Nat) : Int)
  rw [World.size_alloc] at hF0
  have bM := Blk.new w [.int .i64 r, .int .i64 c, .slice ad xs.length cap] 29
  obtain ⟨W0, hW0⟩ : ∃ W0, w.alloc (.cells #[.int .i64 r, .int .i64 c, .slice ad xs.length cap] 29) = W0 := ⟨_, rfl⟩
  have hbW : Below w.heap.size w W0 := by rw [← hW0]; exact (Below.refl _ _).alloc (Nat.le_refl _) _
  have bM : Blk W0 w.heap.size [.int .i64 r, .int .i64 c, .slice ad xs.length cap] 29 := by rw [← hW0]; exact bM
  have HH := Lib.hid (held_box bM (h := w.heap.size + 1) (by omega))
  have HS0 : Hid (w.heap.size + 1 ≤ W0.heap.size) := Lib.hid (by rw [← hW0]; simp)
  have HBW := Lib.hid hbW
  rw [hW0] at hF0 ⊢
  have HF0 := Lib.hid hF0
  clear hF0 bM hbW hW0
  go_loopw [8] (fun i wr => ∃ k : Nat, k ≤ r ∧ i = .int .i64 k ∧ ∃ v, Hid (FB W0 (w.heap.size + 1) wr ((r - 1 : Nat) : Int) ((c - 1 : Nat) : Int) v (L.take (wcnt c r0 k0 k 0)))) (fun i _ => r - (intOf i).toNat)
  case atStart => exact ⟨0, Nat.zero_le _, rfl, _, Lib.hid (by rw [show wcnt c r0 k0 0 0 = 0 by unfold wcnt; simp]; exact HF0.out)⟩
  case round =>
    clear HF0
    obtain ⟨i, hi, rfl, v, hB⟩ := hrel
    obtain ⟨WA, rfl⟩ : ∃ W, W = wr := ⟨_, rfl⟩
    have m0 := (HH.out WA ⟨HS0.out, hB.out.bel⟩).2
    by_cases hir : i < r
    · obtain ⟨m0, m1, m2⟩ := m0
      go_wp2
      go_loopw [9] (fun j wr => ∃ k : Nat, k ≤ c ∧ j = .int .i64 k ∧ ∃ v, Hid (FB W0 (w.heap.size + 1) wr ((r - 1 : Nat) : Int) ((c - 1 : Nat) : Int) v (L.take (wcnt c r0 k0 i k)))) (fun j _ => c - (intOf j).toNat)
      case atStart => exact ⟨0, Nat.zero_le _, rfl, _, hB⟩
      case round =>
        clear hB m0 m1 m2
        obtain ⟨k, hk, rfl, v, hB⟩ := hrel
        have hU : Up (w.heap.size + 1) W0 wr := ⟨HS0.out, hB.out.bel⟩
        obtain ⟨-, m0, m1, m2⟩ := HH.out wr hU
        by_cases hkc : k < c
        · by_cases hi0 : i = r0
          · have hne : ((i : Int) != (r0 : Int)) = false := by simp [hi0]
            have HW := Lib.hid (show wcnt c r0 k0 i (k + 1) = wcnt c r0 k0 i k from wcnt_skip (.inl hi0))
            clear hi0
            go_wp2
            go_roundw
            case rel => exact ⟨k + 1, by omega, by go_num, v, Lib.hid (by rw [HW.out]; exact hB.out)⟩
            case measure => simp [intOf]; omega
          · have hne : ((i : Int) != (r0 : Int)) = true := by simp; omega
            by_cases hk1 : k = k0
            · have hne2 : ((k : Int) != (k0 : Int)) = false := by simp [hk1]
              have HW := Lib.hid (show wcnt c r0 k0 i (k + 1) = wcnt c r0 k0 i k from wcnt_skip (.inr hk1))
              clear hi0 hk1
              go_wp2
              go_roundw
              case rel => exact ⟨k + 1, by omega, by go_num, v, Lib.hid (by rw [HW.out]; exact hB.out)⟩
              case measure => simp [intOf]; omega
            · have hne2 : ((k : Int) != (k0 : Int)) = true := by simp; omega
              have hNX := HN.out i k hir hkc hi0 hk1
              obtain ⟨T, hTT⟩ : ∃ T, L.take (wcnt c r0 k0 i k) = T := ⟨_, rfl⟩
              rw [hTT] at hB hNX
              have HNX := Lib.hid hNX
              have HG := Lib.hid (show xs[i * c + k]? = some (txt (A i k)) by rw [HX.out]; exact cellsF_get? A hir hkc)
              have HL2 := Lib.hid (show xs.length ≤ 256 by rw [HX.out, cellsF_len]; exact Nat.mul_le_mul hr hc)
              have HTL := Lib.hid (show T.length ≤ 1000000 by rw [← hTT, List.length_take]; have := HLL.out; omega)
              have HVd := Lib.hid (hU.drew.sl HV.out HBW.out (by omega))
              have HU := Lib.hid hU
              have k2 := hB.out.box.cell 2 _ rfl
              have hlt := hB.out.lt
              clear hi0 hk1 hU hNX hTT
              go_wp2_with fail
              have hSd : wr.drew.cell? ⟨w.heap.size + 1 + 1, 2, none⟩ = some (v) ∧ wr.drew.cell? ⟨w.heap.size, 0, none⟩ = some (.int .i64 r) ∧ wr.drew.cell? ⟨w.heap.size, 1, none⟩ = some (.int .i64 c) ∧ wr.drew.cell? ⟨w.heap.size, 2, none⟩ = some (.slice ad xs.length cap) := ⟨k2, m0, m1, m2⟩
              refine wp_regionJ (S := fun w' => w'.cell? ⟨w.heap.size + 1 + 1, 2, none⟩ = some (v) ∧ w'.cell? ⟨w.heap.size, 0, none⟩ = some (.int .i64 r) ∧ w'.cell? ⟨w.heap.size, 1, none⟩ = some (.int .i64 c) ∧ w'.cell? ⟨w.heap.size, 2, none⟩ = some (.slice ad xs.length cap)) (A := fun i => decide (i < 9)) (by kernel_rfl) ?_
              refine wpAnyJ_take (i := 0) (oi := { dst := some 37, op := .fieldAddr _ (.tmp 7) 2, type := _, pos := _, after := _, guard := _ }) (v := ?_) rfl (by kernel_rfl) (by kernel_rfl) (by kernel_rfl) (by kernel_rfl) (fun _ _ _ h => h) (Or.inl ⟨by rfl, ?_⟩) hSd ?_
              rotate_left
              · intro wl hSw
                obtain ⟨s0, s1, s2, s3⟩ := hSw
                go_simp
                with_reducible rfl
              simp only [Act.put, List.setIfInBounds_toArray, List.set_cons_zero, List.set_cons_succ]
              refine wpAnyJ_take (i := 1) (oi := { dst := some 38, op := .load _ (.tmp 37), type := _, pos := _, after := _, guard := _ }) (v := ?_) rfl (by kernel_rfl) (by kernel_rfl) (by kernel_rfl) (by kernel_rfl) (fun _ _ _ h => h) (Or.inl ⟨by rfl, ?_⟩) hSd ?_
              rotate_left
              · intro wl hSw
                obtain ⟨s0, s1, s2, s3⟩ := hSw
                go_simp
                with_reducible rfl
              simp only [Act.put, List.setIfInBounds_toArray, List.set_cons_zero, List.set_cons_succ]
              refine wpAnyJ_take (i := 2) (oi := { dst := some 39, op := .load _ (.tmp 3), type := _, pos := _, after := _, guard := _ }) (v := ?_) rfl (by kernel_rfl) (by kernel_rfl) (by kernel_rfl) (by kernel_rfl) (fun _ _ _ h => h) (Or.inl ⟨by rfl, ?_⟩) hSd ?_
              rotate_left
              · intro wl hSw
                obtain ⟨s0, s1, s2, s3⟩ := hSw
                go_simp
                with_reducible rfl
              simp only [Act.put, List.setIfInBounds_toArray, List.set_cons_zero, List.set_cons_succ]
              refine wpAnyJ_take (i := 3) (oi := { dst := some 40, op := .move (.tmp 8), type := _, pos := _, after := _, guard := _ }) (v := ?_) rfl (by kernel_rfl) (by kernel_rfl) (by kernel_rfl) (by kernel_rfl) (fun _ _ _ h => h) (Or.inl ⟨by rfl, ?_⟩) hSd ?_
              rotate_left
              · intro wl hSw
                obtain ⟨s0, s1, s2, s3⟩ := hSw
                go_simp
                with_reducible rfl
              simp only [Act.put, List.setIfInBounds_toArray, List.set_cons_zero, List.set_cons_succ]
              refine wpAnyJ_take (i := 4) (oi := { dst := some 41, op := .move (.tmp 9), type := _, pos := _, after := _, guard := _ }) (v := ?_) rfl (by kernel_rfl) (by kernel_rfl) (by kernel_rfl) (by kernel_rfl) (fun _ _ _ h => h) (Or.inl ⟨by rfl, ?_⟩) hSd ?_
              rotate_left
              · intro wl hSw
                obtain ⟨s0, s1, s2, s3⟩ := hSw
                go_simp
                with_reducible rfl
              simp only [Act.put, List.setIfInBounds_toArray, List.set_cons_zero, List.set_cons_succ]
              refine wpAnyJ_only (i := 5) (o := { dst := some 42, op := _, type := _, pos := _, after := _, guard := _ }) (by kernel_rfl) rfl (fun K hK => ?_)
              go_simp
              refine (rMat_any _ (r : Int) (c : Int) _ xs c i k _ HVd.out rfl HL2.out HG.out).mono ?_
              rintro e w3 ⟨u3, rfl, rfl, hb3⟩
              have H3 := Lib.hid (hB.out.drew.keep hb3)
              have hlt3 := H3.out.lt
              have hU3 := HU.out.drew.call hb3
              have hS3 := And.intro (H3.out.box.cell 2 _ rfl) (HH.out w3 hU3).2
              refine hK.out _ _ (fun _ => hS3) ?_
              try simp only [Act.put, List.setIfInBounds_toArray, List.set_cons_zero, List.set_cons_succ]
              clear hK K
              refine wpAnyJ_only (i := 6) (o := { dst := some 43, op := _, type := _, pos := _, after := _, guard := _ }) (by kernel_rfl) rfl (fun K hK => ?_)
              go_simp
              refine hK.out _ _ (fun _ => ⟨(H3.out.box.alloc _).cell 2 _ rfl, (HH.out _ (hU3.alloc _)).2⟩) ?_
              try simp only [Act.put, List.setIfInBounds_toArray, List.set_cons_zero, List.set_cons_succ]
              clear hK K
              refine wpAnyJ_only (i := 7) (o := { dst := some 44, op := _, type := _, pos := _, after := _, guard := _ }) (by kernel_rfl) rfl (fun K hK => ?_)
              refine app1R (news := [_]) elemStr rfl _ _ rfl rfl rfl H3.out.row (Below.refl _ _) (Nat.le_refl _) hlt3 rfl (by simp [Value.oneCell']) (by have := HTL.out; omega) (by unfold maxLen; have := HTL.out; omega) ?_
              intro v5 w5 ho5 hb5
              obtain ⟨g6, cap6, rfl⟩ := ownsRow_succ ho5
              have H5 := Lib.hid (H3.out.push hb5 ho5)
              have B5 := H3.out.box6 hb5
              have j2 := B5.cell 2 _ rfl
              have f2 := B5.free 2
              have hS5 := And.intro j2 (HH.out w5 (hU3.app hb5 (by omega))).2
              clear ho5 B5
              refine hK.out _ _ (fun _ => hS5) ?_
              try simp only [Act.put, List.setIfInBounds_toArray, List.set_cons_zero, List.set_cons_succ]
              clear hK K
              refine wpAnyJ_take (i := 8) (oi := { dst := some 45, op := .fieldAddr _ (.tmp 7) 2, type := _, pos := _, after := _, guard := _ }) (v := ?_) rfl (by kernel_rfl) (by kernel_rfl) (by kernel_rfl) (by kernel_rfl) (fun _ _ _ h => h) (Or.inl ⟨by rfl, ?_⟩) hS5 ?_
              rotate_left
              · intro wl hSw
                obtain ⟨s0, s1, s2, s3⟩ := hSw
                go_simp
                with_reducible rfl
              simp only [Act.put, List.setIfInBounds_toArray, List.set_cons_zero, List.set_cons_succ]
              refine wpAnyJ_only (i := 9) (o := { dst := none, op := .store _ (.tmp 45) (.tmp 44), type := _, pos := _, after := _, guard := _ }) (by kernel_rfl) rfl (fun K hK => ?_)
              go_simp
              refine hK.out _ _ (fun h => absurd h (by decide)) ?_
              try simp only [Act.put, List.setIfInBounds_toArray, List.set_cons_zero, List.set_cons_succ]
              clear hK K
              refine wpAnyJ_done (by kernel_rfl) ?_ _
              go_wp2_with fail
              go_roundw
              case rel => exact ⟨k + 1, by omega, by go_num, _, Lib.hid (by rw [HNX.out]; exact H5.out)⟩
              case measure => simp [intOf]; omega
        · obtain rfl : k = c := by omega
          have HW := Lib.hid (wcnt_row (c := k) (r0 := r0) (k0 := k0) (i := i) hk0)
          go_wp2
          go_roundw
          case rel => exact ⟨i + 1, by omega, by go_num, v, Lib.hid (by rw [← HW.out]; exact hB.out)⟩
          case measure => simp [intOf]; omega
    · obtain rfl : i = r := by omega
      have H := Lib.hid (show FB W0 (w.heap.size + 1) WA ((i - 1 : Nat) : Int) ((c - 1 : Nat) : Int) v L by have := hB.out; rwa [HE.out] at this)
      obtain ⟨m0, m1, m2⟩ := m0
      obtain ⟨va, vc, rfl⟩ := own_form H.out.row
      have k0 := H.out.box.cell 0 _ rfl; have k1 := H.out.box.cell 1 _ rfl; have k2 := H.out.box.cell 2 _ rfl
      have r0 := H.out.res.cell 0 _ rfl; have r1 := H.out.res.cell 1 _ rfl; have r2 := H.out.res.cell 2 _ rfl
      have f0 := H.out.res.free 0; have f1 := H.out.res.free 1; have f2 := H.out.res.free 2
      clear hB
      go_wp2
      obtain ⟨hR, hS, hW⟩ := H.out.done
      have q0 := hR.cell 0 _ rfl; have q1 := hR.cell 1 _ rfl; have q2 := hR.cell 2 _ rfl
      exact bodyPost_ret (v := .agg #[.int .i64 ((i - 1 : Nat) : Int), .int .i64 ((c - 1 : Nat) : Int), .slice va L.length vc]) (by simp [results, Tryz.results93, go_sem, q0, q1, q2]) rfl ⟨_, rfl, _, rfl, hS, HBW.out.trans (hW.mono (Nat.le_trans (Nat.le_succ _) HS0.out))⟩
end Go.Proofs.YtkkklfikdoibcaaGreatDoor

namespace Go.Proofs.YtkkklfikdoibcaaGreatDoor
open Go.RowKit
set_option maxRecDepth 100000

theorem dn_zero : dn 0 = 0 := by unfold dn; rw [show Int.natAbs 0 = 0 from rfl, digs_zero]; rfl
theorem dn_one : dn 1 ≤ 1 := by unfold dn; rw [digs_len _ _ _ (by omega)]; decide
/-- The terms of a determinant's expansion. -/
def dterm (n : Nat) (A : Mat) (k : Nat) : Int := sgn k * A 0 k * det n (mnr A 0 k)
theorem det_terms (n : Nat) (A : Mat) : det (n + 1) A = sm (n + 1) (dterm n A) := rfl
theorem sgn_even {k : Nat} (h : k % 2 = 0) : sgn k = 1 := by unfold sgn; rw [if_pos h]
theorem sgn_odd {k : Nat} (h : k % 2 = 1) : sgn k = -1 := by unfold sgn; rw [if_neg (by omega)]
theorem dterm_zero {n k : Nat} {A : Mat} (h : A 0 k = 0) : dterm n A k = 0 := by rw [dterm, h, Int.mul_zero, Int.zero_mul]
theorem dterm_even {n k : Nat} {A : Mat} (h : k % 2 = 0) : dterm n A k = A 0 k * det n (mnr A 0 k) := by rw [dterm, sgn_even h, Int.one_mul]
theorem dterm_odd {n k : Nat} {A : Mat} (h : k % 2 = 1) : dterm n A k = -(A 0 k * det n (mnr A 0 k)) := by rw [dterm, sgn_odd h, Int.neg_mul, Int.one_mul, Int.neg_mul]
theorem dn_sgn (k : Nat) (z w : Int) : dn (sgn k * z * w) = dn (z * w) := by
  unfold sgn; split
  · rw [Int.one_mul]
  · rw [Int.neg_mul, Int.one_mul, Int.neg_mul, dn_neg]
theorem dn_sm {D : Nat} (f : Nat → Int) : ∀ n, (∀ k, k < n → dn (f k) ≤ D) → dn (sm n f) ≤ D + n
  | 0, _ => by rw [sm, dn_zero]; omega
  | n + 1, h => by
    rw [sm]
    have h1 := dn_sm f n fun k hk => h k (by omega)
    have h2 := h n (by omega)
    have := dn_add (sm n f) (f n)
    omega
theorem dn_det {D : Nat} : ∀ (n : Nat) (A : Mat), (∀ i j, i < n → j < n → dn (A i j) ≤ D) → dn (det n A) ≤ 1 + n * (D + n)
  | 0, _, _ => by have := dn_one; simp only [det]; omega
  | n + 1, A, h => by
    rw [det_terms]
    have h1 : ∀ k, k < n + 1 → dn (dterm n A k) ≤ 1 + n * (D + n) + D := fun k hk => by
      rw [dterm, dn_sgn]
      have h2 := dn_mul (A 0 k) (det n (mnr A 0 k))
      have h3 := h 0 k (by omega) hk
      have h4 := dn_det n (mnr A 0 k) fun i j hi hj => h _ _ (sk_lt hi) (sk_lt hj)
      omega
    have := dn_sm _ _ h1
    have e : (n + 1) * (D + (n + 1)) = n * (D + n) + n + D + n + 1 := by simp [Nat.add_mul, Nat.mul_add]; omega
    omega
theorem dn_dterm {D n k : Nat} {A : Mat} (h : ∀ i j, i < n + 1 → j < n + 1 → dn (A i j) ≤ D) : dn (det n (mnr A 0 k)) ≤ 1 + n * (D + n) :=
  dn_det n (mnr A 0 k) fun _ _ hi hj => h _ _ (sk_lt hi) (sk_lt hj)
theorem txt_one : txt 1 = ⟨#[49]⟩ := by unfold txt; rw [itoa_cases, if_neg (by omega), show Int.natAbs 1 = 1 from rfl, Lib.decDigits_one (by omega)]; rfl
theorem txt_z {z : Int} (h : z = 0) : ((txt z).toList == [48]) = true := by subst h; rw [txt_list, itoa0]; rfl
theorem rMat0_any (w : World) (R C : Int) (v : Value) (xs : List ByteArray) (c k : Nat) (s : ByteArray) (hv : Sl eS w v xs) (hC : C = (c : Int)) (hl : xs.length ≤ 256) (hs : xs[0 * c + k]? = some s) :
    Calls Tryz.prog 150 #[.agg #[.int .i64 R, .int .i64 C, v], .int .i64 0, .int .i64 k] w (Rets fun v w' => v = .string s ∧ Below w.heap.size w w') := rMat_any w R C v xs c 0 k s hv hC hl hs
theorem rWithout0_any (w : World) (v : Value) (xs : List ByteArray) (m n k : Nat) (A : Mat) (hv : Sl eS w v xs) (hx : xs = cellsF m m A) (hm : m ≤ 16) (h0 : m - 1 = n) (hk : k < m) :
    Calls Tryz.prog 93 #[.agg #[.int .i64 m, .int .i64 m, v], .int .i64 0, .int .i64 k] w (Rets fun v' w' => ∃ u, v' = .agg #[.int .i64 n, .int .i64 n, u] ∧ Sl eS w' u (cellsF n n (mnr A 0 k)) ∧ Below w.heap.size w w') := by
  subst h0; exact rWithout_any w v xs m m 0 k A hv hx hm hm (by omega) hk
set_option maxHeartbeats 8000000 in
theorem rDet_any : ∀ (n : Nat) (w : World) (v : Value) (xs : List ByteArray) (A : Mat), Sl eS w v xs → xs = cellsF n n A → n ≤ 16 → (∀ i j, i < n → j < n → dn (A i j) ≤ 1100) →
    Calls Tryz.prog 92 #[.agg #[.int .i64 (n : Nat), .int .i64 (n : Nat), v]] w (Rets fun v' w' => v' = .string (txt (det n A)) ∧ Below w.heap.size w w')
  | 0, w, v, xs, A, hv, hx, hn, hd => by
    obtain ⟨ad, b, o, cap, rfl, -, -, -, hm⟩ := hv.open elemStr
    have HT := Lib.hid (show txt (det 0 A) = ⟨#[49]⟩ from txt_one)
    clear hv hx hd
    go_enter Tryz.func92, Tryz.ntmps92
    go_wp2
    go_ret
    exact ⟨_, rfl, by rw [HT.out]; rfl, (Below.refl _ _).alloc (Nat.le_refl _) _⟩
  | n + 1, w, v, xs, A, hv, hx, hn, hd => by
    have IH := Lib.hid (rDet_any n)
    have HV := Lib.hid hv; have HX := Lib.hid hx; have HD := Lib.hid hd
    obtain ⟨ad, b, o, cap, rfl, -, -, -, hm⟩ := hv.open elemStr
    have HDT := Lib.hid (det_terms n A)
    have HLX := Lib.hid (show xs.length ≤ 256 by rw [hx, cellsF_len]; exact Nat.mul_le_mul hn hn)
    clear hv hx hd
    obtain ⟨m, hmn⟩ : ∃ m, n + 1 = m := ⟨_, rfl⟩
    have hm0 : ((m : Nat) : Int) ≠ 0 := by omega
    have hmb : (((m : Nat) : Int) == 0) = false := by simp; omega
    have hm16 : m ≤ 16 := by omega
    have HMN := Lib.hid hmn
    have bM := Blk.new w [.int .i64 (m : Nat), .int .i64 (m : Nat), .slice ad xs.length cap] 29
    obtain ⟨W0, hW0⟩ : ∃ W0, w.alloc (.cells #[.int .i64 (m : Nat), .int .i64 (m : Nat), .slice ad xs.length cap] 29) = W0 := ⟨_, rfl⟩
    have HBW := Lib.hid (show Below w.heap.size w W0 by rw [← hW0]; exact (Below.refl _ _).alloc (Nat.le_refl _) _)
    have bM : Blk W0 w.heap.size [.int .i64 (m : Nat), .int .i64 (m : Nat), .slice ad xs.length cap] 29 := by rw [← hW0]; exact bM
    have HH := Lib.hid (held_box bM (h := w.heap.size + 1) (by omega))
    have HS0 : Hid (w.heap.size + 1 ≤ W0.heap.size) := Lib.hid (by rw [← hW0]; simp)
    have HW0 := Lib.hid hW0
    rw [hmn]
    clear hm0 hmn bM hW0
    go_enter Tryz.func92, Tryz.ntmps92
    go_wp2
    rw [HW0.out]
    go_loopw [3, 4] (fun s i wr => ∃ k : Nat, k ≤ m ∧ i = .int .i64 k ∧ s = .string (txt (sm k (dterm n A))) ∧ Hid (Up (w.heap.size + 1) W0 wr)) (fun _ i _ => m - (intOf i).toNat)
    case atStart => exact ⟨0, Nat.zero_le _, rfl, by rw [sm, txt0], Lib.hid ⟨HS0.out, Below.refl _ _⟩⟩
    case round =>
      obtain ⟨k, hk, rfl, rfl, hU⟩ := hrel
      obtain ⟨-, m0, m1, m2⟩ := HH.out wr hU.out
      by_cases hkm : k < m
      · have hkn : k < n + 1 := by have := HMN.out; omega
        have HG := Lib.hid (show xs[0 * m + k]? = some (txt (A 0 k)) by
          have e1 : xs = cellsF m m A := by rw [← HMN.out]; exact HX.out
          rw [e1]; exact cellsF_get? A (by omega) hkm)
        have hkd := dn_dterm (A := A) (k := k) HD.out
        have hk0 := HD.out 0 k (by omega) hkn
        have hnb : n * (1100 + n) ≤ 18000 := Nat.le_trans (Nat.mul_le_mul (show n ≤ 15 by omega) (show 1100 + n ≤ 1115 by omega)) (by decide)
        have hS : dn (sm k (dterm n A)) ≤ 40000 := by
          have := dn_sm (D := 20000) (dterm n A) k fun j hj => by
            rw [dterm, dn_sgn]
            have h2 := dn_mul (A 0 j) (det n (mnr A 0 j))
            have h3 := HD.out 0 j (by omega) (by omega)
            have h4 := dn_dterm (A := A) (k := j) HD.out
            omega
          omega
        have HKD := Lib.hid hkd; have HK0 := Lib.hid hk0; have HNB := Lib.hid hnb; have HS := Lib.hid hS
        have HSM := Lib.hid (show sm (k + 1) (dterm n A) = sm k (dterm n A) + dterm n A k from rfl)
        have HV2 := Lib.hid (hU.out.sl HV.out HBW.out (by omega))
        have q0 : (0 : Int) ≤ (k : Int) := by omega
        clear hkd hk0 hnb hS
        by_cases h0 : A 0 k = 0
        · have hz := txt_z h0
          have HZ := Lib.hid (dterm_zero (n := n) h0)
          clear h0
          go_wp2_with (go_at_call 150; (with_reducible refine (rMat0_any _ (m : Int) (m : Int) _ xs m k _ HV2.out rfl HLX.out HG.out).mono ?_); rintro e w3 ⟨u, rfl, rfl, hb3⟩)
          go_roundw
          case rel => exact ⟨k + 1, by omega, by go_num, by rw [HSM.out, HZ.out, Int.add_zero], Lib.hid (hU.out.call hb3)⟩
          case measure => simp [intOf]; omega
        · have hz := txt_ne0 h0
          clear h0
          have HM1 := Lib.hid (show m - 1 = n by have := HMN.out; omega)
          have HX2 := Lib.hid (show xs = cellsF m m A by rw [← HMN.out]; exact HX.out)
          have HMP := Lib.hid (show dn (A 0 k * det n (mnr A 0 k)) ≤ 40000 by have := dn_mul (A 0 k) (det n (mnr A 0 k)); have := HKD.out; have := HK0.out; have := HNB.out; omega)
          have HIH := Lib.hid (fun w' u (hs : Sl eS w' u (cellsF n n (mnr A 0 k))) => IH.out w' u _ (mnr A 0 k) hs rfl (by have := HMN.out; omega) (fun i j hi hj => HD.out _ _ (sk_lt hi) (sk_lt hj)))
          by_cases hpar : k % 2 = 1
          · have hq : (((k : Int) % 2) == 1) = true := by simp; omega
            have HTM := Lib.hid (dterm_odd (n := n) (A := A) hpar)
            clear hpar
            go_wp2_with (go_at_call 150; (with_reducible refine (rMat0_any _ (m : Int) (m : Int) _ xs m k _ HV2.out rfl HLX.out HG.out).mono ?_); rintro e w3 ⟨u, rfl, rfl, hb3⟩; have hU3 := hU.out.call hb3; have HU3 := Lib.hid hU3; obtain ⟨-, y0, y1, y2⟩ := HH.out w3 hU3; clear hU3)
            go_region_held3 (fun w' => Up (w.heap.size + 1) W0 w' ∧ w'.cell? ⟨w.heap.size, 0, none⟩ = some (.int .i64 m) ∧ w'.cell? ⟨w.heap.size, 1, none⟩ = some (.int .i64 m) ∧ w'.cell? ⟨w.heap.size, 2, none⟩ = some (.slice ad xs.length cap))
              (((refine HH.out _ ?_); first
                | with_reducible exact HU3.out.drew
                | with_reducible exact Up.call (And.left (by assumption)) (by assumption)
                | with_reducible assumption
                | with_reducible exact And.left (by assumption)))
              (first
                | (go_at_call 150; (with_reducible refine (rMat0_any _ (m : Int) (m : Int) _ xs m k _ (Up.sl (And.left (by assumption)) HV.out HBW.out (by omega)) rfl HLX.out HG.out).mono ?_); rintro e w4 ⟨u4, rfl, rfl, hb4⟩)
                | (go_at_call 93; (with_reducible refine (rWithout0_any _ _ xs m n k A (Up.sl (And.left (by assumption)) HV.out HBW.out (by omega)) HX2.out (by omega) HM1.out (by omega)).mono ?_); rintro e w5 ⟨v5, rfl, ⟨u5, rfl, hs5, hb5⟩⟩; have HS5 := Lib.hid hs5; clear hs5)
                | (go_at_call 92; (first | (with_reducible refine (HIH.out _ _ HS5.out).mono ?_) | (with_reducible refine (HIH.out _ _ (HS5.out.below hb4 (Nat.le_refl _))).mono ?_)); rintro e w6 ⟨u6, rfl, rfl, hb6⟩)
                | (go_at_call 149; (with_reducible refine (Times_any _ (A 0 k) (det n (mnr A 0 k)) (by have := HK0.out; omega) (by have := HKD.out; have := HNB.out; omega)).mono ?_); rintro e w7 ⟨u7, rfl, rfl, hb7⟩))
            all_goals
              go_wp2_with (first
                | (go_at_call 154; (with_reducible refine (Turned_any _ (A 0 k * det n (mnr A 0 k)) (by have := HMP.out; omega)).mono ?_); rintro e w8 ⟨v8, rfl, rfl, hb8⟩; rw [← HTM.out])
                | (go_at_call 148; (with_reducible refine (Plus_any _ (sm k (dterm n A)) (dterm n A k) (by have := HS.out; omega) (by rw [HTM.out, dn_neg]; have := HMP.out; omega)).mono ?_); rintro e w9 ⟨v9, rfl, rfl, hb9⟩; rw [← HSM.out]))
              go_roundw
              case rel => exact ⟨k + 1, by omega, by go_num, rfl, Lib.hid (Up.call (Up.call (And.left (by assumption)) hb8) hb9)⟩
              case measure => simp [intOf]; omega
          · have hq : (((k : Int) % 2) == 1) = false := by simp; omega
            have HTM := Lib.hid (dterm_even (n := n) (A := A) (show k % 2 = 0 by omega))
            clear hpar
            go_wp2_with (go_at_call 150; (with_reducible refine (rMat0_any _ (m : Int) (m : Int) _ xs m k _ HV2.out rfl HLX.out HG.out).mono ?_); rintro e w3 ⟨u, rfl, rfl, hb3⟩; have hU3 := hU.out.call hb3; have HU3 := Lib.hid hU3; obtain ⟨-, y0, y1, y2⟩ := HH.out w3 hU3; clear hU3)
            go_region_held3 (fun w' => Up (w.heap.size + 1) W0 w' ∧ w'.cell? ⟨w.heap.size, 0, none⟩ = some (.int .i64 m) ∧ w'.cell? ⟨w.heap.size, 1, none⟩ = some (.int .i64 m) ∧ w'.cell? ⟨w.heap.size, 2, none⟩ = some (.slice ad xs.length cap))
              (((refine HH.out _ ?_); first
                | with_reducible exact HU3.out.drew
                | with_reducible exact Up.call (And.left (by assumption)) (by assumption)
                | with_reducible assumption
                | with_reducible exact And.left (by assumption)))
              (first
                | (go_at_call 150; (with_reducible refine (rMat0_any _ (m : Int) (m : Int) _ xs m k _ (Up.sl (And.left (by assumption)) HV.out HBW.out (by omega)) rfl HLX.out HG.out).mono ?_); rintro e w4 ⟨u4, rfl, rfl, hb4⟩)
                | (go_at_call 93; (with_reducible refine (rWithout0_any _ _ xs m n k A (Up.sl (And.left (by assumption)) HV.out HBW.out (by omega)) HX2.out (by omega) HM1.out (by omega)).mono ?_); rintro e w5 ⟨v5, rfl, ⟨u5, rfl, hs5, hb5⟩⟩; have HS5 := Lib.hid hs5; clear hs5)
                | (go_at_call 92; (first | (with_reducible refine (HIH.out _ _ HS5.out).mono ?_) | (with_reducible refine (HIH.out _ _ (HS5.out.below hb4 (Nat.le_refl _))).mono ?_)); rintro e w6 ⟨u6, rfl, rfl, hb6⟩)
                | (go_at_call 149; (with_reducible refine (Times_any _ (A 0 k) (det n (mnr A 0 k)) (by have := HK0.out; omega) (by have := HKD.out; have := HNB.out; omega)).mono ?_); rintro e w7 ⟨u7, rfl, rfl, hb7⟩))
            all_goals
              go_wp2_with (go_at_call 148; (with_reducible refine (Plus_any _ (sm k (dterm n A)) (A 0 k * det n (mnr A 0 k)) (by have := HS.out; omega) (by have := HMP.out; omega)).mono ?_); rintro e w9 ⟨v9, rfl, rfl, hb9⟩; rw [← HTM.out, ← HSM.out])
              go_roundw
              case rel => exact ⟨k + 1, by omega, by go_num, rfl, Lib.hid (Up.call (And.left (by assumption)) hb9)⟩
              case measure => simp [intOf]; omega
      · obtain rfl : k = m := by omega
        have HT := Lib.hid (show sm k (dterm n A) = det k A by rw [← HMN.out]; rfl)
        go_wp2
        go_ret
        exact ⟨_, rfl, by rw [HT.out]; rfl, HBW.out.trans (hU.out.2.mono (by omega))⟩
end Go.Proofs.YtkkklfikdoibcaaGreatDoor

namespace Go.Proofs.YtkkklfikdoibcaaGreatDoor
open Go.RowKit
set_option maxRecDepth 100000

theorem bigD {z : Int} (h : dn z ≤ 1024) : big z = false := by
  rw [big_digs, decide_eq_false_iff_not]; unfold dn at h; omega
/-- Not too long for elimination. -/
def sml (z : Int) : Prop := dn z ≤ 400
theorem dn_fdiv (x y : Int) (h : y ≠ 0) : dn (Int.fdiv x y) ≤ max (dn x) (dn y) + 1 := by
  unfold dn
  exact Nat.le_trans (digs_len_mono _ (by omega) (fdiv_abs x y h)) (digs_len_add _ _ _ (by omega))
theorem redOk {a d b c l : Int} (ha : sml a) (hd : sml d) (hb : sml b) (hc : sml c) (hl : sml l) (h0 : l ≠ 0) : RedOk a d b c l := by
  unfold sml at *
  have h1 := dn_mul a d
  have h2 := dn_mul b c
  have h3 := dn_sub (a * d) (b * c)
  have h4 := dn_fdiv (a * d - b * c) l h0
  exact ⟨bigD (by omega), bigD (by omega), bigD (by omega), bigD (by omega), bigD (by omega), h0, bigD (by omega), bigD (by omega), bigD (by omega), bigD (by omega)⟩
def rowV (n : Nat) (b : Nat × Nat) : Value := .slice (some ⟨b.1, 0, none⟩) n b.2
def rowL (n : Nat) (M : Mat) (i : Nat) : List Value := (List.range n).map fun j => .string (txt (M i j))
theorem rowL_len (n : Nat) (M : Mat) (i : Nat) : (rowL n M i).length = n := by simp [rowL]
theorem rowL_get {n : Nat} (M : Mat) (i j : Nat) (h : j < n) : (rowL n M i)[j]? = some (.string (txt (M i j))) := by simp [rowL, h]
/-- One entry is set. -/
def upd (M : Mat) (i j : Nat) (z : Int) : Mat := fun x y => if x = i ∧ y = j then z else M x y
theorem rowL_upd (n : Nat) (M : Mat) (i j : Nat) (z : Int) : (rowL n M i).set j (.string (txt z)) = rowL n (upd M i j z) i := by
  refine List.ext_getElem (by simp [rowL]) fun y h1 h2 => ?_
  rw [List.getElem_set]
  simp only [rowL, List.getElem_map, List.getElem_range, upd, true_and]
  by_cases e : j = y
  · subst e; simp
  · rw [if_neg e, if_neg (fun h => e h.symm)]
theorem rowL_congr {n : Nat} {M M' : Mat} {i i' : Nat} (h : ∀ j, j < n → M i j = M' i' j) : rowL n M i = rowL n M' i' := by
  unfold rowL; exact List.map_congr_left fun j hj => by rw [h j (by simpa using hj)]
/-- The elimination's record g, its row of rows, the rows. -/
structure Grid (w0 : World) (w : World) (g : Nat) (rv : Value) (bs : List (Nat × Nat)) (m n : Nat) (s : Est) : Prop where
  box : Blk w g [rv, .string (txt s.last), .int .i64 (sgB s.neg), .int .i64 s.rank, .int .i64 0] 149
  rows : w.ownsRow w0.heap.size 27 1 rv m (bs.map (rowV n))
  row : ∀ i (h : i < bs.length), w.ownsRow w0.heap.size 48 1 (rowV n bs[i]) n (rowL n s.M i)
  nod : (bs.map Prod.fst).Nodup
  gB : w0.heap.size ≤ g
  bel : Below w0.heap.size w0 w
section
variable {w0 w : World} {g : Nat} {rv : Value} {bs : List (Nat × Nat)} {m n : Nat} {s : Est}
theorem Grid.len (h : Grid w0 w g rv bs m n s) : bs.length = m := by have := h.rows.1; simpa using this
theorem Grid.keep {w' : World} (h : Grid w0 w g rv bs m n s) (hb : Below w.heap.size w w') : Grid w0 w' g rv bs m n s :=
  ⟨h.box.below hb (Nat.le_refl _), own_below h.rows hb (Nat.le_refl _), fun i hi => own_below (h.row i hi) hb (Nat.le_refl _), h.nod, h.gB, h.bel.trans (hb.mono h.bel.size)⟩
theorem Grid.drew (h : Grid w0 w g rv bs m n s) : Grid w0 w.drew g rv bs m n s := h.keep (Below.refl _ _).drew
theorem Grid.drewN (h : Grid w0 w g rv bs m n s) (k : Nat) : Grid w0 (w.drewN k) g rv bs m n s := h.keep (below_drewN (Below.refl _ _) k)
theorem Grid.congr {M : Mat} (h : Grid w0 w g rv bs m n s) (hM : ∀ i j, i < m → j < n → s.M i j = M i j) : Grid w0 w g rv bs m n { s with M := M } :=
  ⟨h.box, h.rows, fun i hi => by
    have e : rowL n s.M i = rowL n M i := rowL_congr fun j hj => hM i j (by rw [← h.len]; exact hi) hj
    show w.ownsRow _ _ _ _ _ (rowL n M i)
    rw [← e]; exact h.row i hi, h.nod, h.gB, h.bel⟩
/-- The row of rows, opened. -/
theorem Grid.rb (h : Grid w0 w g rv bs m n s) (hm : 0 < m) : ∃ rb cap, rv = .slice (some ⟨rb, 0, none⟩) m cap ∧ m ≤ cap ∧ cap ≤ maxLen := by
  rcases h.rows.2 with ⟨-, e⟩ | ⟨rb, cap, cur, e, -, -, h1, h2, -⟩
  · omega
  · exact ⟨rb, cap, e, h1, h2⟩
theorem own_type {b e sz k c n : Nat} {te : TypeId} {ys : List Value} (h : w.ownsRow b te sz (.slice (some ⟨e, 0, none⟩) n c) k ys) : ∃ cur, w.heap[e]? = some (.cells cur te (0, 0)) := by
  rcases h.2 with ⟨e, _⟩ | ⟨g, cap, cur, e, _, hg, _⟩
  · cases e
  · cases e; exact ⟨cur, hg⟩
theorem Grid.ne_row (h : Grid w0 w g rv bs m n s) (i : Nat) (hi : i < bs.length) : bs[i].1 ≠ g := by
  obtain ⟨cur, hc⟩ := own_type (h.row i hi)
  intro e
  have hb := h.box
  unfold Blk at hb
  rw [e, hb] at hc
  injection hc with hc; injection hc with _ hc _; exact absurd hc (by decide)
theorem Grid.ne_rb {rb cap : Nat} (h : Grid w0 w g (.slice (some ⟨rb, 0, none⟩) m cap) bs m n s) : rb ≠ g := by
  obtain ⟨cur, hc⟩ := own_type h.rows
  intro e
  have hb := h.box
  unfold Blk at hb
  rw [e, hb] at hc
  injection hc with hc; injection hc with _ hc _; exact absurd hc (by decide)
theorem Grid.ne_rows {rb cap : Nat} (h : Grid w0 w g (.slice (some ⟨rb, 0, none⟩) m cap) bs m n s) (i : Nat) (hi : i < bs.length) : bs[i].1 ≠ rb := by
  obtain ⟨cur, hc⟩ := own_type (h.row i hi)
  obtain ⟨cur', hc'⟩ := own_type h.rows
  intro e
  rw [e, hc'] at hc
  injection hc with hc; injection hc with _ hc _; exact absurd hc (by decide)
theorem own_else {b sz k j n : Nat} {te : TypeId} {u v : Value} {ys : List Value} (h : w.ownsRow b te sz v n ys) (hne : ∀ o c, v ≠ .slice (some ⟨k, o, none⟩) n c) : (w.setCell ⟨k, j, none⟩ u).ownsRow b te sz v n ys :=
  ⟨h.1, h.2.imp_right fun ⟨g', cap, cur, h1, h2, h3, r⟩ => ⟨g', cap, cur, h1, h2, (Below.heap_setCell _ _ _ _ (show g' ≠ k from fun e => by subst e; exact hne _ _ h1)).trans h3, r⟩⟩
theorem nod_ne (hn : (bs.map Prod.fst).Nodup) {i j : Nat} (hi : i < bs.length) (hj : j < bs.length) (h : i ≠ j) : bs[i].1 ≠ bs[j].1 := by
  have hp := List.pairwise_iff_getElem.1 hn
  rcases Nat.lt_or_gt_of_ne h with h | h
  · have := hp i j (by simpa using hi) (by simpa using hj) h; simpa using this
  · have := hp j i (by simpa using hj) (by simpa using hi) h; exact fun e => this (by simpa using e.symm)
/-- An entry is written. -/
theorem Grid.put (h : Grid w0 w g rv bs m n s) (hm : 0 < m) (i j : Nat) (z : Int) (hi : i < bs.length) : Grid w0 (w.setCell ⟨bs[i].1, j, none⟩ (.string (txt z))) g rv bs m n { s with M := upd s.M i j z } := by
  obtain ⟨rb, cap, rfl, -, -⟩ := h.rb hm
  have h1 := h.ne_row i hi
  have h2 := h.ne_rows i hi
  have hB : w0.heap.size ≤ bs[i].1 := by
    rcases (h.row i hi).2 with ⟨e, _⟩ | ⟨g, cap, cur, e, hb, _⟩
    · cases e
    · simp only [rowV] at e; cases e; exact hb
  refine ⟨h.box.setCell (Ne.symm h1) _, own_else h.rows fun o c e => by cases e; exact h2 rfl, fun x hx => ?_, h.nod, h.gB, h.bel.setCell hB _⟩
  by_cases e : x = i
  · subst e
    have := ((h.row x hx).stored j (.string (txt z))).1
    rw [rowL_upd] at this
    exact this
  · have e2 : rowL n (upd s.M i j z) x = rowL n s.M x := rowL_congr fun y hy => by simp only [upd]; rw [if_neg (fun h => e h.1)]
    show (w.setCell _ _).ownsRow _ _ _ _ _ (rowL n (upd s.M i j z) x)
    rw [e2]
    exact own_else (h.row x hx) fun o c e3 => by
      have := congrArg Value.ownBlock e3
      simp only [rowV, Value.ownBlock, Option.some.injEq] at this
      exact nod_ne h.nod hx hi e this
/-- Two rows change their places. -/
theorem Grid.swap {rb cap : Nat} (h : Grid w0 w g (.slice (some ⟨rb, 0, none⟩) m cap) bs m n s) (t r : Nat) (ht : t < bs.length) (hr : r < bs.length) (hne : t ≠ r) :
    Grid w0 ((w.setCell ⟨rb, t, none⟩ (rowV n bs[r])).setCell ⟨rb, r, none⟩ (rowV n bs[t])) g (.slice (some ⟨rb, 0, none⟩) m cap) ((bs.set t bs[r]).set r bs[t]) m n { s with M := swr s.M t r } := by
  have h1 := h.ne_rb
  have hB : w0.heap.size ≤ rb := by
    rcases h.rows.2 with ⟨e, _⟩ | ⟨g, cap, cur, e, hb, _⟩
    · cases e
    · cases e; exact hb
  refine ⟨(h.box.setCell (Ne.symm h1) _).setCell (Ne.symm h1) _, ?_, fun x hx => ?_, ?_, h.gB, (h.bel.setCell hB _).setCell hB _⟩
  · have := (((h.rows.stored t (rowV n bs[r])).1).stored r (rowV n bs[t])).1
    simpa [List.map_set] using this
  · have hx' : x < bs.length := by simpa using hx
    have key : ∀ i (hi : i < bs.length), ((w.setCell ⟨rb, t, none⟩ (rowV n bs[r])).setCell ⟨rb, r, none⟩ (rowV n bs[t])).ownsRow w0.heap.size 48 1 (rowV n bs[i]) n (rowL n s.M i) := fun i hi =>
      own_else (own_else (h.row i hi) fun o c e => by simp only [rowV] at e; cases e; exact h.ne_rows i hi rfl) fun o c e => by simp only [rowV] at e; cases e; exact h.ne_rows i hi rfl
    show World.ownsRow _ _ _ _ _ _ (rowL n (swr s.M t r) x)
    by_cases e1 : x = r
    · subst e1
      have e3 : ((bs.set t bs[x]).set x bs[t])[x] = bs[t] := by simp
      have e4 : rowL n (swr s.M t x) x = rowL n s.M t := rowL_congr fun j _ => by simp [swr, Ne.symm hne]
      rw [e3, e4]; exact key t ht
    · by_cases e2 : x = t
      · subst e2
        have e3 : ((bs.set x bs[r]).set r bs[x])[x] = bs[r] := by rw [List.getElem_set_ne (Ne.symm hne)]; simp
        have e4 : rowL n (swr s.M x r) x = rowL n s.M r := rowL_congr fun j _ => by simp [swr]
        rw [e3, e4]; exact key r hr
      · have e3 : ((bs.set t bs[r]).set r bs[t])[x] = bs[x] := by rw [List.getElem_set_ne (Ne.symm e1), List.getElem_set_ne (Ne.symm e2)]
        have e4 : rowL n (swr s.M t r) x = rowL n s.M x := rowL_congr fun j _ => by simp only [swr]; rw [if_neg e2, if_neg e1]
        rw [e3, e4]; exact key x hx'
  · have hperm : (((bs.set t bs[r]).set r bs[t]).map Prod.fst).Perm (bs.map Prod.fst) := (List.set_set_perm ht hr).map Prod.fst
    exact hperm.nodup_iff.2 h.nod
/-- The record's numbers are written. -/
theorem Grid.recd (h : Grid w0 w g rv bs m n s) (s' : Est) (hM : s'.M = s.M) {w' : World} (hbox : Blk w' g [rv, .string (txt s'.last), .int .i64 (sgB s'.neg), .int .i64 s'.rank, .int .i64 0] 149)
    (hw : ∀ b, b ≠ g → w'.heap[b]? = w.heap[b]?) (hb : Below w0.heap.size w0 w') : Grid w0 w' g rv bs m n s' := by
  have own : ∀ {b sz k : Nat} {te : TypeId} {v : Value} {ys : List Value}, te ≠ 149 → w.ownsRow b te sz v k ys → w'.ownsRow b te sz v k ys := by
    intro b sz k te v ys hte ho
    refine ⟨ho.1, ho.2.imp_right fun ⟨g', cap, cur, h1, h2, h3, r⟩ => ⟨g', cap, cur, h1, h2, ?_, r⟩⟩
    rw [hw g' ?_]; exact h3
    intro e; subst e
    have hx := h.box
    unfold Blk at hx
    rw [hx] at h3
    injection h3 with h3; injection h3 with _ h3 _; exact hte h3.symm
  exact ⟨hbox, own (by decide) h.rows, fun i hi => by rw [hM]; exact own (by decide) (h.row i hi), h.nod, h.gB, hb⟩
end
theorem Grid.cells {w0 w : World} {g rb cap : Nat} {bs : List (Nat × Nat)} {m n : Nat} {s : Est} (h : Grid w0 w g (.slice (some ⟨rb, 0, none⟩) m cap) bs m n s) (i : Nat) (hi : i < bs.length) :
    (w.cell? ⟨rb, i, none⟩ = some (.slice (some ⟨bs[i].1, 0, none⟩) n bs[i].2) ∧ w.frozen? ⟨rb, i, none⟩ = false) ∧ ∀ j, j < n → w.cell? ⟨bs[i].1, j, none⟩ = some (.string (txt (s.M i j))) ∧ w.frozen? ⟨bs[i].1, j, none⟩ = false := by
  refine ⟨?_, fun j hj => ?_⟩
  · obtain ⟨u, h1, h2, h3⟩ := own_at h.rows (show i < m by rw [← h.len]; exact hi)
    simp only [List.getElem?_map, List.getElem?_eq_getElem hi, Option.map_some, Option.some.injEq] at h1
    rw [h2, ← h1]; exact ⟨rfl, h3⟩
  · obtain ⟨u, h1, h2, h3⟩ := own_at (h.row i hi) hj
    rw [rowL_get _ _ _ hj] at h1
    rw [h2, ← h1]; exact ⟨rfl, h3⟩
theorem Grid.cellsE {w0 w : World} {g rb cap : Nat} {bs : List (Nat × Nat)} {m n : Nat} {s : Est} (h : Grid w0 w g (.slice (some ⟨rb, 0, none⟩) m cap) bs m n s) (i : Nat) (hi : i < m) : ∃ b c, bs[i]? = some (b, c) ∧
    w.cell? ⟨rb, i, none⟩ = some (.slice (some ⟨b, 0, none⟩) n c) ∧ w.frozen? ⟨rb, i, none⟩ = false ∧ ∀ j, j < n → w.cell? ⟨b, j, none⟩ = some (.string (txt (s.M i j))) ∧ w.frozen? ⟨b, j, none⟩ = false := by
  have hi' : i < bs.length := by rw [h.len]; exact hi
  obtain ⟨⟨h1, h2⟩, h3⟩ := h.cells i hi'
  exact ⟨bs[i].1, bs[i].2, List.getElem?_eq_getElem hi', h1, h2, h3⟩
theorem Grid.putE {w0 w : World} {g : Nat} {rv : Value} {bs : List (Nat × Nat)} {m n : Nat} {s : Est} (h : Grid w0 w g rv bs m n s) (hm : 0 < m) {i b c : Nat} (j : Nat) (z : Int) (hb : bs[i]? = some (b, c)) : Grid w0 (w.setCell ⟨b, j, none⟩ (.string (txt z))) g rv bs m n { s with M := upd s.M i j z } := by
  obtain ⟨hi, e⟩ := List.getElem?_eq_some_iff.1 hb
  have := h.put hm i j z hi
  rwa [e] at this
theorem Grid.swapE {w0 w : World} {g rb cap : Nat} {bs : List (Nat × Nat)} {m n : Nat} {s : Est} (h : Grid w0 w g (.slice (some ⟨rb, 0, none⟩) m cap) bs m n s) {t r bt ct br cr : Nat} (ht : bs[t]? = some (bt, ct)) (hr : bs[r]? = some (br, cr)) (hne : t ≠ r) :
    Grid w0 ((w.setCell ⟨rb, t, none⟩ (.slice (some ⟨br, 0, none⟩) n cr)).setCell ⟨rb, r, none⟩ (.slice (some ⟨bt, 0, none⟩) n ct)) g (.slice (some ⟨rb, 0, none⟩) m cap) ((bs.set t (br, cr)).set r (bt, ct)) m n { s with M := swr s.M t r } := by
  obtain ⟨h1, e1⟩ := List.getElem?_eq_some_iff.1 ht
  obtain ⟨h2, e2⟩ := List.getElem?_eq_some_iff.1 hr
  have := h.swap t r h1 h2 hne
  rwa [e1, e2] at this
theorem ftop_eq {M : Mat} {k m : Nat} : ∀ (d r t : Nat), r + d = t → t ≤ m → (∀ i, r ≤ i → i < t → M i k = 0) → (t < m → M t k ≠ 0) → ftop M k m r = t
  | 0, r, t, h, ht, _, hn => by
    obtain rfl : r = t := by omega
    rw [ftop]
    by_cases e : r < m
    · rw [if_pos e, if_neg (hn e)]
    · rw [if_neg e]; omega
  | d + 1, r, t, h, ht, hz, hn => by
    rw [ftop, if_pos (by omega), if_pos (hz r (Nat.le_refl _) (by omega))]
    exact ftop_eq d (r + 1) t (by omega) ht (fun i h1 h2 => hz i (by omega) h2) hn
theorem col_stop {m k : Nat} {s : Est} (h : ftop s.M k m s.rank = m) : s.col m k = s := by unfold Est.col; simp only [h, if_true]
theorem col_go {m k t : Nat} {s : Est} (h : ftop s.M k m s.rank = t) (ht : t < m) : s.col m k = ⟨below s.rank k s.last (swr s.M t s.rank), swr s.M t s.rank s.rank k, if t = s.rank then s.neg else !s.neg, s.rank + 1⟩ := by
  unfold Est.col; simp only [h]; rw [if_neg (by omega)]
/-- T up to the place i, j, and M from there on. -/
def part (T M : Mat) (i j : Nat) : Mat := fun x y => if x < i ∨ (x = i ∧ y < j) then T x y else M x y
theorem part_upd (T M : Mat) (i j : Nat) : ∀ x y, upd (part T M i j) i j (T i j) x y = part T M i (j + 1) x y := by
  intro x y
  unfold upd part
  by_cases h : x = i ∧ y = j
  · obtain ⟨rfl, rfl⟩ := h; rw [if_pos ⟨rfl, rfl⟩, if_pos (by omega)]
  · rw [if_neg h]
    by_cases h2 : x < i ∨ (x = i ∧ y < j)
    · rw [if_pos h2, if_pos (by omega)]
    · rw [if_neg h2, if_neg (by omega)]
theorem part_row {T M : Mat} {i n : Nat} : ∀ x y, y < n → part T M i n x y = part T M (i + 1) 0 x y := by
  intro x y hy
  unfold part
  by_cases h : x < i ∨ (x = i ∧ y < n)
  · rw [if_pos h, if_pos (by omega)]
  · rw [if_neg h, if_neg (by omega)]
theorem part_start (r k : Nat) (d : Int) (M : Mat) : ∀ x y, part (below r k d M) M (r + 1) 0 x y = M x y := by
  intro x y
  unfold part below
  by_cases h : x < r + 1 ∨ (x = r + 1 ∧ y < 0)
  · rw [if_pos h, if_neg (by omega)]
  · rw [if_neg h]
theorem part_end {T M : Mat} {m : Nat} : ∀ x y, x < m → part T M m 0 x y = T x y := by
  intro x y hx; unfold part; rw [if_pos (.inl hx)]
theorem part_old {T M : Mat} {i j x y : Nat} (h : i ≤ x) (h2 : x = i → j ≤ y) : part T M i j x y = M x y := by
  unfold part; rw [if_neg (by omega)]
theorem part_piv {r k i j y : Nat} {d : Int} {M : Mat} (h : r < i) : part (below r k d M) M i j r y = M r y := by
  unfold part below
  rw [if_pos (.inl h), if_neg (by omega)]
theorem swr_sml {M : Mat} {t r m n : Nat} (ht : r ≤ t) (htm : t < m) (h : ∀ i j, r ≤ i → i < m → j < n → sml (M i j)) : ∀ i j, r ≤ i → i < m → j < n → sml (swr M t r i j) := by
  intro i j h1 h2 h3
  unfold swr
  by_cases e1 : i = t
  · rw [if_pos e1]; exact h r j (Nat.le_refl _) (by omega) h3
  · rw [if_neg e1]
    by_cases e2 : i = r
    · rw [if_pos e2]; exact h t j ht htm h3
    · rw [if_neg e2]; exact h i j h1 h2 h3
theorem neg_sgB (b : Bool) : -sgB b = sgB (!b) := by cases b <;> rfl
/-- The sign turns. -/
theorem Grid.flip {w0 w : World} {g : Nat} {rv : Value} {bs : List (Nat × Nat)} {m n : Nat} {s : Est} (h : Grid w0 w g rv bs m n s) : Grid w0 (w.setCell ⟨g, 2, none⟩ (.int .i64 (-sgB s.neg))) g rv bs m n { s with neg := !s.neg } := by
  refine h.recd { s with neg := !s.neg } rfl ?_ (fun b hb => Below.heap_setCell _ _ _ _ hb) (h.bel.setCell (p := ⟨g, 2, none⟩) h.gB _)
  have := h.box.set 2 (.int .i64 (-sgB s.neg))
  simpa [neg_sgB] using this
/-- The pivot becomes the last one, the rank grows. -/
theorem Grid.bump {w0 w : World} {g : Nat} {rv : Value} {bs : List (Nat × Nat)} {m n : Nat} {s : Est} (h : Grid w0 w g rv bs m n s) (l : Int) : Grid w0 ((w.setCell ⟨g, 1, none⟩ (.string (txt l))).setCell ⟨g, 3, none⟩ (.int .i64 ((s.rank : Int) + 1))) g rv bs m n { s with last := l, rank := s.rank + 1 } := by
  refine h.recd { s with last := l, rank := s.rank + 1 } rfl ?_ (fun b hb => (Below.heap_setCell _ _ _ _ hb).trans (Below.heap_setCell _ _ _ _ hb)) ((h.bel.setCell (p := ⟨g, 1, none⟩) h.gB _).setCell (p := ⟨g, 3, none⟩) h.gB _)
  have := (h.box.set 1 (.string (txt l))).set 3 (.int .i64 ((s.rank : Int) + 1))
  simpa using this
end Go.Proofs.YtkkklfikdoibcaaGreatDoor

namespace Go.Proofs.YtkkklfikdoibcaaGreatDoor
open Go.RowKit Go.Shelf
set_option maxRecDepth 100000

/-- The iterator g hands out values x of which Gd holds when they come; behind the last one S holds of all of them. Between two rounds it wants Kp. It may write the block that it makes first. -/
def SeqG {α : Type} (F : Fence) (n : Nat) (P : Program) (g : Nat) (lb : Array Value) (encs : α → Array Value) (Kp : World → World → Prop) (Gd : Nat → α → World → Prop) (S : List α → World → Prop) (N : Nat) (w : World) : Prop :=
  ∀ (l : Nat) (J : List α → World → Prop) (W : World), Below w.heap.size w W → AbidesFrom W.heap.size J →
    (∀ pre W1 u j, J pre W1 → J pre (W1.setCell ⟨W.heap.size, j, none⟩ u)) →
    (∀ pre x W1, J pre W1 → Gd W.heap.size x W1 → pre.length < N → YieldAt F (n - 1) P l (encs x) W1 fun e W' => e = .returned (.bool true) ∧ J (pre ++ [x]) W' ∧ Kp W1 W') →
    J [] W →
    CallsIn F n P g (#[.func (.yield l) #[] #[]] ++ lb) W fun e W' => (∃ v, e = .returned v) ∧ ∃ xs, S xs W' ∧ J xs W'

/-- How a round's body ends. -/
def postG {α : Type} (Kp : World → World → Prop) (I : List α → World → Prop) (xs : List α) (W : World) : Exit → Act → World → Prop
  | .normal, _, W' => KeepsOthers W W' ∧ Kp W W' ∧ I xs W'
  | _, _, _ => False

section
variable {F : Fence} {n : Nat} {P : Program}
theorem setCell_other {w : World} {b j k : Nat} {u : Value} {o : Obj} (h : w.heap[k]? = some o) (ho : o.isCells = false) : (w.setCell ⟨b, j, none⟩ u).heap[k]? = some o :=
  (KeepsOthers.setCell w ⟨b, j, none⟩ u).same k o h ho
/-- The rule. -/
theorem wpIn_rangeG {α : Type} {g : Operand} {ps : Array Tmp} {assign body : Code} {Q : Exit → Act → World → Prop} {a : Act} {w : World}
    (hro : F.round = none) (h1 : 1 ≤ n) {gf : Nat} {lb : Array Value} (hg : a.eval g = .func (.func gf) #[] lb) (hFg : F.fn gf) (eg : ∀ args w, (callFunc gf args).run P w = .ok (.enter gf args) w)
    {encs : α → Array Value} {Kp : World → World → Prop} {Gd : Nat → α → World → Prop} {S : List α → World → Prop} {N : Nat} {w0 : World} (hseq : SeqG F (n - 1) P gf lb encs Kp Gd S N w0)
    (hKt : ∀ {A B C : World}, Kp A B → Kp B C → Kp A C) (hKb : ∀ (W : World) (l : Nat) (o o' : Obj), w.heap.size ≤ l → W.heap[l]? = some o → o.isCells = false → Kp W (W.putObj l o'))
    (hGb : ∀ s x (W : World) (l : Nat) (o o' : Obj), Gd s x W → W.heap[l]? = some o → o.isCells = false → Gd s x (W.putObj l o')) (hSb : ∀ xs (W : World) (l : Nat) (o o' : Obj), S xs W → W.heap[l]? = some o → o.isCells = false → S xs (W.putObj l o'))
    (hb0 : Below w0.heap.size w0 w) (hps : ∀ x, (encs x).size = ps.size)
    (I : List α → World → Prop) (hI : OwnFrom w.heap.size I) (hIc : ∀ pre W1 u j, I pre W1 → I pre (W1.setCell ⟨w.heap.size + 2, j, none⟩ u)) (h0 : I [] w) (a₁ : α → Act)
    (hassign : ∀ (l : Nat) (x : α) (W : World) (K : Act → World → Prop), K (a₁ x) W →
      assign.wpIn (F.inRound l) (n - 1 - 1) P (Exit.then K (fun _ _ _ => False)) { tmps := (ps.zip (encs x)).foldl (fun t (p, v) => t.setIfInBounds p v) a.tmps, defers := [] } W)
    (hbody : ∀ (l : Nat) (pre : List α) (x : α) (W : World), I pre W → Gd (w.heap.size + 2) x W → pre.length < N → body.wpIn (F.inRound l) (n - 1 - 1) P (postG Kp I (pre ++ [x]) W) (a₁ x) W)
    (hdone : ∀ (D : Nat) (xs : List α) (W : World), w.heap.size ≤ D → S xs W → I xs W → W.heap[D]? = some (.deferred (some [])) → Q .normal { a with defers := { target := .collected D, args := #[] } :: a.defers } W) :
    (Code.rangeFunc g ps assign body).wpIn F n P Q a w := by
  refine wpIn_rangeFunc fun fn hfn => ?_
  rw [hro]
  -- the two blocks that the loop makes: the rounds' deferred calls, and its own record
  let rec' : LoopState → Loop := fun st => { state := st, pending := none, fn, tmps := a.tmps, params := ps, assign, body, defers := w.heap.size }
  obtain ⟨d, hd⟩ : ∃ d, w.heap.size = d := ⟨_, rfl⟩
  obtain ⟨W1, hW1⟩ : ∃ W1, (w.alloc (.deferred (some []))).alloc (.loop (rec' .ready)) = W1 := ⟨_, rfl⟩
  have hs1 : W1.heap.size = d + 2 := by rw [← hW1, ← hd]; simp
  have hL1 : W1.heap[d + 1]? = some (.loop (rec' .ready)) := by
    rw [← hW1, ← hd]; have := World.alloc_heap_new (w.alloc (.deferred (some []))) (.loop (rec' .ready)); rwa [World.size_alloc] at this
  have hD1 : W1.heap[d]? = some (.deferred (some [])) := by
    rw [← hW1, ← hd]; exact (Below.heap_alloc _ _ _ (by simp)).trans (World.alloc_heap_new w _)
  have hb1 : Below w0.heap.size w0 W1 := by
    rw [← hW1]; exact (hb0.alloc hb0.size _).alloc (by have := hb0.size; simp; omega) _
  refine ⟨d + 1, [{ target := .collected d, args := #[] }], W1, { target := .fn (.func gf) lb, args := #[.func (.yield (d + 1)) #[] #[]] }, W1, gf, #[.func (.yield (d + 1)) #[] #[]] ++ lb, W1, ?_, ?_, ?_, ?_, fun _ => h1, ?_⟩
  · rw [← hW1, ← hd]; exact run_enterLoop_outer _ _ _ _ _
  · simp only [resolve, hg]; simp [go_sem]
  · intro f' hf'; simp [Target.leads] at hf'; subst hf'; exact hFg
  · simp [invoke, go_sem, eg]
  · -- the iterator's word, the caller's invariant and the loop's two blocks
    refine (hseq (d + 1) (fun pre W => I pre W ∧ W.heap[d + 1]? = some (.loop (rec' .ready)) ∧ W.heap[d]? = some (.deferred (some []))) W1 hb1 ?_ ?_ ?_ ?_).mono ?_
    · intro s A B row hs hgr hrow
      refine ⟨hI s A B row hs.1 hgr fun r e => ?_, (grownBy_keeps hgr (fun r e => (hrow r e).2) hs.2.1 rfl).trans hs.2.1, (grownBy_keeps hgr (fun r e => (hrow r e).2) hs.2.2 rfl).trans hs.2.2⟩
      obtain ⟨hB, o, ho, hw⟩ := hrow r e
      exact ⟨by omega, o, ho, Obj.not_cells_of_walk hw⟩
    · intro pre W u j hs
      rw [hs1]
      refine ⟨?_, setCell_other hs.2.1 rfl, setCell_other hs.2.2 rfl⟩
      have := hIc pre W u j hs.1
      rwa [hd] at this
    · -- a round
      rintro pre x W ⟨hi, hl, hk⟩ hgd hlen
      have hlt : d + 1 < W.heap.size := (Array.getElem?_eq_some_iff.1 hl).1
      have hy := run_yield (P := P) (args := encs x) hl (hps x)
      refine ⟨fn, _, assign, body, hy, roundIn_of_wpIn hfn (hassign _ x W _ ⟨_, run_beginRound hl rfl, ?_⟩)⟩
      obtain ⟨W2, hW2⟩ : ∃ W2, W.putObj (d + 1) (.loop { rec' .ready with state := .busy }) = W2 := ⟨_, rfl⟩
      have hl2 : W2.heap[d + 1]? = some (.loop { rec' .ready with state := .busy }) := by rw [← hW2]; exact World.putObj_heap_same hlt
      have hk2 : W2.heap[d]? = some (.deferred (some [])) := by rw [← hW2]; exact (World.putObj_heap_other (by omega)).trans hk
      have hK2 : Kp W W2 := by rw [← hW2]; exact hKb _ _ _ _ (by omega) hl rfl
      have hi2 : I pre W2 := by rw [← hW2]; exact hI.putObj _ hi (by omega) hl rfl
      have hg2 : Gd (w.heap.size + 2) x W2 := by rw [← hW2]; refine hGb _ _ _ _ _ _ ?_ hl rfl; rw [hd, ← hs1]; exact hgd
      show body.wpIn _ _ _ _ _ (W.putObj (d + 1) (.loop { rec' .ready with state := .busy }))
      rw [hW2]
      refine wpIn_mono (hbody _ pre x W2 hi2 hg2 hlen) ?_
      rintro e a3 W3 hp
      cases e with
      | normal =>
        obtain ⟨hko, hkp, hi3⟩ := hp
        have hl3 := hko.same _ _ hl2 rfl
        have hk3 := hko.same _ _ hk2 rfl
        have hr := run_endRound (P := P) none hl3
        exact ⟨_, _, hr, rfl, ⟨hI.putObj _ hi3 (by omega) hl3 rfl, World.putObj_heap_same (Array.getElem?_eq_some_iff.1 hl3).1, (World.putObj_heap_other (by omega)).trans hk3⟩, hKt (hKt hK2 hkp) (hKb _ _ _ _ (by omega) hl3 rfl)⟩
      | ret => exact hp.elim
      | exit id => exact hp.elim
      | goto t => exact hp.elim
      | panic ch => exact hp.elim
      | outgrown => exact hp.elim
    · refine ⟨?_, hL1, hD1⟩
      rw [← hW1]; exact hI.alloc _ (hI.alloc _ h0)
    · rintro e W2 ⟨⟨v, rfl⟩, xs, hS, hi, hl, hk⟩
      refine ⟨none, _, run_endLoop (P := P) hl (by simp [rec']), ?_⟩
      exact hdone d xs _ (by omega) (hSb _ _ _ _ _ hS hl rfl) (hI.putObj _ hi (by omega) hl rfl) ((World.putObj_heap_other (by omega)).trans hk)
end
/-- 'make([]T, n)' inside a fence, one cell an element. -/
theorem mkNI {F : Fence} {n1 : Nat} {P : Program} {t e : TypeId} {z : Value} {bytes : Nat} {ops : Array Oper} {rest : List Oper} {o : Oper} {a : Act} {Q : Exit → Act → World → Prop} (hE : ElemOk P t e z 1 bytes) (hgd : o.guard = none) (l c : Operand) (ho : o.op = Op.makeSlice t l c) {w : World} (n : Nat) {kl kc : IntKind} {L C : Int}
    (hl : a.eval l = .int kl L) (hc : a.eval c = .int kc C) (hL : L = (n : Int)) (hC : C = (n : Int)) (hn : bytes * n ≤ 281474976710656) (hn' : n ≤ maxLen) (hz1 : z.cells = #[z])
    (h : ∀ w', w'.ownsRow w.heap.size e 1 (.slice (some ⟨w.heap.size, 0, none⟩) n n) n (List.replicate n z) → w.grownBy w' none → wpListIn F n1 P ops Q rest (a.put o.dst (.slice (some ⟨w.heap.size, 0, none⟩) n n)) w') :
    wpListIn F n1 P ops Q (o :: rest) a w := by
  obtain ⟨i, hi, hz, hsz, hby⟩ := hE.info
  refine wpListIn_plain hgd fun K hK' => ?_
  obtain ⟨w', hrun, r1, r2⟩ := run_make_full (P := P) w w.heap.size t e i z 1 hE.und hi hz hsz kl kc n (by rw [hby]; exact hn) hn' (Nat.le_refl _)
  subst hL
  subst hC
  unfold Oper.wpIn
  refine ⟨?_, ?_⟩
  · simp [Oper.about, ho]
  · rw [Oper.semAt_plain F _ _ (by rw [ho]; intro c hc'; cases hc')]
    simp [execOp, ho, hl, hc, hrun, Result.andThen]
    refine hK' _ _ (h w' (ownsRow_cast r1 rfl ?_) r2)
    rw [hz1, Nat.mul_one]
    apply List.ext_getElem <;> simp [madeCells, Nat.mod_one]
end Go.Proofs.YtkkklfikdoibcaaGreatDoor
