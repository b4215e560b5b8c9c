/- The walks of the reference's Small and Of. -/
import Derived.Test.YtcjcknncajinpaaDoorR8
import Derived.Test.YtcjcknncajinpaaDoorIV
import Derived.Test.YtcjcknncajinpaaDoorLQ
namespace Go.Proofs.YtcjcknncajinpaaDoor
open Go.RowKit
set_option maxRecDepth 100000

theorem gmax : Good ⟨#[57, 50, 50, 51, 51, 55, 50, 48, 51, 54, 56, 53, 52, 55, 55, 53, 56, 48, 55]⟩ 9223372036854775807 := good_lit (by decide) (by decide)
theorem gmin : Good ⟨#[45, 57, 50, 50, 51, 51, 55, 50, 48, 51, 54, 56, 53, 52, 55, 55, 53, 56, 48, 56]⟩ (-9223372036854775808) := good_lit (by decide) (by decide)
theorem ord_max (z : Int) (hz : dn z ≤ 1024) (w : World) : Calls Tryd.prog 63 #[.string (txt z), .string ⟨#[57, 50, 50, 51, 51, 55, 50, 48, 51, 54, 56, 53, 52, 55, 55, 53, 56, 48, 55]⟩] w (Rets fun v w' => v = .int .i64 (z - 9223372036854775807).sign ∧ Below w.heap.size w w') := by
  rw [gmax.eq]; exact Order_any w z _ (by omega) (by have := gmax.dn; omega)
theorem ord_min (z : Int) (hz : dn z ≤ 1024) (w : World) : Calls Tryd.prog 63 #[.string (txt z), .string ⟨#[45, 57, 50, 50, 51, 51, 55, 50, 48, 51, 54, 56, 53, 52, 55, 55, 53, 56, 48, 56]⟩] w (Rets fun v w' => v = .int .i64 (z - (-9223372036854775808)).sign ∧ Below w.heap.size w w') := by
  rw [gmin.eq]; exact Order_any w z _ (by omega) (by have := gmin.dn; omega)

set_option maxHeartbeats 400000 in
theorem rSmall_err (w : World) (s : ByteArray) (hsz : s.size ≤ 1000000) (h : chk s.data.toList ≠ 0) :
    Calls Tryd.prog 33 #[.string s] w (Rets fun v w' => v = .tuple #[.int .i64 0, .int .i64 (chk s.data.toList)] ∧ Below w.heap.size w w') := by
  have hne : (chk s.data.toList != 0) = true := by simp [h]
  clear h
  go_enter Tryd.func33, Tryd.ntmps33
  go_wp2_with (go_at_call 36; (with_reducible refine (rCheck_any _ s hsz).mono ?_); rintro e w1 ⟨v, rfl, rfl, rfl⟩)
  go_ret2
  exact ⟨_, rfl, rfl, Below.refl _ _⟩
set_option maxHeartbeats 1000000 in
theorem rSmall_range (w : World) (s : ByteArray) (z : Int) (hz : Good s z) (hi : isI64 z = false) :
    Calls Tryd.prog 33 #[.string s] w (Rets fun v w' => v = .tuple #[.int .i64 0, .int .i64 2] ∧ Below w.heap.size w w') := by
  obtain rfl := hz.eq
  have O1 := Lib.hid (ord_max z hz.dn); have O2 := Lib.hid (ord_min z hz.dn); have HZ := Lib.hid hz
  have hc : 9223372036854775807 < z ∨ z < -9223372036854775808 := by simp [isI64] at hi; omega
  clear hz hi
  rcases hc with hc | hc
  · have E1 := Lib.hid (show (z - 9223372036854775807).sign = 1 from Int.sign_eq_one_of_pos (by omega))
    clear hc
    go_enter Tryd.func33, Tryd.ntmps33
    go_wp2_with (first
      | (go_at_call 36; (with_reducible refine (rCheck_any _ _ (by have := HZ.out.size; omega)).mono ?_); rintro e w1 ⟨v, rfl, rfl, rfl⟩; rw [HZ.out.chk])
      | (go_at_call 63; (with_reducible refine (O1.out _).mono ?_); rintro e w1 ⟨v, rfl, rfl, hb1⟩; rw [E1.out]))
    go_ret2
    exact ⟨_, rfl, rfl, hb1⟩
  · have E1 := Lib.hid (show (z - 9223372036854775807).sign = -1 from Int.sign_eq_neg_one_of_neg (by omega))
    have E2 := Lib.hid (show (z - (-9223372036854775808)).sign = -1 from Int.sign_eq_neg_one_of_neg (by omega))
    clear hc
    go_enter Tryd.func33, Tryd.ntmps33
    go_wp2_with (first
      | (go_at_call 36; (with_reducible refine (rCheck_any _ _ (by have := HZ.out.size; omega)).mono ?_); rintro e w1 ⟨v, rfl, rfl, rfl⟩; rw [HZ.out.chk])
      | (go_at_call 63; (with_reducible refine (O1.out _).mono ?_); rintro e w1 ⟨v, rfl, rfl, hb1⟩; rw [E1.out])
      | (go_at_call 63; (with_reducible refine (O2.out _).mono ?_); rintro e w2 ⟨v, rfl, rfl, hb2⟩; rw [E2.out]))
    go_ret2
    exact ⟨_, rfl, rfl, hb1.trans (hb2.mono hb1.size)⟩

theorem val_drop_cons (xs : List Nat) (k : Nat) (h : k < xs.length) : val 10 (xs.drop k) = xs[k] + 10 * val 10 (xs.drop (k + 1)) := by
  rw [List.drop_eq_getElem_cons h]; rfl
theorem val_drop_le (xs : List Nat) : ∀ k, val 10 (xs.drop k) ≤ val 10 xs := by
  induction xs with
  | nil => intro k; simp
  | cons a l ih =>
    intro k
    cases k with
    | zero => simp
    | succ k => rw [List.drop_succ_cons]; have := ih k; simp only [val]; omega
set_option maxHeartbeats 2000000 in
theorem rSmall_ok (w : World) (s : ByteArray) (z : Int) (hz : Good s z) (hi : isI64 z = true) :
    Calls Tryd.prog 33 #[.string s] w (Rets fun v w' => v = .tuple #[.int .i64 z, .int .i64 0] ∧ Below w.heap.size w w') := by
  obtain rfl := hz.eq
  have O1 := Lib.hid (ord_max z hz.dn); have O2 := Lib.hid (ord_min z hz.dn); have HZ := Lib.hid hz
  have hc : -9223372036854775808 ≤ z ∧ z ≤ 9223372036854775807 := by simp [isI64] at hi; omega
  obtain ⟨u, hu, hu0⟩ : ∃ u, (z - 9223372036854775807).sign = u ∧ u ≤ 0 := ⟨_, rfl, by
    rcases Int.lt_or_eq_of_le hc.2 with h | h
    · rw [Int.sign_eq_neg_one_of_neg (by omega)]; omega
    · rw [show z - 9223372036854775807 = 0 by omega]; decide⟩
  obtain ⟨t, ht, ht0⟩ : ∃ t, (z - (-9223372036854775808)).sign = t ∧ 0 ≤ t := ⟨_, rfl, by
    rcases Int.lt_or_eq_of_le hc.1 with h | h
    · rw [Int.sign_eq_one_of_pos (by omega)]; omega
    · rw [show z - (-9223372036854775808) = 0 by omega]; decide⟩
  have E1 := Lib.hid hu; have E2 := Lib.hid ht
  have hval := val_digs 10 z.natAbs (by omega)
  have hlt := digs_lt 10 z.natAbs (by omega)
  have hle := val_drop_le (digs 10 z.natAbs)
  have hdl : (digs 10 z.natAbs).length ≤ 1024 := hz.dn
  have HLT := Lib.hid hlt; have HLE := Lib.hid hle; have HVAL := Lib.hid hval
  clear hz hi hu ht hval hlt hle
  rcases Int.lt_or_le z 0 with hz0 | hz0
  · have HM := Lib.hid (show decide (z < 0) = true by simp; omega)
    go_enter Tryd.func33, Tryd.ntmps33
    go_wp2_with (first
      | (go_at_call 36; (with_reducible refine (rCheck_any _ _ (by have := HZ.out.size; omega)).mono ?_); rintro e w1 ⟨v, rfl, rfl, rfl⟩; rw [HZ.out.chk])
      | (go_at_call 63; (with_reducible refine (O1.out _).mono ?_); rintro e w1 ⟨v, rfl, rfl, hb1⟩; rw [E1.out])
      | (go_at_call 63; (with_reducible refine (O2.out _).mono ?_); rintro e w2 ⟨v, rfl, rfl, hb2⟩; rw [E2.out]; have b2 := hb1.trans (hb2.mono hb1.size))
      | (go_at_call 47; (with_reducible refine (digits_any _ z (by have := HZ.out.dn; have := itoa_len z; omega)).mono ?_); rintro e w3 ⟨v3, rfl, hs3, hb3⟩; obtain ⟨a3, b3, o3, c3, rfl, hi3, hp3, -, -⟩ := hs3.open elemInt; have bw := b2.trans (hb3.mono b2.size); clear hs3))
    go_loopw [5, 7] (fun n i wr => ∃ k : Nat, k ≤ (digs 10 z.natAbs).length ∧ i = .int .i64 ((k : Int) - 1) ∧ n = .int .i64 (-(val 10 ((digs 10 z.natAbs).drop k) : Int)) ∧ wr = w3) (fun _ i _ => (intOf i + 1).toNat)
    case atStart => exact ⟨(digs 10 z.natAbs).length, Nat.le_refl _, rfl, by rw [List.drop_length]; rfl, rfl⟩
    case round =>
      obtain ⟨k, hk, rfl, rfl, rfl⟩ := hrel
      rcases k with _ | k
      · have HR := Lib.hid (show -(val 10 ((digs 10 z.natAbs).drop 0) : Int) = z by rw [List.drop_zero, HVAL.out]; omega)
        rw [HR.out]
        go_wp2
        go_ret2
        exact ⟨_, rfl, rfl, bw⟩
      · have ek : (((k + 1 : Nat) : Int) - 1) = (k : Int) := by omega
        rw [ek]
        clear ek
        have hkl : k < (digs 10 z.natAbs).length := by omega
        have h1 : wr.cell? ⟨b3, o3 + k, none⟩ = some (.int .i64 ((digs 10 z.natAbs)[k] : Nat)) := hp3.2 k hkl
        have hd := HLT.out _ (List.getElem_mem hkl)
        have hv := val_drop_cons _ k hkl
        have hv2 := HLE.out k
        rw [HVAL.out] at hv2
        obtain ⟨d, hdd⟩ : ∃ d, d = (digs 10 z.natAbs)[k] := ⟨_, rfl⟩
        rw [← hdd] at h1 hd hv
        clear hdd
        have hb1 : 10 * val 10 ((digs 10 z.natAbs).drop (k + 1)) ≤ 9223372036854775808 := by omega
        have hb2' : val 10 ((digs 10 z.natAbs).drop k) ≤ 9223372036854775808 := by omega
        have hb3' : 0 ≤ z → val 10 ((digs 10 z.natAbs).drop k) ≤ 9223372036854775807 := by omega
        generalize val 10 ((digs 10 z.natAbs).drop (k + 1)) = V at *
        obtain ⟨V0, hV0⟩ : ∃ V0, V0 = val 10 ((digs 10 z.natAbs).drop k) := ⟨_, rfl⟩
        rw [← hV0] at hv hv2 hb2' hb3'
        have HV0 := Lib.hid hV0
        clear hV0
        go_wp2_with (go_at_call 64; (with_reducible refine (Minus_any _ z).mono ?_); rintro e w4 ⟨v, rfl, rfl, rfl⟩; rw [HM.out])
        go_roundw
        case rel => exact ⟨k, by omega, rfl, by rw [← HV0.out]; exact congrArg (Value.int .i64) (by omega), trivial⟩
        case measure => simp [intOf]
  · have HM := Lib.hid (show decide (z < 0) = false by simp; omega)
    go_enter Tryd.func33, Tryd.ntmps33
    go_wp2_with (first
      | (go_at_call 36; (with_reducible refine (rCheck_any _ _ (by have := HZ.out.size; omega)).mono ?_); rintro e w1 ⟨v, rfl, rfl, rfl⟩; rw [HZ.out.chk])
      | (go_at_call 63; (with_reducible refine (O1.out _).mono ?_); rintro e w1 ⟨v, rfl, rfl, hb1⟩; rw [E1.out])
      | (go_at_call 63; (with_reducible refine (O2.out _).mono ?_); rintro e w2 ⟨v, rfl, rfl, hb2⟩; rw [E2.out]; have b2 := hb1.trans (hb2.mono hb1.size))
      | (go_at_call 47; (with_reducible refine (digits_any _ z (by have := HZ.out.dn; have := itoa_len z; omega)).mono ?_); rintro e w3 ⟨v3, rfl, hs3, hb3⟩; obtain ⟨a3, b3, o3, c3, rfl, hi3, hp3, -, -⟩ := hs3.open elemInt; have bw := b2.trans (hb3.mono b2.size); clear hs3))
    go_loopw [5, 7] (fun n i wr => ∃ k : Nat, k ≤ (digs 10 z.natAbs).length ∧ i = .int .i64 ((k : Int) - 1) ∧ n = .int .i64 ((val 10 ((digs 10 z.natAbs).drop k) : Int)) ∧ wr = w3) (fun _ i _ => (intOf i + 1).toNat)
    case atStart => exact ⟨(digs 10 z.natAbs).length, Nat.le_refl _, rfl, by rw [List.drop_length]; rfl, rfl⟩
    case round =>
      obtain ⟨k, hk, rfl, rfl, rfl⟩ := hrel
      rcases k with _ | k
      · have HR := Lib.hid (show (val 10 ((digs 10 z.natAbs).drop 0) : Int) = z by rw [List.drop_zero, HVAL.out]; omega)
        rw [HR.out]
        go_wp2
        go_ret2
        exact ⟨_, rfl, rfl, bw⟩
      · have ek : (((k + 1 : Nat) : Int) - 1) = (k : Int) := by omega
        rw [ek]
        clear ek
        have hkl : k < (digs 10 z.natAbs).length := by omega
        have h1 : wr.cell? ⟨b3, o3 + k, none⟩ = some (.int .i64 ((digs 10 z.natAbs)[k] : Nat)) := hp3.2 k hkl
        have hd := HLT.out _ (List.getElem_mem hkl)
        have hv := val_drop_cons _ k hkl
        have hv2 := HLE.out k
        rw [HVAL.out] at hv2
        obtain ⟨d, hdd⟩ : ∃ d, d = (digs 10 z.natAbs)[k] := ⟨_, rfl⟩
        rw [← hdd] at h1 hd hv
        clear hdd
        have hb1 : 10 * val 10 ((digs 10 z.natAbs).drop (k + 1)) ≤ 9223372036854775808 := by omega
        have hb2' : val 10 ((digs 10 z.natAbs).drop k) ≤ 9223372036854775808 := by omega
        have hb3' : 0 ≤ z → val 10 ((digs 10 z.natAbs).drop k) ≤ 9223372036854775807 := by omega
        generalize val 10 ((digs 10 z.natAbs).drop (k + 1)) = V at *
        obtain ⟨V0, hV0⟩ : ∃ V0, V0 = val 10 ((digs 10 z.natAbs).drop k) := ⟨_, rfl⟩
        rw [← hV0] at hv hv2 hb2' hb3'
        have HV0 := Lib.hid hV0
        clear hV0
        go_wp2_with (go_at_call 64; (with_reducible refine (Minus_any _ z).mono ?_); rintro e w4 ⟨v, rfl, rfl, rfl⟩; rw [HM.out])
        go_roundw
        case rel => exact ⟨k, by omega, rfl, by rw [← HV0.out]; exact congrArg (Value.int .i64) (by omega), trivial⟩
        case measure => simp [intOf]

theorem digs_split (n k : Nat) (os : List Nat) (hk : 0 < k) (h : digs 10 n = os ++ digs 10 k) : digs 10 n = (os ++ [k % 10]) ++ digs 10 (k / 10) := by
  rw [h, digs_pos 10 k (by omega) hk, List.append_assoc]; rfl
set_option maxHeartbeats 1000000 in
theorem rOf_pos (w : World) (n : Nat) (h1 : n ≤ 9223372036854775807) :
    Calls Tryd.prog 38 #[.int .i64 n] w (Rets fun v w' => v = .string (txt n) ∧ Below w.heap.size w w') := by
  have hL : (digs 10 n).length ≤ 19 := (digs_len 10 n 19 (by omega)).2 (by omega)
  have HL := Lib.hid hL
  have h0 : (0 : Int) ≤ n := by omega
  have hnn : (n : Int) ≤ 9223372036854775807 := by omega
  have HS := Lib.hid (show sg false n = (n : Int) from rfl)
  clear hL h1
  go_enter Tryd.func38, Tryd.ntmps38
  go_wp2
  go_loopw [0, 4] (fun m l wr => ∃ (k : Nat) (os : List Nat), m = .int .i64 k ∧ k ≤ n ∧ Hid (digs 10 n = os ++ digs 10 k) ∧ Hid (os.length ≤ 19) ∧ wr.ownsRow w.heap.size 3 1 l os.length (os.map eI) ∧ Below w.heap.size w wr) (fun m _ _ => (intOf m).toNat)
  case atStart => exact ⟨n, [], rfl, Nat.le_refl _, Lib.hid rfl, Lib.hid (by simp), World.ownsRow_nil _ _ _ _, Below.refl _ _⟩
  case round =>
    obtain ⟨k, os, rfl, hkn, hd, hol, hown, hb⟩ := hrel
    have hbs := hb.size
    by_cases hk0 : k = 0
    · subst hk0
      have ho : os = digs 10 n := by rw [hd.out, digs_zero, List.append_nil]
      have HO := Lib.hid (show Sl eI wr _ (digs 10 n) from ho ▸ Sl.ofOwns hown)
      obtain ⟨a3, b3, o3, c3, hl3, -, -, -, -⟩ := HO.out.open elemInt
      clear ho hown
      subst hl3
      go_wp2_with (go_at_call 67; (with_reducible refine (rtext_any _ _ n false HO.out (by have := HL.out; omega)).mono ?_); rintro e w2 ⟨v, rfl, rfl, hb2⟩; rw [HS.out])
      go_ret
      exact ⟨_, rfl, rfl, hb.trans (hb2.mono hb.size)⟩
    · have hk1 : 0 < k := by omega
      have HD := Lib.hid (digs_split n k os hk1 hd.out)
      have hol2 : os.length ≤ 19 := hol.out
      have hol3 : os.length + 1 ≤ 19 := by
        have := congrArg List.length HD.out
        simp at this; have := HL.out; omega
      go_wp2_with (at_builtin; refine app1 elemInt rfl _ _ rfl rfl rfl hown hb (Nat.le_refl _) hbs rfl (by simp [Value.oneCell']) (by omega) (by unfold maxLen; omega) ?_; intro v' w2 hown' hb')
      go_roundw
      case rel => exact ⟨k / 10, os ++ [k % 10], congrArg (Value.int .i64) (by omega), by omega, HD, Lib.hid (by simp; omega), by simpa [eI] using hown', hb'⟩
      case measure => simp [intOf]; omega
set_option maxHeartbeats 1000000 in
theorem rOf_neg (w : World) (n : Nat) (h1 : n ≤ 9223372036854775808) (hn0 : 0 < n) :
    Calls Tryd.prog 38 #[.int .i64 (-(n : Int))] w (Rets fun v w' => v = .string (txt (-(n : Int))) ∧ Below w.heap.size w w') := by
  have hL : (digs 10 n).length ≤ 19 := (digs_len 10 n 19 (by omega)).2 (by omega)
  have HL := Lib.hid hL
  have h0 : -(n : Int) < 0 := by omega
  have hnn : (n : Int) ≤ 9223372036854775808 := by omega
  have HS := Lib.hid (show sg true n = -(n : Int) from rfl)
  clear hL h1
  go_enter Tryd.func38, Tryd.ntmps38
  go_wp2
  go_loopw [0, 4] (fun m l wr => ∃ (k : Nat) (os : List Nat), m = .int .i64 (-(k : Int)) ∧ k ≤ n ∧ Hid (digs 10 n = os ++ digs 10 k) ∧ Hid (os.length ≤ 19) ∧ wr.ownsRow w.heap.size 3 1 l os.length (os.map eI) ∧ Below w.heap.size w wr) (fun m _ _ => (-(intOf m)).toNat)
  case atStart => exact ⟨n, [], rfl, Nat.le_refl _, Lib.hid rfl, Lib.hid (by simp), World.ownsRow_nil _ _ _ _, Below.refl _ _⟩
  case round =>
    obtain ⟨k, os, rfl, hkn, hd, hol, hown, hb⟩ := hrel
    have hbs := hb.size
    by_cases hk0 : k = 0
    · subst hk0
      have hdl : 0 < (digs 10 n).length := by rw [List.length_pos_iff, Ne, digs_nil (by omega)]; omega
      have ho : os = digs 10 n := by rw [hd.out, digs_zero, List.append_nil]
      have HO := Lib.hid (show Sl eI wr _ (digs 10 n) from ho ▸ Sl.ofOwns hown)
      obtain ⟨a3, b3, o3, c3, hl3, -, -, -, -⟩ := HO.out.open elemInt
      clear ho hown
      subst hl3
      go_wp2_with (go_at_call 67; (with_reducible refine (rtext_any _ _ n true HO.out (by have := HL.out; omega)).mono ?_); rintro e w2 ⟨v, rfl, rfl, hb2⟩; rw [HS.out])
      go_ret
      exact ⟨_, rfl, rfl, hb.trans (hb2.mono hb.size)⟩
    · have hk1 : 0 < k := by omega
      have HD := Lib.hid (digs_split n k os hk1 hd.out)
      have hol2 : os.length ≤ 19 := hol.out
      have hol3 : os.length + 1 ≤ 19 := by
        have := congrArg List.length HD.out
        simp at this; have := HL.out; omega
      rcases (show (k : Int) % 10 = 0 ∨ 0 < (k : Int) % 10 by omega) with hkm | hkm
      all_goals
        go_wp2_with (at_builtin; refine app1 elemInt rfl _ _ rfl rfl rfl hown hb (Nat.le_refl _) hbs rfl (by simp [Value.oneCell']) (by omega) (by unfold maxLen; omega) ?_; intro v' w2 hown' hb')
        go_roundw
        case rel => exact ⟨k / 10, os ++ [k % 10], congrArg (Value.int .i64) (by omega), by omega, HD, Lib.hid (by simp; omega), by first | simpa [eI] using hown' | (rw [show k % 10 = 0 by omega]; simpa [eI] using hown'), hb'⟩
        case measure => simp [intOf]; omega
theorem rOf_any (w : World) (n : Int) (h0 : -9223372036854775808 ≤ n) (h1 : n ≤ 9223372036854775807) :
    Calls Tryd.prog 38 #[.int .i64 n] w (Rets fun v w' => v = .string (txt n) ∧ Below w.heap.size w w') := by
  rcases Int.lt_or_le n 0 with h | h
  · obtain ⟨k, rfl⟩ : ∃ k : Nat, n = -(k : Int) := ⟨n.natAbs, by omega⟩
    exact rOf_neg w k (by omega) (by omega)
  · obtain ⟨k, rfl⟩ : ∃ k : Nat, n = (k : Int) := ⟨n.natAbs, by omega⟩
    exact rOf_pos w k (by omega)
end Go.Proofs.YtcjcknncajinpaaDoor
