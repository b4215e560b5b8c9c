/- Plain law: what a text's number is; what a group's check answers. The walk of integer's Small. The walks of the reference's Small and Of. The walks of integer's Add and Mul. -/
import Derived.Test.YtajkhbpffakmfaaGreatDoorPk3
import Derived.Lib.AtoiAllCases
import Derived.Test.YtajkhbpffakmfaaGreatDoorPk2
namespace Go.Proofs.YtajkhbpffakmfaaGreatDoor
set_option maxRecDepth 100000

/-- The integer that a canonical text says. -/
def num (s : ByteArray) : Int := if Lib.hasPrefix s.data.toList [45] then -(dv 0 (Lib.trimPrefix s.data.toList [45]) : Int) else (dv 0 (Lib.trimPrefix s.data.toList [45]) : Int)
theorem Good.num {s : ByteArray} {z : Int} (h : Good s z) : num s = z := h.val.symm
theorem good_num {s : ByteArray} (h : chk s.data.toList = 0) : Good s (num s) := by
  obtain ⟨z, hz⟩ := good_of h
  rw [hz.num]; exact hz
/-- Does the number before divide this one, if there is one before? -/
def fits : Option ByteArray → ByteArray → Bool
  | none, _ => true
  | some q, s => decide (Int.fmod (num s) (num q) = 0)
/-- The first error of a group's numbers. -/
def gstep : Option ByteArray → List ByteArray → Int
  | _, [] => 0
  | p, s :: l => if chk s.data.toList = 0 then (if num s < 2 then 2 else if fits p s then gstep (some s) l else 9) else chk s.data.toList
def gchk (xs : List ByteArray) : Int := if 16 < xs.length then 5 else gstep none xs
def before (xs : List ByteArray) (k : Nat) : Option ByteArray := if k = 0 then none else xs[k - 1]?
/-- The numbers of a right group. -/
structure Grp (xs : List ByteArray) (zs : List Int) : Prop where
  good : Goods xs zs
  two : ∀ z ∈ zs, 2 ≤ z
  len : xs.length ≤ 16
theorem gstep_good : ∀ (xs : List ByteArray) (p : Option ByteArray), gstep p xs = 0 → ∃ zs, Goods xs zs ∧ (∀ z ∈ zs, 2 ≤ z)
  | [], _, _ => ⟨[], trivial, by simp⟩
  | s :: l, p, h => by
    rw [gstep] at h
    by_cases h1 : chk s.data.toList = 0
    · rw [if_pos h1] at h
      by_cases h2 : num s < 2
      · rw [if_pos h2] at h; exact absurd h (by decide)
      · rw [if_neg h2] at h
        by_cases h3 : fits p s
        · rw [if_pos h3] at h
          obtain ⟨zs, hz, ht⟩ := gstep_good l (some s) h
          refine ⟨num s :: zs, ⟨good_num h1, hz⟩, fun z hm => ?_⟩
          rcases List.mem_cons.1 hm with rfl | hm
          · omega
          · exact ht z hm
        · rw [if_neg h3] at h; exact absurd h (by decide)
    · rw [if_neg h1] at h; exact absurd h h1
theorem grp_of {xs : List ByteArray} (h : gchk xs = 0) : ∃ zs, Grp xs zs := by
  unfold gchk at h
  by_cases h16 : 16 < xs.length
  · rw [if_pos h16] at h; exact absurd h (by decide)
  · rw [if_neg h16] at h
    obtain ⟨zs, h1, h2⟩ := gstep_good xs none h
    exact ⟨zs, h1, h2, by omega⟩
end Go.Proofs.YtajkhbpffakmfaaGreatDoor

namespace Go.Proofs.YtajkhbpffakmfaaGreatDoor
open Go.RowKit
set_option maxRecDepth 100000

theorem dv_ge (l : List UInt8) : ∀ acc, acc ≤ dv acc l := by
  induction l with
  | nil => intro acc; rw [dv_nil]; exact Nat.le_refl _
  | cons c l ih => intro acc; rw [dv_cons]; have := ih (acc * 10 + (c.toNat - 48)); omega
theorem parse10 (l : List UInt8) (h : l.all isDig = true) : ∀ acc, acc < 18446744073709551616 → Lib.parseUint10 acc l = if dv acc l < 18446744073709551616 then .ok (dv acc l) else .range := by
  induction l with
  | nil => intro acc ha; rw [dv_nil, if_pos ha]; rfl
  | cons c l ih =>
    intro acc ha
    simp only [List.all_cons, Bool.and_eq_true] at h
    have hx : 48 ≤ c.toNat ∧ c.toNat ≤ 57 := by have := h.1; simp [isDig] at this; exact ⟨this.1, this.2⟩
    have hge := dv_ge l (acc * 10 + (c.toNat - 48))
    rw [Lib.parseUint10, if_pos hx, dv_cons]
    by_cases h1 : 1844674407370955162 ≤ acc
    · rw [if_pos h1, if_neg (by omega)]
    · rw [if_neg h1]
      by_cases h2 : 18446744073709551616 ≤ acc * 10 + (c.toNat - 48)
      · rw [if_pos h2, if_neg (by omega)]
      · rw [if_neg h2]; exact ih h.2 _ (by omega)
theorem mag_dec (n : Nat) : Lib.parseMag (Lib.decDigits n) = if n < 18446744073709551616 then .ok n else .range := by
  unfold Lib.parseMag
  rw [if_neg (dec_ne n), parse10 _ (dec_all n) 0 (by omega), dv_dec]
/-- Is it an int? -/
def isI64 (z : Int) : Bool := decide (-9223372036854775808 ≤ z) && decide (z ≤ 9223372036854775807)
theorem atoi_itoa (z : Int) : Lib.atoiAll (Lib.itoa z) = if isI64 z then .ok z else .range := by
  rw [itoa_cases]
  by_cases h : z < 0
  · rw [if_pos h, Lib.atoiAll_minus, mag_dec]
    by_cases h1 : z.natAbs < 18446744073709551616
    · rw [if_pos h1]
      simp only [Lib.signed]
      by_cases h2 : 9223372036854775808 < z.natAbs
      · rw [if_pos h2, if_neg (by simp [isI64]; omega)]
      · rw [if_neg h2, if_pos (by simp [isI64]; omega)]; congr 1; omega
    · rw [if_neg h1, if_neg (by simp [isI64]; omega)]; rfl
  · rw [if_neg h]
    have hm := dec_mem z.natAbs
    have he := mag_dec z.natAbs
    cases e : Lib.decDigits z.natAbs with
    | nil => exact absurd e (dec_ne _)
    | cons c r =>
      rw [e] at hm he
      have := hm c (by simp)
      rw [Lib.atoiAll_plain c r (by omega) (by omega), he]
      by_cases h1 : z.natAbs < 18446744073709551616
      · rw [if_pos h1]
        simp only [Lib.signless]
        by_cases h2 : 9223372036854775808 ≤ z.natAbs
        · rw [if_pos h2, if_neg (by simp [isI64]; omega)]
        · rw [if_neg h2, if_pos (by simp [isI64]; omega)]; congr 1; omega
      · rw [if_neg h1, if_neg (by simp [isI64]; omega)]; rfl

set_option maxHeartbeats 400000 in
theorem Small_err (w : World) (s : ByteArray) (hsz : s.size ≤ 1000000) (h : chk s.data.toList ≠ 0) :
    Calls Tryz.prog 58 #[.string s] w (Rets fun v w' => v = .tuple #[.int .i64 0, .int .i64 (chk s.data.toList)] ∧ Below w.heap.size w w') := by
  have hne : (chk s.data.toList != 0) = true := by simp [h]
  clear h
  go_enter Tryz.func58, Tryz.ntmps58
  go_wp2_with (go_at_call 45; refine (check_any _ _ hsz).mono ?_; rintro e w' ⟨v, rfl, rfl, hb⟩)
  go_ret2
  exact ⟨_, rfl, rfl, hb⟩
set_option maxHeartbeats 400000 in
theorem Small_ok (w : World) (s : ByteArray) (z : Int) (hz : Good s z) (hi : isI64 z = true) :
    Calls Tryz.prog 58 #[.string s] w (Rets fun v w' => v = .tuple #[.int .i64 z, .int .i64 0] ∧ Below w.heap.size w w') := by
  have hat : Lib.atoiAll s.data.toList = .ok z := by rw [hz.1, atoi_itoa, hi]; rfl
  have HZ := Lib.hid hz; have HAT := Lib.hid hat; clear hz hat hi
  go_enter Tryz.func58, Tryz.ntmps58
  go_wp2_with (first
    | (go_at_call 45; refine (check_any _ _ (by have := HZ.out.size; omega)).mono ?_; rintro e w' ⟨v, rfl, rfl, hb⟩; rw [HZ.out.chk])
    | (go_at_call 109; refine (Tryz.strconv_Atoi_ok s (by have := HZ.out.size; omega) z HAT.out _).mono ?_; rintro e w2 ⟨rfl, hw2⟩; have HW2 := Lib.hid hw2; clear hw2))
  go_ret2
  refine ⟨_, rfl, rfl, ?_⟩
  rcases HW2.out with rfl | ⟨t, rfl⟩
  · exact hb
  · exact hb.trans ((Lib.bytesWorld_below _ _ _).mono hb.size)
set_option maxHeartbeats 400000 in
theorem Small_range (w : World) (s : ByteArray) (z : Int) (hz : Good s z) (hi : isI64 z = false) (he : Env w) :
    Calls Tryz.prog 58 #[.string s] w (Rets fun v w' => v = .tuple #[.int .i64 0, .int .i64 2] ∧ Below w.heap.size w w') := by
  have hat : Lib.atoiAll s.data.toList = .range := by rw [hz.1, atoi_itoa, hi]; rfl
  have HZ := Lib.hid hz; have HAT := Lib.hid hat; have HE := Lib.hid he; clear hz hat hi he
  go_enter Tryz.func58, Tryz.ntmps58
  go_wp2_with (first
    | (go_at_call 45; refine (check_any _ _ (by have := HZ.out.size; omega)).mono ?_; rintro e w' ⟨v, rfl, rfl, hb⟩; rw [HZ.out.chk]; have he2 := HE.out.below hb (Nat.le_refl _); obtain ⟨tp, p, hv⟩ := he2.rng; have HV := Lib.hid hv; clear hv he2)
    | (go_at_call 109; refine (Tryz.strconv_Atoi_range_var s (by have := HZ.out.size; omega) HAT.out tp p _ HV.out).mono ?_; rintro e w2 ⟨N, rfl, hN, hcN, hb2⟩; have HCN := Lib.hid hcN; clear hcN))
  go_ret2
  exact ⟨_, rfl, rfl, hb.trans (hb2.mono hb.size)⟩
end Go.Proofs.YtajkhbpffakmfaaGreatDoor

namespace Go.Proofs.YtajkhbpffakmfaaGreatDoor
open Go.RowKit
set_option maxRecDepth 100000

theorem gmax : Good ⟨#[57, 50, 50, 51, 51, 55, 50, 48, 51, 54, 56, 53, 52, 55, 55, 53, 56, 48, 55]⟩ 9223372036854775807 := good_lit (by decide) (by decide)
theorem gmin : Good ⟨#[45, 57, 50, 50, 51, 51, 55, 50, 48, 51, 54, 56, 53, 52, 55, 55, 53, 56, 48, 56]⟩ (-9223372036854775808) := good_lit (by decide) (by decide)
theorem ord_max (z : Int) (hz : dn z ≤ 1024) (w : World) : Calls Tryz.prog 17 #[.string (txt z), .string ⟨#[57, 50, 50, 51, 51, 55, 50, 48, 51, 54, 56, 53, 52, 55, 55, 53, 56, 48, 55]⟩] w (Rets fun v w' => v = .int .i64 (z - 9223372036854775807).sign ∧ Below w.heap.size w w') := by
  rw [gmax.eq]; exact Order_any w z _ (by omega) (by have := gmax.dn; omega)
theorem ord_min (z : Int) (hz : dn z ≤ 1024) (w : World) : Calls Tryz.prog 17 #[.string (txt z), .string ⟨#[45, 57, 50, 50, 51, 51, 55, 50, 48, 51, 54, 56, 53, 52, 55, 55, 53, 56, 48, 56]⟩] w (Rets fun v w' => v = .int .i64 (z - (-9223372036854775808)).sign ∧ Below w.heap.size w w') := by
  rw [gmin.eq]; exact Order_any w z _ (by omega) (by have := gmin.dn; omega)

set_option maxHeartbeats 400000 in
theorem rSmall_err (w : World) (s : ByteArray) (hsz : s.size ≤ 1000000) (h : chk s.data.toList ≠ 0) :
    Calls Tryz.prog 111 #[.string s] w (Rets fun v w' => v = .tuple #[.int .i64 0, .int .i64 (chk s.data.toList)] ∧ Below w.heap.size w w') := by
  have hne : (chk s.data.toList != 0) = true := by simp [h]
  clear h
  go_enter Tryz.func111, Tryz.ntmps111
  go_wp2_with (go_at_call 7; (with_reducible refine (rCheck_any _ s hsz).mono ?_); rintro e w1 ⟨v, rfl, rfl, rfl⟩)
  go_ret2
  exact ⟨_, rfl, rfl, Below.refl _ _⟩
set_option maxHeartbeats 1000000 in
theorem rSmall_range (w : World) (s : ByteArray) (z : Int) (hz : Good s z) (hi : isI64 z = false) :
    Calls Tryz.prog 111 #[.string s] w (Rets fun v w' => v = .tuple #[.int .i64 0, .int .i64 2] ∧ Below w.heap.size w w') := by
  obtain rfl := hz.eq
  have O1 := Lib.hid (ord_max z hz.dn); have O2 := Lib.hid (ord_min z hz.dn); have HZ := Lib.hid hz
  have hc : 9223372036854775807 < z ∨ z < -9223372036854775808 := by simp [isI64] at hi; omega
  clear hz hi
  rcases hc with hc | hc
  · have E1 := Lib.hid (show (z - 9223372036854775807).sign = 1 from Int.sign_eq_one_of_pos (by omega))
    clear hc
    go_enter Tryz.func111, Tryz.ntmps111
    go_wp2_with (first
      | (go_at_call 7; (with_reducible refine (rCheck_any _ _ (by have := HZ.out.size; omega)).mono ?_); rintro e w1 ⟨v, rfl, rfl, rfl⟩; rw [HZ.out.chk])
      | (go_at_call 17; (with_reducible refine (O1.out _).mono ?_); rintro e w1 ⟨v, rfl, rfl, hb1⟩; rw [E1.out]))
    go_ret2
    exact ⟨_, rfl, rfl, hb1⟩
  · have E1 := Lib.hid (show (z - 9223372036854775807).sign = -1 from Int.sign_eq_neg_one_of_neg (by omega))
    have E2 := Lib.hid (show (z - (-9223372036854775808)).sign = -1 from Int.sign_eq_neg_one_of_neg (by omega))
    clear hc
    go_enter Tryz.func111, Tryz.ntmps111
    go_wp2_with (first
      | (go_at_call 7; (with_reducible refine (rCheck_any _ _ (by have := HZ.out.size; omega)).mono ?_); rintro e w1 ⟨v, rfl, rfl, rfl⟩; rw [HZ.out.chk])
      | (go_at_call 17; (with_reducible refine (O1.out _).mono ?_); rintro e w1 ⟨v, rfl, rfl, hb1⟩; rw [E1.out])
      | (go_at_call 17; (with_reducible refine (O2.out _).mono ?_); rintro e w2 ⟨v, rfl, rfl, hb2⟩; rw [E2.out]))
    go_ret2
    exact ⟨_, rfl, rfl, hb1.trans (hb2.mono hb1.size)⟩

theorem val_drop_cons (xs : List Nat) (k : Nat) (h : k < xs.length) : val 10 (xs.drop k) = xs[k] + 10 * val 10 (xs.drop (k + 1)) := by
  rw [List.drop_eq_getElem_cons h]; rfl
theorem val_drop_le (xs : List Nat) : ∀ k, val 10 (xs.drop k) ≤ val 10 xs := by
  induction xs with
  | nil => intro k; simp
  | cons a l ih =>
    intro k
    cases k with
    | zero => simp
    | succ k => rw [List.drop_succ_cons]; have := ih k; simp only [val]; omega
set_option maxHeartbeats 2000000 in
theorem rSmall_ok (w : World) (s : ByteArray) (z : Int) (hz : Good s z) (hi : isI64 z = true) :
    Calls Tryz.prog 111 #[.string s] w (Rets fun v w' => v = .tuple #[.int .i64 z, .int .i64 0] ∧ Below w.heap.size w w') := by
  obtain rfl := hz.eq
  have O1 := Lib.hid (ord_max z hz.dn); have O2 := Lib.hid (ord_min z hz.dn); have HZ := Lib.hid hz
  have hc : -9223372036854775808 ≤ z ∧ z ≤ 9223372036854775807 := by simp [isI64] at hi; omega
  obtain ⟨u, hu, hu0⟩ : ∃ u, (z - 9223372036854775807).sign = u ∧ u ≤ 0 := ⟨_, rfl, by
    rcases Int.lt_or_eq_of_le hc.2 with h | h
    · rw [Int.sign_eq_neg_one_of_neg (by omega)]; omega
    · rw [show z - 9223372036854775807 = 0 by omega]; decide⟩
  obtain ⟨t, ht, ht0⟩ : ∃ t, (z - (-9223372036854775808)).sign = t ∧ 0 ≤ t := ⟨_, rfl, by
    rcases Int.lt_or_eq_of_le hc.1 with h | h
    · rw [Int.sign_eq_one_of_pos (by omega)]; omega
    · rw [show z - (-9223372036854775808) = 0 by omega]; decide⟩
  have E1 := Lib.hid hu; have E2 := Lib.hid ht
  have hval := val_digs 10 z.natAbs (by omega)
  have hlt := digs_lt 10 z.natAbs (by omega)
  have hle := val_drop_le (digs 10 z.natAbs)
  have hdl : (digs 10 z.natAbs).length ≤ 1024 := hz.dn
  have HLT := Lib.hid hlt; have HLE := Lib.hid hle; have HVAL := Lib.hid hval
  clear hz hi hu ht hval hlt hle
  rcases Int.lt_or_le z 0 with hz0 | hz0
  · have HM := Lib.hid (show decide (z < 0) = true by simp; omega)
    go_enter Tryz.func111, Tryz.ntmps111
    go_wp2_with (first
      | (go_at_call 7; (with_reducible refine (rCheck_any _ _ (by have := HZ.out.size; omega)).mono ?_); rintro e w1 ⟨v, rfl, rfl, rfl⟩; rw [HZ.out.chk])
      | (go_at_call 17; (with_reducible refine (O1.out _).mono ?_); rintro e w1 ⟨v, rfl, rfl, hb1⟩; rw [E1.out])
      | (go_at_call 17; (with_reducible refine (O2.out _).mono ?_); rintro e w2 ⟨v, rfl, rfl, hb2⟩; rw [E2.out]; have b2 := hb1.trans (hb2.mono hb1.size))
      | (go_at_call 105; (with_reducible refine (digits_any _ z (by have := HZ.out.dn; have := itoa_len z; omega)).mono ?_); rintro e w3 ⟨v3, rfl, hs3, hb3⟩; obtain ⟨a3, b3, o3, c3, rfl, hi3, hp3, -, -⟩ := hs3.open elemInt; have bw := b2.trans (hb3.mono b2.size); clear hs3))
    go_loopw [5, 7] (fun n i wr => ∃ k : Nat, k ≤ (digs 10 z.natAbs).length ∧ i = .int .i64 ((k : Int) - 1) ∧ n = .int .i64 (-(val 10 ((digs 10 z.natAbs).drop k) : Int)) ∧ wr = w3) (fun _ i _ => (intOf i + 1).toNat)
    case atStart => exact ⟨(digs 10 z.natAbs).length, Nat.le_refl _, rfl, by rw [List.drop_length]; rfl, rfl⟩
    case round =>
      obtain ⟨k, hk, rfl, rfl, rfl⟩ := hrel
      rcases k with _ | k
      · have HR := Lib.hid (show -(val 10 ((digs 10 z.natAbs).drop 0) : Int) = z by rw [List.drop_zero, HVAL.out]; omega)
        rw [HR.out]
        go_wp2
        go_ret2
        exact ⟨_, rfl, rfl, bw⟩
      · have ek : (((k + 1 : Nat) : Int) - 1) = (k : Int) := by omega
        rw [ek]
        clear ek
        have hkl : k < (digs 10 z.natAbs).length := by omega
        have h1 : wr.cell? ⟨b3, o3 + k, none⟩ = some (.int .i64 ((digs 10 z.natAbs)[k] : Nat)) := hp3.2 k hkl
        have hd := HLT.out _ (List.getElem_mem hkl)
        have hv := val_drop_cons _ k hkl
        have hv2 := HLE.out k
        rw [HVAL.out] at hv2
        obtain ⟨d, hdd⟩ : ∃ d, d = (digs 10 z.natAbs)[k] := ⟨_, rfl⟩
        rw [← hdd] at h1 hd hv
        clear hdd
        have hb1 : 10 * val 10 ((digs 10 z.natAbs).drop (k + 1)) ≤ 9223372036854775808 := by omega
        have hb2' : val 10 ((digs 10 z.natAbs).drop k) ≤ 9223372036854775808 := by omega
        have hb3' : 0 ≤ z → val 10 ((digs 10 z.natAbs).drop k) ≤ 9223372036854775807 := by omega
        generalize val 10 ((digs 10 z.natAbs).drop (k + 1)) = V at *
        obtain ⟨V0, hV0⟩ : ∃ V0, V0 = val 10 ((digs 10 z.natAbs).drop k) := ⟨_, rfl⟩
        rw [← hV0] at hv hv2 hb2' hb3'
        have HV0 := Lib.hid hV0
        clear hV0
        go_wp2_with (go_at_call 51; (with_reducible refine (Minus_any _ z).mono ?_); rintro e w4 ⟨v, rfl, rfl, rfl⟩; rw [HM.out])
        go_roundw
        case rel => exact ⟨k, by omega, rfl, by rw [← HV0.out]; exact congrArg (Value.int .i64) (by omega), trivial⟩
        case measure => simp [intOf]
  · have HM := Lib.hid (show decide (z < 0) = false by simp; omega)
    go_enter Tryz.func111, Tryz.ntmps111
    go_wp2_with (first
      | (go_at_call 7; (with_reducible refine (rCheck_any _ _ (by have := HZ.out.size; omega)).mono ?_); rintro e w1 ⟨v, rfl, rfl, rfl⟩; rw [HZ.out.chk])
      | (go_at_call 17; (with_reducible refine (O1.out _).mono ?_); rintro e w1 ⟨v, rfl, rfl, hb1⟩; rw [E1.out])
      | (go_at_call 17; (with_reducible refine (O2.out _).mono ?_); rintro e w2 ⟨v, rfl, rfl, hb2⟩; rw [E2.out]; have b2 := hb1.trans (hb2.mono hb1.size))
      | (go_at_call 105; (with_reducible refine (digits_any _ z (by have := HZ.out.dn; have := itoa_len z; omega)).mono ?_); rintro e w3 ⟨v3, rfl, hs3, hb3⟩; obtain ⟨a3, b3, o3, c3, rfl, hi3, hp3, -, -⟩ := hs3.open elemInt; have bw := b2.trans (hb3.mono b2.size); clear hs3))
    go_loopw [5, 7] (fun n i wr => ∃ k : Nat, k ≤ (digs 10 z.natAbs).length ∧ i = .int .i64 ((k : Int) - 1) ∧ n = .int .i64 ((val 10 ((digs 10 z.natAbs).drop k) : Int)) ∧ wr = w3) (fun _ i _ => (intOf i + 1).toNat)
    case atStart => exact ⟨(digs 10 z.natAbs).length, Nat.le_refl _, rfl, by rw [List.drop_length]; rfl, rfl⟩
    case round =>
      obtain ⟨k, hk, rfl, rfl, rfl⟩ := hrel
      rcases k with _ | k
      · have HR := Lib.hid (show (val 10 ((digs 10 z.natAbs).drop 0) : Int) = z by rw [List.drop_zero, HVAL.out]; omega)
        rw [HR.out]
        go_wp2
        go_ret2
        exact ⟨_, rfl, rfl, bw⟩
      · have ek : (((k + 1 : Nat) : Int) - 1) = (k : Int) := by omega
        rw [ek]
        clear ek
        have hkl : k < (digs 10 z.natAbs).length := by omega
        have h1 : wr.cell? ⟨b3, o3 + k, none⟩ = some (.int .i64 ((digs 10 z.natAbs)[k] : Nat)) := hp3.2 k hkl
        have hd := HLT.out _ (List.getElem_mem hkl)
        have hv := val_drop_cons _ k hkl
        have hv2 := HLE.out k
        rw [HVAL.out] at hv2
        obtain ⟨d, hdd⟩ : ∃ d, d = (digs 10 z.natAbs)[k] := ⟨_, rfl⟩
        rw [← hdd] at h1 hd hv
        clear hdd
        have hb1 : 10 * val 10 ((digs 10 z.natAbs).drop (k + 1)) ≤ 9223372036854775808 := by omega
        have hb2' : val 10 ((digs 10 z.natAbs).drop k) ≤ 9223372036854775808 := by omega
        have hb3' : 0 ≤ z → val 10 ((digs 10 z.natAbs).drop k) ≤ 9223372036854775807 := by omega
        generalize val 10 ((digs 10 z.natAbs).drop (k + 1)) = V at *
        obtain ⟨V0, hV0⟩ : ∃ V0, V0 = val 10 ((digs 10 z.natAbs).drop k) := ⟨_, rfl⟩
        rw [← hV0] at hv hv2 hb2' hb3'
        have HV0 := Lib.hid hV0
        clear hV0
        go_wp2_with (go_at_call 51; (with_reducible refine (Minus_any _ z).mono ?_); rintro e w4 ⟨v, rfl, rfl, rfl⟩; rw [HM.out])
        go_roundw
        case rel => exact ⟨k, by omega, rfl, by rw [← HV0.out]; exact congrArg (Value.int .i64) (by omega), trivial⟩
        case measure => simp [intOf]

theorem digs_split (n k : Nat) (os : List Nat) (hk : 0 < k) (h : digs 10 n = os ++ digs 10 k) : digs 10 n = (os ++ [k % 10]) ++ digs 10 (k / 10) := by
  rw [h, digs_pos 10 k (by omega) hk, List.append_assoc]; rfl
set_option maxHeartbeats 1000000 in
theorem rOf_pos (w : World) (n : Nat) (h1 : n ≤ 9223372036854775807) :
    Calls Tryz.prog 19 #[.int .i64 n] w (Rets fun v w' => v = .string (txt n) ∧ Below w.heap.size w w') := by
  have hL : (digs 10 n).length ≤ 19 := (digs_len 10 n 19 (by omega)).2 (by omega)
  have HL := Lib.hid hL
  have h0 : (0 : Int) ≤ n := by omega
  have hnn : (n : Int) ≤ 9223372036854775807 := by omega
  have HS := Lib.hid (show sg false n = (n : Int) from rfl)
  clear hL h1
  go_enter Tryz.func19, Tryz.ntmps19
  go_wp2
  go_loopw [0, 4] (fun m l wr => ∃ (k : Nat) (os : List Nat), m = .int .i64 k ∧ k ≤ n ∧ Hid (digs 10 n = os ++ digs 10 k) ∧ Hid (os.length ≤ 19) ∧ wr.ownsRow w.heap.size 3 1 l os.length (os.map eI) ∧ Below w.heap.size w wr) (fun m _ _ => (intOf m).toNat)
  case atStart => exact ⟨n, [], rfl, Nat.le_refl _, Lib.hid rfl, Lib.hid (by simp), World.ownsRow_nil _ _ _ _, Below.refl _ _⟩
  case round =>
    obtain ⟨k, os, rfl, hkn, hd, hol, hown, hb⟩ := hrel
    have hbs := hb.size
    by_cases hk0 : k = 0
    · subst hk0
      have ho : os = digs 10 n := by rw [hd.out, digs_zero, List.append_nil]
      have HO := Lib.hid (show Sl eI wr _ (digs 10 n) from ho ▸ Sl.ofOwns hown)
      obtain ⟨a3, b3, o3, c3, hl3, -, -, -, -⟩ := HO.out.open elemInt
      clear ho hown
      subst hl3
      go_wp2_with (go_at_call 53; (with_reducible refine (rtext_any _ _ n false HO.out (by have := HL.out; omega)).mono ?_); rintro e w2 ⟨v, rfl, rfl, hb2⟩; rw [HS.out])
      go_ret
      exact ⟨_, rfl, rfl, hb.trans (hb2.mono hb.size)⟩
    · have hk1 : 0 < k := by omega
      have HD := Lib.hid (digs_split n k os hk1 hd.out)
      have hol2 : os.length ≤ 19 := hol.out
      have hol3 : os.length + 1 ≤ 19 := by
        have := congrArg List.length HD.out
        simp at this; have := HL.out; omega
      go_wp2_with (at_builtin; refine app1 elemInt rfl _ _ rfl rfl rfl hown hb (Nat.le_refl _) hbs rfl (by simp [Value.oneCell']) (by omega) (by unfold maxLen; omega) ?_; intro v' w2 hown' hb')
      go_roundw
      case rel => exact ⟨k / 10, os ++ [k % 10], congrArg (Value.int .i64) (by omega), by omega, HD, Lib.hid (by simp; omega), by simpa [eI] using hown', hb'⟩
      case measure => simp [intOf]; omega
set_option maxHeartbeats 1000000 in
theorem rOf_neg (w : World) (n : Nat) (h1 : n ≤ 9223372036854775808) (hn0 : 0 < n) :
    Calls Tryz.prog 19 #[.int .i64 (-(n : Int))] w (Rets fun v w' => v = .string (txt (-(n : Int))) ∧ Below w.heap.size w w') := by
  have hL : (digs 10 n).length ≤ 19 := (digs_len 10 n 19 (by omega)).2 (by omega)
  have HL := Lib.hid hL
  have h0 : -(n : Int) < 0 := by omega
  have hnn : (n : Int) ≤ 9223372036854775808 := by omega
  have HS := Lib.hid (show sg true n = -(n : Int) from rfl)
  clear hL h1
  go_enter Tryz.func19, Tryz.ntmps19
  go_wp2
  go_loopw [0, 4] (fun m l wr => ∃ (k : Nat) (os : List Nat), m = .int .i64 (-(k : Int)) ∧ k ≤ n ∧ Hid (digs 10 n = os ++ digs 10 k) ∧ Hid (os.length ≤ 19) ∧ wr.ownsRow w.heap.size 3 1 l os.length (os.map eI) ∧ Below w.heap.size w wr) (fun m _ _ => (-(intOf m)).toNat)
  case atStart => exact ⟨n, [], rfl, Nat.le_refl _, Lib.hid rfl, Lib.hid (by simp), World.ownsRow_nil _ _ _ _, Below.refl _ _⟩
  case round =>
    obtain ⟨k, os, rfl, hkn, hd, hol, hown, hb⟩ := hrel
    have hbs := hb.size
    by_cases hk0 : k = 0
    · subst hk0
      have hdl : 0 < (digs 10 n).length := by rw [List.length_pos_iff, Ne, digs_nil (by omega)]; omega
      have ho : os = digs 10 n := by rw [hd.out, digs_zero, List.append_nil]
      have HO := Lib.hid (show Sl eI wr _ (digs 10 n) from ho ▸ Sl.ofOwns hown)
      obtain ⟨a3, b3, o3, c3, hl3, -, -, -, -⟩ := HO.out.open elemInt
      clear ho hown
      subst hl3
      go_wp2_with (go_at_call 53; (with_reducible refine (rtext_any _ _ n true HO.out (by have := HL.out; omega)).mono ?_); rintro e w2 ⟨v, rfl, rfl, hb2⟩; rw [HS.out])
      go_ret
      exact ⟨_, rfl, rfl, hb.trans (hb2.mono hb.size)⟩
    · have hk1 : 0 < k := by omega
      have HD := Lib.hid (digs_split n k os hk1 hd.out)
      have hol2 : os.length ≤ 19 := hol.out
      have hol3 : os.length + 1 ≤ 19 := by
        have := congrArg List.length HD.out
        simp at this; have := HL.out; omega
      rcases (show (k : Int) % 10 = 0 ∨ 0 < (k : Int) % 10 by omega) with hkm | hkm
      all_goals
        go_wp2_with (at_builtin; refine app1 elemInt rfl _ _ rfl rfl rfl hown hb (Nat.le_refl _) hbs rfl (by simp [Value.oneCell']) (by omega) (by unfold maxLen; omega) ?_; intro v' w2 hown' hb')
        go_roundw
        case rel => exact ⟨k / 10, os ++ [k % 10], congrArg (Value.int .i64) (by omega), by omega, HD, Lib.hid (by simp; omega), by first | simpa [eI] using hown' | (rw [show k % 10 = 0 by omega]; simpa [eI] using hown'), hb'⟩
        case measure => simp [intOf]; omega
theorem rOf_any (w : World) (n : Int) (h0 : -9223372036854775808 ≤ n) (h1 : n ≤ 9223372036854775807) :
    Calls Tryz.prog 19 #[.int .i64 n] w (Rets fun v w' => v = .string (txt n) ∧ Below w.heap.size w w') := by
  rcases Int.lt_or_le n 0 with h | h
  · obtain ⟨k, rfl⟩ : ∃ k : Nat, n = -(k : Int) := ⟨n.natAbs, by omega⟩
    exact rOf_neg w k (by omega) (by omega)
  · obtain ⟨k, rfl⟩ : ∃ k : Nat, n = (k : Int) := ⟨n.natAbs, by omega⟩
    exact rOf_pos w k (by omega)
end Go.Proofs.YtajkhbpffakmfaaGreatDoor

namespace Go.Proofs.YtajkhbpffakmfaaGreatDoor
open Go.RowKit
set_option maxRecDepth 100000

set_option maxHeartbeats 400000 in
theorem both_err (w : World) (s t : ByteArray) (f : Value) (hs : s.size ≤ 1000000) (ht : t.size ≤ 1000000) (h : chks [s, t] ≠ 0) :
    Calls Tryz.prog 39 #[.string s, .string t, f] w (Rets fun v w' => v = .tuple #[.string ⟨#[]⟩, .int .i64 (chks [s, t])] ∧ Below w.heap.size w w') := by
  have hne : (chks [s, t] != 0) = true := by simp [h]
  have hb0 : Below w.heap.size w (w.alloc (.cells #[.string s, .string t] 26)) := (Below.refl _ w).alloc (Nat.le_refl _) _
  have HB0 := Lib.hid hb0
  have HSZ := Lib.hid (show ∀ x ∈ [s, t], x.size ≤ 1000000 by intro x hx; simp at hx; rcases hx with rfl | rfl; exact hs; exact ht)
  clear h hb0
  go_enter Tryz.func39, Tryz.ntmps39
  go_wp2_with (go_at_call 70; refine (checked_any _ _ _ (Sl.pair w s t _) HSZ.out (by simp)).mono ?_; rintro e w' ⟨v, rfl, rfl, hb⟩)
  go_ret2
  exact ⟨_, rfl, rfl, HB0.out.trans (hb.mono (by simp))⟩

set_option maxHeartbeats 400000 in
theorem both_sum (w : World) (s t : ByteArray) (x y : Int) (hx : Good s x) (hy : Good t y) (he : Env w) :
    Calls Tryz.prog 39 #[.string s, .string t, .func (.func 41) #[] #[]] w (Rets fun v w' => v = resV (x + y) ∧ Below w.heap.size w w') := by
  have h0 : chks [s, t] = 0 := by rw [chks_pair, hx.chk, hy.chk]; rfl
  have hb0 : Below w.heap.size w (w.alloc (.cells #[.string s, .string t] 26)) := (Below.refl _ w).alloc (Nat.le_refl _) _
  obtain ⟨tt, k, hr, -, -⟩ := resV_cases (x + y)
  have hwl := wl_add x y
  have HWL := Lib.hid hwl
  have HB0 := Lib.hid hb0; have H0 := Lib.hid h0; have HX := Lib.hid hx; have HY := Lib.hid hy; have HR := Lib.hid hr; have HE := Lib.hid he
  have HSZ := Lib.hid (show ∀ x ∈ [s, t], x.size ≤ 1000000 by intro x h; simp at h; rcases h with rfl | rfl; (have := hx.size; omega); (have := hy.size; omega))
  clear h0 hb0 hx hy hr he hwl
  go_enter Tryz.func39, Tryz.ntmps39
  go_wp2_with (first
    | (go_at_call 70; refine (checked_any _ _ _ (Sl.pair w s t _) HSZ.out (by simp)).mono ?_; rintro e w1 ⟨v, rfl, rfl, hb1⟩; rw [H0.out]; have b1 := HB0.out.trans (hb1.mono (by simp)))
    | (go_at_call_of 47 (Value.string s); refine (read_any _ _ x HX.out.1 (by have := HX.out.size; omega)).mono ?_; rintro e w2 ⟨v, rfl, hn2, hb2⟩; have HN2 := Lib.hid hn2; clear hn2; have b2 := b1.trans (hb2.mono b1.size))
    | (go_at_call_of 47 (Value.string t); refine (read_any _ _ y HY.out.1 (by have := HY.out.size; omega)).mono ?_; rintro e w3 ⟨v, rfl, hn3, hb3⟩; have HN3 := Lib.hid hn3; clear hn3; have b3 := b2.trans (hb3.mono b2.size))
    | (go_at_call 41; refine (sum_any _ _ _ x y (HN2.out.below hb3 (Nat.le_refl _)) HN3.out (by have := HX.out.wl; omega) (by have := HY.out.wl; omega)).mono ?_; rintro e w5 ⟨v, rfl, hn5, hb5⟩; have HN5 := Lib.hid hn5; clear hn5; have b5 := b3.trans (hb5.mono b3.size))
    | (go_at_call 46; refine (result_any _ _ _ HN5.out (by have := HX.out.wl; have := HY.out.wl; have := HWL.out; omega) (HE.out.below b5 (Nat.le_refl _))).mono ?_; rintro e w6 ⟨v, rfl, rfl, hb6⟩; rw [HR.out]))
  go_ret2
  exact ⟨_, rfl, by rw [HR.out]; rfl, b5.trans (hb6.mono b5.size)⟩
set_option maxHeartbeats 400000 in
theorem both_product (w : World) (s t : ByteArray) (x y : Int) (hx : Good s x) (hy : Good t y) (he : Env w) :
    Calls Tryz.prog 39 #[.string s, .string t, .func (.func 40) #[] #[]] w (Rets fun v w' => v = resV (x * y) ∧ Below w.heap.size w w') := by
  have h0 : chks [s, t] = 0 := by rw [chks_pair, hx.chk, hy.chk]; rfl
  have hb0 : Below w.heap.size w (w.alloc (.cells #[.string s, .string t] 26)) := (Below.refl _ w).alloc (Nat.le_refl _) _
  obtain ⟨tt, k, hr, -, -⟩ := resV_cases (x * y)
  have hwl := wl_mul x y
  have HWL := Lib.hid hwl
  have HB0 := Lib.hid hb0; have H0 := Lib.hid h0; have HX := Lib.hid hx; have HY := Lib.hid hy; have HR := Lib.hid hr; have HE := Lib.hid he
  have HSZ := Lib.hid (show ∀ x ∈ [s, t], x.size ≤ 1000000 by intro x h; simp at h; rcases h with rfl | rfl; (have := hx.size; omega); (have := hy.size; omega))
  clear h0 hb0 hx hy hr he hwl
  go_enter Tryz.func39, Tryz.ntmps39
  go_wp2_with (first
    | (go_at_call 70; refine (checked_any _ _ _ (Sl.pair w s t _) HSZ.out (by simp)).mono ?_; rintro e w1 ⟨v, rfl, rfl, hb1⟩; rw [H0.out]; have b1 := HB0.out.trans (hb1.mono (by simp)))
    | (go_at_call_of 47 (Value.string s); refine (read_any _ _ x HX.out.1 (by have := HX.out.size; omega)).mono ?_; rintro e w2 ⟨v, rfl, hn2, hb2⟩; have HN2 := Lib.hid hn2; clear hn2; have b2 := b1.trans (hb2.mono b1.size))
    | (go_at_call_of 47 (Value.string t); refine (read_any _ _ y HY.out.1 (by have := HY.out.size; omega)).mono ?_; rintro e w3 ⟨v, rfl, hn3, hb3⟩; have HN3 := Lib.hid hn3; clear hn3; have b3 := b2.trans (hb3.mono b2.size))
    | (go_at_call 40; refine (product_any _ _ _ x y (HN2.out.below hb3 (Nat.le_refl _)) HN3.out (by have := HX.out.wl; have := HY.out.wl; omega)).mono ?_; rintro e w5 ⟨v, rfl, hn5, hb5⟩; have HN5 := Lib.hid hn5; clear hn5; have b5 := b3.trans (hb5.mono b3.size))
    | (go_at_call 46; refine (result_any _ _ _ HN5.out (by have := HX.out.wl; have := HY.out.wl; have := HWL.out; omega) (HE.out.below b5 (Nat.le_refl _))).mono ?_; rintro e w6 ⟨v, rfl, rfl, hb6⟩; rw [HR.out]))
  go_ret2
  exact ⟨_, rfl, by rw [HR.out]; rfl, b5.trans (hb6.mono b5.size)⟩

set_option maxHeartbeats 400000 in
theorem Add_err (w : World) (s t : ByteArray) (hs : s.size ≤ 1000000) (ht : t.size ≤ 1000000) (h : chks [s, t] ≠ 0) :
    Calls Tryz.prog 11 #[.string s, .string t] w (Rets fun v w' => v = .tuple #[.string ⟨#[]⟩, .int .i64 (chks [s, t])] ∧ Below w.heap.size w w') := by
  go_enter Tryz.func11, Tryz.ntmps11
  go_wp2_with (go_at_call 39; refine (both_err _ _ _ _ hs ht h).mono ?_; rintro e w' ⟨v, rfl, rfl, hb⟩)
  go_ret2
  exact ⟨_, rfl, rfl, hb⟩
set_option maxHeartbeats 400000 in
theorem Add_ok (w : World) (s t : ByteArray) (x y : Int) (hx : Good s x) (hy : Good t y) (he : Env w) :
    Calls Tryz.prog 11 #[.string s, .string t] w (Rets fun v w' => v = resV (x + y) ∧ Below w.heap.size w w') := by
  obtain ⟨tt, k, hr, -, -⟩ := resV_cases (x + y)
  have HR := Lib.hid hr; have HX := Lib.hid hx; have HY := Lib.hid hy; have HE := Lib.hid he
  clear hr hx hy he
  go_enter Tryz.func11, Tryz.ntmps11
  go_wp2_with (go_at_call 39; refine (both_sum _ _ _ x y HX.out HY.out HE.out).mono ?_; rintro e w' ⟨v, rfl, rfl, hb⟩; rw [HR.out])
  go_ret2
  exact ⟨_, rfl, by rw [HR.out]; rfl, hb⟩

set_option maxHeartbeats 400000 in
theorem Mul_err (w : World) (s t : ByteArray) (hs : s.size ≤ 1000000) (ht : t.size ≤ 1000000) (h : chks [s, t] ≠ 0) :
    Calls Tryz.prog 10 #[.string s, .string t] w (Rets fun v w' => v = .tuple #[.string ⟨#[]⟩, .int .i64 (chks [s, t])] ∧ Below w.heap.size w w') := by
  go_enter Tryz.func10, Tryz.ntmps10
  go_wp2_with (go_at_call 39; refine (both_err _ _ _ _ hs ht h).mono ?_; rintro e w' ⟨v, rfl, rfl, hb⟩)
  go_ret2
  exact ⟨_, rfl, rfl, hb⟩
set_option maxHeartbeats 400000 in
theorem Mul_ok (w : World) (s t : ByteArray) (x y : Int) (hx : Good s x) (hy : Good t y) (he : Env w) :
    Calls Tryz.prog 10 #[.string s, .string t] w (Rets fun v w' => v = resV (x * y) ∧ Below w.heap.size w w') := by
  obtain ⟨tt, k, hr, -, -⟩ := resV_cases (x * y)
  have HR := Lib.hid hr; have HX := Lib.hid hx; have HY := Lib.hid hy; have HE := Lib.hid he
  clear hr hx hy he
  go_enter Tryz.func10, Tryz.ntmps10
  go_wp2_with (go_at_call 39; refine (both_product _ _ _ x y HX.out HY.out HE.out).mono ?_; rintro e w' ⟨v, rfl, rfl, hb⟩; rw [HR.out])
  go_ret2
  exact ⟨_, rfl, by rw [HR.out]; rfl, hb⟩
end Go.Proofs.YtajkhbpffakmfaaGreatDoor
