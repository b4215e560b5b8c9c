/- The walks of the reference's sums, products and orders of integers. The walks of the reference's differences, products, orders of integers, and of its bounded answers. The walks of abelian's order, divides and Check. The walk of the reference's division of digits. The walk of integer's Small. The walks of the reference's Small and Of. The walk of the reference's division of digits: the loops. The walks of the reference's Add, Sub and Positive. The decimal text of an integer tells the integer. The walks of integer's Add and Mul. The walk of integer's Sub. -/
import Derived.Test.YtdpdkojeapaflaaGreatDoorPk3
import Derived.Laws.AppendOwnNone
import Derived.Lib.AtoiAllCases
import Derived.Test.YtdpdkojeapaflaaGreatDoorPk2
namespace Go.Proofs.YtdpdkojeapaflaaGreatDoor
open Go.RowKit
set_option maxRecDepth 100000

/-- How many digits an integer has, none for 0. -/
def dn (z : Int) : Nat := (digs 10 z.natAbs).length
theorem itoa_len (z : Int) : (Lib.itoa z).length ≤ dn z + 2 := by
  have h : (Lib.decDigits z.natAbs).length ≤ dn z + 1 := by
    unfold dn
    rcases Nat.eq_zero_or_pos z.natAbs with h | h
    · rw [h, digs_zero, Lib.decDigits_one (by omega)]; simp
    · rw [digs10_len_eq _ h]; omega
  rw [itoa_cases]; split
  · rw [List.length_cons]; omega
  · omega
theorem dn_neg (z : Int) : dn (-z) = dn z := by unfold dn; rw [Int.natAbs_neg]
theorem dn_add (x y : Int) : dn (x + y) ≤ max (dn x) (dn y) + 1 := by
  unfold dn
  exact Nat.le_trans (digs_len_mono _ (by omega) (Int.natAbs_add_le x y)) (digs_len_add _ _ _ (by omega))
theorem dn_sub (x y : Int) : dn (x - y) ≤ max (dn x) (dn y) + 1 := by rw [Int.sub_eq_add_neg]; have := dn_add x (-y); rwa [dn_neg] at this
theorem dn_mul (x y : Int) : dn (x * y) ≤ dn x + dn y := by unfold dn; rw [Int.natAbs_mul]; exact digs_len_mul _ _ _ (by omega)
theorem Good.dn {s : ByteArray} {z : Int} (h : Good s z) : dn z ≤ 1024 := Nat.le_trans (digs10_len _) h.dec

theorem sg_self (z : Int) : sg (decide (z < 0)) z.natAbs = z := by by_cases h : z < 0 <;> simp [sg, h] <;> omega
theorem sg_not (z : Int) : sg (!decide (z < 0)) z.natAbs = -z := by by_cases h : z < 0 <;> simp [sg, h] <;> omega
set_option maxHeartbeats 400000 in
theorem Turned_any (w : World) (z : Int) (hz : dn z ≤ 100000) :
    Calls Tryz.prog 114 #[.string (txt z)] w (Rets fun v w' => v = .string (txt (-z)) ∧ Below w.heap.size w w') := by
  have hl := itoa_len z
  have HL := Lib.hid hl; have HZ := Lib.hid hz
  have HS := Lib.hid (sg_not z)
  clear hl hz
  go_enter Tryz.func114, Tryz.ntmps114
  go_wp2_with (first
    | (go_at_call 81; (with_reducible refine (digits_any _ z (by have := HL.out; have := HZ.out; omega)).mono ?_); rintro e w1 ⟨v, rfl, hs1, hb1⟩; have HS1 := Lib.hid hs1; clear hs1)
    | (go_at_call 61; (with_reducible refine (Minus_any _ z).mono ?_); rintro e w2 ⟨v, rfl, rfl, rfl⟩)
    | (go_at_call 82; (with_reducible refine (rtext_any _ _ z.natAbs (!decide (z < 0)) HS1.out (by have := HZ.out; unfold dn at this; omega)).mono ?_); rintro e w3 ⟨v, rfl, rfl, hb3⟩; rw [HS.out]))
  go_ret
  exact ⟨_, rfl, rfl, hb1.trans (hb3.mono hb1.size)⟩

theorem below4 {w w1 w2 w3 w4 w5 : World} (h1 : Below w.heap.size w w1) (h2 : Below w1.heap.size w1 w2) (h3 : Below w2.heap.size w2 w3) (h4 : Below w3.heap.size w3 w4) (h5 : Below w4.heap.size w4 w5) : Below w.heap.size w w5 :=
  have s1 := h1.size
  have s2 := Nat.le_trans s1 h2.size
  have s3 := Nat.le_trans s2 h3.size
  have s4 := Nat.le_trans s3 h4.size
  (((h1.trans (h2.mono s1)).trans (h3.mono s2)).trans (h4.mono s3)).trans (h5.mono s4)
set_option maxHeartbeats 1000000 in
theorem Plus_any (w : World) (x y : Int) (hx : dn x ≤ 100000) (hy : dn y ≤ 100000) :
    Calls Tryz.prog 31 #[.string (txt x), .string (txt y)] w (Rets fun v w' => v = .string (txt (x + y)) ∧ Below w.heap.size w w') := by
  have hl := itoa_len x
  have hl' := itoa_len y
  have HL := Lib.hid hl; have HL' := Lib.hid hl'; have HX := Lib.hid hx; have HY := Lib.hid hy
  clear hl hl' hx hy
  by_cases hs : decide (x < 0) = decide (y < 0)
  · have HS := Lib.hid (natCmp x y hs)
    obtain ⟨m, hm⟩ : ∃ m, decide (x < 0) = m := ⟨_, rfl⟩
    have hm' : decide (y < 0) = m := by rw [← hs, hm]
    have HM := Lib.hid hm; have HM' := Lib.hid hm'
    have HS2 : Hid (sg m (x.natAbs + y.natAbs) = x + y) := Lib.hid (by rw [← hm]; exact HS.out)
    have hmm : (m == m) = true := by simp
    clear hs hm hm'
    go_enter Tryz.func31, Tryz.ntmps31
    go_wp2_with (first
      | (go_at_call_of 81 (Value.string (txt x)); (with_reducible refine (digits_any _ x (by have := HL.out; have := HX.out; omega)).mono ?_); rintro e w1 ⟨v1, rfl, hs1, hb1⟩; have HS1 := Lib.hid hs1; clear hs1)
      | (go_at_call_of 81 (Value.string (txt y)); (with_reducible refine (digits_any _ y (by have := HL'.out; have := HY.out; omega)).mono ?_); rintro e w2 ⟨v2, rfl, hs2, hb2⟩; have HS2' := Lib.hid hs2; clear hs2)
      | (go_at_call_of 61 (Value.string (txt x)); (with_reducible refine (Minus_any _ x).mono ?_); rintro e w3 ⟨v, rfl, rfl, rfl⟩; rw [HM.out])
      | (go_at_call_of 61 (Value.string (txt y)); (with_reducible refine (Minus_any _ y).mono ?_); rintro e w3 ⟨v, rfl, rfl, rfl⟩; rw [HM'.out])
      | (go_at_call 83; (with_reducible refine (added_any _ _ _ x.natAbs y.natAbs (HS1.out.below hb2 (Nat.le_refl _)) HS2'.out (by have := HX.out; unfold dn at this; omega) (by have := HY.out; unfold dn at this; omega)).mono ?_); rintro e w4 ⟨v4, rfl, hs4, hb4⟩; have HS4 := Lib.hid hs4; clear hs4)
      | (go_at_call 82; (with_reducible refine (rtext_any _ _ (x.natAbs + y.natAbs) m HS4.out (by have h1 := HX.out; have h2 := HY.out; have := digs_len_add 10 x.natAbs y.natAbs (by omega); unfold dn at h1 h2; omega)).mono ?_); rintro e w5 ⟨v, rfl, rfl, hb5⟩; rw [HS2.out]))
    go_ret
    exact ⟨_, rfl, rfl, ((hb1.trans (hb2.mono hb1.size)).trans (hb4.mono (Nat.le_trans hb1.size hb2.size))).trans (hb5.mono (Nat.le_trans (Nat.le_trans hb1.size hb2.size) hb4.size))⟩
  · obtain ⟨m, hm⟩ : ∃ m, decide (x < 0) = m := ⟨_, rfl⟩
    have hm' : decide (y < 0) = !m := by rw [← hm]; cases h1 : decide (x < 0) <;> cases h2 : decide (y < 0) <;> simp_all
    have HM := Lib.hid hm; have HM' := Lib.hid hm'
    have hmm : (m == !m) = false := by cases m <;> rfl
    by_cases hlt : x.natAbs < y.natAbs
    · have HS2 : Hid (sg (!m) (y.natAbs - x.natAbs) = x + y) := Lib.hid (by rw [← hm']; exact natCmp3 x y hs (by omega))
      have ho : ((x.natAbs : Int) - (y.natAbs : Int)).sign = -1 := order_lt hlt
      have HO := Lib.hid ho; have HLT := Lib.hid hlt
      clear hs hm hm' ho hlt
      go_enter Tryz.func31, Tryz.ntmps31
      go_wp2_with (first
        | (go_at_call_of 81 (Value.string (txt x)); (with_reducible refine (digits_any _ x (by have := HL.out; have := HX.out; omega)).mono ?_); rintro e w1 ⟨v1, rfl, hs1, hb1⟩; have HS1 := Lib.hid hs1; clear hs1)
        | (go_at_call_of 81 (Value.string (txt y)); (with_reducible refine (digits_any _ y (by have := HL'.out; have := HY.out; omega)).mono ?_); rintro e w2 ⟨v2, rfl, hs2, hb2⟩; have HS2' := Lib.hid hs2; clear hs2)
        | (go_at_call_of 61 (Value.string (txt x)); (with_reducible refine (Minus_any _ x).mono ?_); rintro e w3 ⟨v, rfl, rfl, rfl⟩; rw [HM.out])
        | (go_at_call_of 61 (Value.string (txt y)); (with_reducible refine (Minus_any _ y).mono ?_); rintro e w3 ⟨v, rfl, rfl, rfl⟩; rw [HM'.out])
        | (go_at_call 84; (with_reducible refine (rorder_any _ _ _ x.natAbs y.natAbs (HS1.out.below hb2 (Nat.le_refl _)) HS2'.out (by have := HX.out; unfold dn at this; omega)).mono ?_); rintro e w4 ⟨v, rfl, rfl, hb4⟩; rw [HO.out])
        | (go_at_call 85; (with_reducible refine (taken_any _ _ _ y.natAbs x.natAbs (HS2'.out.below hb4 (Nat.le_refl _)) ((HS1.out.below hb2 (Nat.le_refl _)).below hb4 (Nat.le_refl _)) (by have := HY.out; unfold dn at this; omega) (by have := HLT.out; omega)).mono ?_); rintro e w5 ⟨v5, rfl, hs5, hb5⟩; have HS5 := Lib.hid hs5; clear hs5)
        | (go_at_call 82; (with_reducible refine (rtext_any _ _ (y.natAbs - x.natAbs) (!m) HS5.out (by have h1 := HY.out; have := digs_len_mono 10 (by omega) (Nat.sub_le y.natAbs x.natAbs); unfold dn at h1; omega)).mono ?_); rintro e w6 ⟨v, rfl, rfl, hb6⟩; rw [HS2.out]))
      go_ret
      exact ⟨_, rfl, rfl, below4 hb1 hb2 hb4 hb5 hb6⟩
    · have HS2 : Hid (sg m (x.natAbs - y.natAbs) = x + y) := Lib.hid (by rw [← hm]; exact natCmp2 x y hs (by omega))
      have ho : ¬ ((x.natAbs : Int) - (y.natAbs : Int)).sign < 0 := by
        rcases Nat.lt_or_ge y.natAbs x.natAbs with h | h
        · rw [order_gt h]; omega
        · rw [order_eq (by omega)]; omega
      obtain ⟨r, hr⟩ : ∃ r, ((x.natAbs : Int) - (y.natAbs : Int)).sign = r := ⟨_, rfl⟩
      rw [hr] at ho
      have HO := Lib.hid hr; have HLT := Lib.hid hlt
      clear hs hm hm' hr hlt
      go_enter Tryz.func31, Tryz.ntmps31
      go_wp2_with (first
        | (go_at_call_of 81 (Value.string (txt x)); (with_reducible refine (digits_any _ x (by have := HL.out; have := HX.out; omega)).mono ?_); rintro e w1 ⟨v1, rfl, hs1, hb1⟩; have HS1 := Lib.hid hs1; clear hs1)
        | (go_at_call_of 81 (Value.string (txt y)); (with_reducible refine (digits_any _ y (by have := HL'.out; have := HY.out; omega)).mono ?_); rintro e w2 ⟨v2, rfl, hs2, hb2⟩; have HS2' := Lib.hid hs2; clear hs2)
        | (go_at_call_of 61 (Value.string (txt x)); (with_reducible refine (Minus_any _ x).mono ?_); rintro e w3 ⟨v, rfl, rfl, rfl⟩; rw [HM.out])
        | (go_at_call_of 61 (Value.string (txt y)); (with_reducible refine (Minus_any _ y).mono ?_); rintro e w3 ⟨v, rfl, rfl, rfl⟩; rw [HM'.out])
        | (go_at_call 84; (with_reducible refine (rorder_any _ _ _ x.natAbs y.natAbs (HS1.out.below hb2 (Nat.le_refl _)) HS2'.out (by have := HX.out; unfold dn at this; omega)).mono ?_); rintro e w4 ⟨v, rfl, rfl, hb4⟩; rw [HO.out])
        | (go_at_call 85; (with_reducible refine (taken_any _ _ _ x.natAbs y.natAbs ((HS1.out.below hb2 (Nat.le_refl _)).below hb4 (Nat.le_refl _)) (HS2'.out.below hb4 (Nat.le_refl _)) (by have := HX.out; unfold dn at this; omega) (by have := HLT.out; omega)).mono ?_); rintro e w5 ⟨v5, rfl, hs5, hb5⟩; have HS5 := Lib.hid hs5; clear hs5)
        | (go_at_call 82; (with_reducible refine (rtext_any _ _ (x.natAbs - y.natAbs) m HS5.out (by have h1 := HX.out; have := digs_len_mono 10 (by omega) (Nat.sub_le x.natAbs y.natAbs); unfold dn at h1; omega)).mono ?_); rintro e w6 ⟨v, rfl, rfl, hb6⟩; rw [HS2.out]))
      go_ret
      exact ⟨_, rfl, rfl, below4 hb1 hb2 hb4 hb5 hb6⟩
end Go.Proofs.YtdpdkojeapaflaaGreatDoor
namespace Go.Proofs.YtdpdkojeapaflaaGreatDoor
open Go.RowKit
set_option maxRecDepth 100000

set_option maxHeartbeats 400000 in
theorem Less_any (w : World) (x y : Int) (hx : dn x ≤ 100000) (hy : dn y ≤ 100000) :
    Calls Tryz.prog 60 #[.string (txt x), .string (txt y)] w (Rets fun v w' => v = .string (txt (x - y)) ∧ Below w.heap.size w w') := by
  have HX := Lib.hid hx; have HY := Lib.hid hy
  have HE := Lib.hid (Int.sub_eq_add_neg (a := x) (b := y)).symm
  clear hx hy
  go_enter Tryz.func60, Tryz.ntmps60
  go_wp2_with (first
    | (go_at_call 114; (with_reducible refine (Turned_any _ y HY.out).mono ?_); rintro e w1 ⟨v, rfl, rfl, hb1⟩)
    | (go_at_call 31; (with_reducible refine (Plus_any _ x (-y) HX.out (by rw [dn_neg]; exact HY.out)).mono ?_); rintro e w2 ⟨v, rfl, rfl, hb2⟩; rw [HE.out]))
  go_ret
  exact ⟨_, rfl, rfl, hb1.trans (hb2.mono hb1.size)⟩

set_option maxHeartbeats 1000000 in
theorem Times_any (w : World) (x y : Int) (hx : dn x ≤ 100000) (hy : dn y ≤ 100000) :
    Calls Tryz.prog 101 #[.string (txt x), .string (txt y)] w (Rets fun v w' => v = .string (txt (x * y)) ∧ Below w.heap.size w w') := by
  have hl := itoa_len x
  have hl' := itoa_len y
  have HL1 := Lib.hid hl; have HL2 := Lib.hid hl'; have HX1 := Lib.hid hx; have HX2 := Lib.hid hy
  clear hl hl' hx hy
  have hsg := sg_mul x y
  obtain ⟨m, hm⟩ : ∃ m, decide (x < 0) = m := ⟨_, rfl⟩
  obtain ⟨m', hm'⟩ : ∃ m, decide (y < 0) = m := ⟨_, rfl⟩
  rw [hm, hm'] at hsg
  have HM := Lib.hid hm; have HM' := Lib.hid hm'
  have HS : Hid (sg (!(m == m')) (x.natAbs * y.natAbs) = x * y) := Lib.hid hsg
  clear hm hm' hsg
  go_enter Tryz.func101, Tryz.ntmps101
  go_wp2_with (first
    | (go_at_call_of 81 (Value.string (txt x)); (with_reducible refine (digits_any _ x (by have := HL1.out; have := HX1.out; omega)).mono ?_); rintro e w1 ⟨v1, rfl, hs1, hb1⟩; have HS1 := Lib.hid hs1; clear hs1)
    | (go_at_call_of 81 (Value.string (txt y)); (with_reducible refine (digits_any _ y (by have := HL2.out; have := HX2.out; omega)).mono ?_); rintro e w2 ⟨v2, rfl, hs2, hb2⟩; have HS2 := Lib.hid hs2; clear hs2)
    | (go_at_call 131; (with_reducible refine (multiplied_any _ _ _ x.natAbs y.natAbs (HS1.out.below hb2 (Nat.le_refl _)) HS2.out (by have := HX1.out; unfold dn at this; omega) (by have := HX2.out; unfold dn at this; omega)).mono ?_); rintro e w4 ⟨v4, rfl, hs4, hb4⟩; have HS4 := Lib.hid hs4; clear hs4)
    | (go_at_call_of 61 (Value.string (txt x)); (with_reducible refine (Minus_any _ x).mono ?_); rintro e w3 ⟨v, rfl, rfl, rfl⟩; rw [HM.out])
    | (go_at_call_of 61 (Value.string (txt y)); (with_reducible refine (Minus_any _ y).mono ?_); rintro e w3 ⟨v, rfl, rfl, rfl⟩; rw [HM'.out])
    | (go_at_call 82; refine (rtext_any _ _ (x.natAbs * y.natAbs) (!(m == m')) HS4.out (by have h1 := HX1.out; have h2 := HX2.out; have := digs_len_mul 10 x.natAbs y.natAbs (by omega); unfold dn at h1 h2; omega)).mono ?_; rintro e w5 ⟨v, rfl, rfl, hb5⟩; rw [HS.out]))
  go_ret
  exact ⟨_, rfl, rfl, ((hb1.trans (hb2.mono hb1.size)).trans (hb4.mono (Nat.le_trans hb1.size hb2.size))).trans (hb5.mono (Nat.le_trans (Nat.le_trans hb1.size hb2.size) hb4.size))⟩

theorem itoa0 : Lib.itoa 0 = [48] := by rw [itoa_cases, if_neg (by omega), show Int.natAbs 0 = 0 from rfl, Lib.decDigits_one (by omega)]; rfl
theorem txt0 : txt 0 = ⟨#[48]⟩ := by unfold txt; rw [itoa0]
theorem txt_list (z : Int) : (txt z).toList = Lib.itoa z := by rw [ByteArray.toList_eq]; rfl
theorem txt_ne0 {z : Int} (h : z ≠ 0) : ((txt z).toList == [48]) = false := by
  rw [txt_list, ← itoa0]; simp only [beq_eq_false_iff_ne]; exact fun e => h (itoa_inj e)
set_option maxHeartbeats 400000 in
theorem Order_any (w : World) (x y : Int) (hx : dn x ≤ 90000) (hy : dn y ≤ 90000) :
    Calls Tryz.prog 14 #[.string (txt x), .string (txt y)] w (Rets fun v w' => v = .int .i64 (x - y).sign ∧ Below w.heap.size w w') := by
  have HX := Lib.hid hx; have HY := Lib.hid hy
  clear hx hy
  obtain ⟨z, hz⟩ : ∃ z, x - y = z := ⟨_, rfl⟩
  rw [hz]
  have HZ := Lib.hid hz
  clear hz
  by_cases h0 : z = 0
  · subst h0
    have HT := Lib.hid txt0
    go_enter Tryz.func14, Tryz.ntmps14
    go_wp2_with (first
      | (go_at_call 60; (with_reducible refine (Less_any _ x y (by have := HX.out; omega) (by have := HY.out; omega)).mono ?_); rintro e w1 ⟨v, rfl, rfl, hb1⟩; rw [HZ.out, HT.out]))
    go_ret
    exact ⟨_, rfl, rfl, hb1⟩
  · have hne := txt_ne0 h0
    rcases Int.lt_or_gt_of_ne h0 with h | h
    · have hd : decide (z < 0) = true := by simp [h]
      have HD := Lib.hid hd; have HS := Lib.hid (Int.sign_eq_neg_one_of_neg h)
      clear h0 h hd
      go_enter Tryz.func14, Tryz.ntmps14
      go_wp2_with (first
        | (go_at_call 60; (with_reducible refine (Less_any _ x y (by have := HX.out; omega) (by have := HY.out; omega)).mono ?_); rintro e w1 ⟨v, rfl, rfl, hb1⟩; rw [HZ.out])
        | (go_at_call 61; (with_reducible refine (Minus_any _ z).mono ?_); rintro e w3 ⟨v, rfl, rfl, rfl⟩; rw [HD.out]))
      go_ret
      exact ⟨_, rfl, by rw [HS.out]; rfl, hb1⟩
    · have hd : decide (z < 0) = false := by simp; omega
      have HD := Lib.hid hd; have HS := Lib.hid (Int.sign_eq_one_of_pos h)
      clear h0 h hd
      go_enter Tryz.func14, Tryz.ntmps14
      go_wp2_with (first
        | (go_at_call 60; (with_reducible refine (Less_any _ x y (by have := HX.out; omega) (by have := HY.out; omega)).mono ?_); rintro e w1 ⟨v, rfl, rfl, hb1⟩; rw [HZ.out])
        | (go_at_call 61; (with_reducible refine (Minus_any _ z).mono ?_); rintro e w3 ⟨v, rfl, rfl, rfl⟩; rw [HD.out]))
      go_ret
      exact ⟨_, rfl, by rw [HS.out]; rfl, hb1⟩

set_option maxHeartbeats 400000 in
theorem Bounded_any (w : World) (z : Int) (hz : dn z ≤ 900000) :
    Calls Tryz.prog 75 #[.string (txt z)] w (Rets fun v w' => v = resV z ∧ Below w.heap.size w w') := by
  have hl := itoa_len z
  have HL := Lib.hid hl; have HZ := Lib.hid hz
  have hbig := big_digs z
  clear hl hz
  by_cases h : 1024 < (digs 10 z.natAbs).length
  · have hr : resV z = .tuple #[.string ⟨#[]⟩, .int .i64 11] := by unfold resV; rw [hbig, decide_eq_true h]; rfl
    have HR := Lib.hid hr; have HB := Lib.hid h
    clear hbig hr h
    go_enter Tryz.func75, Tryz.ntmps75
    go_wp2_with (go_at_call 81; (with_reducible refine (digits_any _ z (by have := HL.out; have := HZ.out; omega)).mono ?_); rintro e w1 ⟨v1, rfl, hs1, hb1⟩; obtain ⟨a1, b1, o1, c1, rfl, -, -, -, -⟩ := hs1.open elemInt; have hlen := HB.out; clear hs1)
    go_ret2
    exact ⟨_, rfl, by rw [HR.out]; rfl, hb1⟩
  · have hr : resV z = .tuple #[.string (txt z), .int .i64 0] := by unfold resV; rw [hbig, decide_eq_false h]; rfl
    have HR := Lib.hid hr; have HB := Lib.hid h
    clear hbig hr h
    go_enter Tryz.func75, Tryz.ntmps75
    go_wp2_with (go_at_call 81; (with_reducible refine (digits_any _ z (by have := HL.out; have := HZ.out; omega)).mono ?_); rintro e w1 ⟨v1, rfl, hs1, hb1⟩; obtain ⟨a1, b1, o1, c1, rfl, -, -, -, -⟩ := hs1.open elemInt; have hlen := HB.out; clear hs1)
    go_ret2
    exact ⟨_, rfl, by rw [HR.out]; rfl, hb1⟩

end Go.Proofs.YtdpdkojeapaflaaGreatDoor

namespace Go.Proofs.YtdpdkojeapaflaaGreatDoor
open Go.RowKit
set_option maxRecDepth 100000

theorem g2' : Good ⟨#[50]⟩ 2 := good_lit (by decide) (by decide)
theorem fmod_small {x y : Int} (h : x ≠ 0) (hx : big x = false) : big (Int.fmod y x) = false :=
  (big_iff _).2 (Nat.lt_trans (fmod_abs y x h) ((big_iff _).1 hx))
set_option maxHeartbeats 400000 in
theorem aorder_any (w : World) (s t : ByteArray) (x y : Int) (hx : Good s x) (hy : Good t y) :
    Calls Tryz.prog 79 #[.string s, .string t] w (Rets fun v w' => v = .int .i64 (x - y).sign ∧ Below w.heap.size w w') := by
  have HX := Lib.hid hx; have HY := Lib.hid hy
  clear hx hy
  go_enter Tryz.func79, Tryz.ntmps79
  go_wp2_with (go_at_call 53; (with_reducible refine (Compare_ok _ s t x y HX.out HY.out).mono ?_); rintro e w1 ⟨v, rfl, rfl, hb1⟩)
  go_ret
  exact ⟨_, rfl, rfl, hb1⟩
set_option maxHeartbeats 400000 in
theorem adivides_any (w : World) (s t : ByteArray) (x y : Int) (hx : Good s x) (hy : Good t y) (h0 : x ≠ 0) (he : Env w) :
    Calls Tryz.prog 71 #[.string s, .string t] w (Rets fun v w' => v = .bool (decide (Int.fmod y x = 0)) ∧ Below w.heap.size w w') := by
  have hb := fmod_small (y := y) h0 hx.2
  have hr := resV_eq (Int.fmod y x)
  rw [resT_ok hb, resK_ok hb] at hr
  have HR := Lib.hid hr; have HX := Lib.hid hx; have HY := Lib.hid hy; have HE := Lib.hid he; have H0 := Lib.hid h0
  clear hb hr hx hy he h0
  by_cases hm : Int.fmod y x = 0
  · have hz : ((txt (Int.fmod y x)).toList == [48]) = true := by rw [hm, txt_list, itoa0]; rfl
    have HD := Lib.hid (show decide (Int.fmod y x = 0) = true by simp [hm])
    clear hm
    go_enter Tryz.func71, Tryz.ntmps71
    go_wp2_with (go_at_call 34; (with_reducible refine (Rem_ok _ t s y x HY.out HX.out H0.out HE.out).mono ?_); rintro e w1 ⟨v, rfl, rfl, hb1⟩; rw [HR.out])
    go_ret
    exact ⟨_, rfl, by rw [HD.out]; rfl, hb1⟩
  · have hz := txt_ne0 hm
    have HD := Lib.hid (show decide (Int.fmod y x = 0) = false by simp [hm])
    clear hm
    go_enter Tryz.func71, Tryz.ntmps71
    go_wp2_with (go_at_call 34; (with_reducible refine (Rem_ok _ t s y x HY.out HX.out H0.out HE.out).mono ?_); rintro e w1 ⟨v, rfl, rfl, hb1⟩; rw [HR.out])
    go_ret
    exact ⟨_, rfl, by rw [HD.out]; rfl, hb1⟩

theorem before_succ (xs : List ByteArray) (k : Nat) (h : k < xs.length) : before xs (k + 1) = some xs[k] := by simp [before, h]
/-- What the check of a group holds at its k-th number. -/
structure At (xs : List ByteArray) (k : Nat) : Prop where
  le : k ≤ xs.length
  eq : gchk xs = gstep (before xs k) (xs.drop k)
  prev : ∀ h : 0 < k, ∃ z, Good (xs[k - 1]'(by omega)) z ∧ 2 ≤ z
theorem At.start {xs : List ByteArray} (h : xs.length ≤ 16) : At xs 0 := ⟨Nat.zero_le _, by unfold gchk; rw [if_neg (by omega)]; rfl, fun h => absurd h (by omega)⟩
theorem At.next {xs : List ByteArray} {k : Nat} (h : At xs k) (hk : k < xs.length) (h0 : chk xs[k].data.toList = 0) (h2 : ¬ num xs[k] < 2) (hf : fits (before xs k) xs[k] = true) : At xs (k + 1) :=
  ⟨hk, by rw [h.eq, List.drop_eq_getElem_cons hk, gstep, if_pos h0, if_neg h2, if_pos hf, before_succ xs k hk], fun _ => ⟨num xs[k], by simpa using good_num h0, by omega⟩⟩
theorem At.val {xs : List ByteArray} {k : Nat} (h : At xs k) (hk : k < xs.length) : gchk xs = if chk xs[k].data.toList = 0 then (if num xs[k] < 2 then 2 else if fits (before xs k) xs[k] then gstep (some xs[k]) (xs.drop (k + 1)) else 9) else chk xs[k].data.toList := by
  rw [h.eq, List.drop_eq_getElem_cons hk, gstep]
theorem At.done {xs : List ByteArray} (h : At xs xs.length) : gchk xs = 0 := by rw [h.eq, List.drop_length]; cases before xs xs.length <;> rfl

set_option maxHeartbeats 2000000 in
theorem ACheck_any (w : World) (v : Value) (xs : List ByteArray) (hv : Sl eS w v xs) (hsz : xs.length ≤ 16 → ∀ s ∈ xs, s.size ≤ 1000000) (he : Env w) :
    Calls Tryz.prog 27 #[v] w (Rets fun v w' => v = .int .i64 (gchk xs) ∧ Below w.heap.size w w') := by
  obtain ⟨a, b, o, c, rfl, hi, hp, hc, hm⟩ := hv.open elemStr
  have HE := Lib.hid he
  clear hv he
  unfold maxLen at hm
  by_cases h16 : 16 < xs.length
  · have HG := Lib.hid (show gchk xs = 5 by unfold gchk; rw [if_pos h16])
    clear hsz
    go_enter Tryz.func27, Tryz.ntmps27
    go_wp2
    go_ret
    exact ⟨_, rfl, by rw [HG.out]; rfl, Below.refl _ _⟩
  · have hs := hsz (by omega)
    have HS := Lib.hid hs
    have hl : xs.length ≤ 16 := by omega
    clear hsz hs
    go_enter Tryz.func27, Tryz.ntmps27
    go_wp2
    go_loopw [11] (fun i wr => ∃ k : Nat, k ≤ xs.length ∧ i = .int .i64 k ∧ Hid (At xs k) ∧ Below w.heap.size w wr) (fun i _ => xs.length - (intOf i).toNat)
    case atStart => exact ⟨0, Nat.zero_le _, rfl, Lib.hid (At.start hl), Below.refl _ _⟩
    case round =>
      obtain ⟨k, hk, rfl, hA, hb⟩ := hrel
      by_cases hkn : k < xs.length
      · have h1 : wr.cell? ⟨b, o + k, none⟩ = some (.string xs[k]) := hp.at hb (Nat.le_refl _) k hkn
        have hV := hA.out.val hkn
        have hsk := HS.out _ (List.getElem_mem hkn)
        by_cases h0 : chk xs[k].data.toList = 0
        · rw [if_pos h0] at hV
          have hG := good_num h0
          have HC := Lib.hid h0
          have HGK := Lib.hid hG
          by_cases h2 : num xs[k] < 2
          · rw [if_pos h2] at hV
            have HV := Lib.hid hV
            have HS2 := Lib.hid (show (num xs[k] - 2).sign = -1 from Int.sign_eq_neg_one_of_neg (by omega))
            clear hV hG h0 h2
            go_wp2_with (first
              | (go_at_call 70; (with_reducible refine (check_any _ _ hsk).mono ?_); rintro e w1 ⟨v, rfl, rfl, hb1⟩; rw [HC.out]; have b1 := hb.trans (hb1.mono hb.size))
              | (go_at_call 79; (with_reducible refine (aorder_any _ _ _ _ 2 HGK.out g2').mono ?_); rintro e w2 ⟨v, rfl, rfl, hb2⟩; rw [HS2.out]; have b2 := b1.trans (hb2.mono b1.size)))
            go_ret
            exact ⟨_, rfl, by rw [HV.out]; rfl, b2⟩
          · rw [if_neg h2] at hV
            obtain ⟨u, hu, hu0⟩ : ∃ u, (num xs[k] - 2).sign = u ∧ 0 ≤ u := ⟨_, rfl, by
              rcases Int.lt_or_eq_of_le (show 2 ≤ num xs[k] by omega) with h | h
              · rw [Int.sign_eq_one_of_pos (by omega)]; omega
              · rw [← h]; decide⟩
            have HU := Lib.hid hu
            rcases k with _ | k
            · rw [Nat.add_zero] at h1
              have HN := Lib.hid (hA.out.next hkn h0 h2 rfl)
              clear hV hG h0 h2 hu
              go_wp2_with (first
                | (go_at_call 70; (with_reducible refine (check_any _ _ hsk).mono ?_); rintro e w1 ⟨v, rfl, rfl, hb1⟩; rw [HC.out]; have b1 := hb.trans (hb1.mono hb.size))
                | (go_at_call 79; (with_reducible refine (aorder_any _ _ _ _ 2 HGK.out g2').mono ?_); rintro e w2 ⟨v, rfl, rfl, hb2⟩; rw [HU.out]; have b2 := b1.trans (hb2.mono b1.size)))
              go_roundw
              case rel => exact ⟨1, by omega, rfl, HN, b2⟩
              case measure => simp [intOf]; omega
            · have hkp : k < xs.length := by omega
              have h3 : wr.cell? ⟨b, o + k, none⟩ = some (.string xs[k]) := hp.at hb (Nat.le_refl _) k hkp
              obtain ⟨z, hz, hz2⟩ := hA.out.prev (by omega)
              have hz : Good xs[k] z := by simpa using hz
              have hbf : fits (before xs (k + 1)) xs[k + 1] = decide (Int.fmod (num xs[k + 1]) z = 0) := by rw [before_succ xs k hkp]; simp only [fits]; rw [hz.num]
              have HZ := Lib.hid hz; have HZ0 := Lib.hid (show z ≠ 0 by omega)
              by_cases hf : Int.fmod (num xs[k + 1]) z = 0
              · have HD := Lib.hid (show decide (Int.fmod (num xs[k + 1]) z = 0) = true by simp [hf])
                have HN := Lib.hid (hA.out.next hkn h0 h2 (by rw [hbf, HD.out]))
                clear hV hG h0 h2 hu hz hbf hf
                go_wp2_with (first
                  | (go_at_call 70; (with_reducible refine (check_any _ _ hsk).mono ?_); rintro e w1 ⟨v, rfl, rfl, hb1⟩; rw [HC.out]; have b1 := hb.trans (hb1.mono hb.size))
                  | (go_at_call 79; (with_reducible refine (aorder_any _ _ _ _ 2 HGK.out g2').mono ?_); rintro e w2 ⟨v, rfl, rfl, hb2⟩; rw [HU.out]; have b2 := b1.trans (hb2.mono b1.size); have h4 : w2.cell? ⟨b, o + k, none⟩ = some (.string xs[k]) := hp.at b2 (Nat.le_refl _) k hkp)
                  | (go_at_call 71; (with_reducible refine (adivides_any _ _ _ z _ HZ.out HGK.out HZ0.out (HE.out.below b2 (Nat.le_refl _))).mono ?_); rintro e w3 ⟨v, rfl, rfl, hb3⟩; rw [HD.out]; have b3 := b2.trans (hb3.mono b2.size)))
                go_roundw
                case rel => exact ⟨k + 2, by omega, by go_num, HN, b3⟩
                case measure => simp [intOf]; omega
              · have HD := Lib.hid (show decide (Int.fmod (num xs[k + 1]) z = 0) = false by simp [hf])
                rw [hbf, HD.out] at hV
                have HV := Lib.hid hV
                clear hV hG h0 h2 hu hz hbf hf
                go_wp2_with (first
                  | (go_at_call 70; (with_reducible refine (check_any _ _ hsk).mono ?_); rintro e w1 ⟨v, rfl, rfl, hb1⟩; rw [HC.out]; have b1 := hb.trans (hb1.mono hb.size))
                  | (go_at_call 79; (with_reducible refine (aorder_any _ _ _ _ 2 HGK.out g2').mono ?_); rintro e w2 ⟨v, rfl, rfl, hb2⟩; rw [HU.out]; have b2 := b1.trans (hb2.mono b1.size); have h4 : w2.cell? ⟨b, o + k, none⟩ = some (.string xs[k]) := hp.at b2 (Nat.le_refl _) k hkp)
                  | (go_at_call 71; (with_reducible refine (adivides_any _ _ _ z _ HZ.out HGK.out HZ0.out (HE.out.below b2 (Nat.le_refl _))).mono ?_); rintro e w3 ⟨v, rfl, rfl, hb3⟩; rw [HD.out]; have b3 := b2.trans (hb3.mono b2.size)))
                go_ret
                exact ⟨_, rfl, by rw [HV.out]; rfl, b3⟩
        · rw [if_neg h0] at hV
          have hne : (chk xs[k].data.toList != 0) = true := by simp [h0]
          have HV := Lib.hid hV
          clear hV h0
          go_wp2_with (go_at_call 70; (with_reducible refine (check_any _ _ hsk).mono ?_); rintro e w1 ⟨v, rfl, rfl, hb1⟩; have b1 := hb.trans (hb1.mono hb.size))
          go_ret
          exact ⟨_, rfl, by rw [HV.out]; rfl, b1⟩
      · obtain rfl : k = xs.length := by omega
        have HV := Lib.hid hA.out.done
        go_wp2
        go_ret
        exact ⟨_, rfl, by rw [HV.out]; rfl, hb⟩
end Go.Proofs.YtdpdkojeapaflaaGreatDoor

namespace Go.Proofs.YtdpdkojeapaflaaGreatDoor
open Go.RowKit
set_option maxRecDepth 100000

/-- The slice's block is not below B. -/
def From (B : Nat) (v : Value) : Prop := ∀ b o p n c, v = .slice (some ⟨b, o, p⟩) n c → B ≤ b
theorem From.mono {B B' : Nat} {v : Value} (h : From B' v) (hb : B ≤ B') : From B v := fun b o p n c e => Nat.le_trans hb (h b o p n c e)
theorem From.none {B n c : Nat} : From B (.slice none n c) := fun b o p n c e => by cases e
theorem From.len {B n c : Nat} {a : Option Addr} (h : From B (.slice a n c)) (n' c' : Nat) : From B (.slice a n' c') := fun b o p n c e => by cases e; exact h b o p _ _ rfl
theorem From.ofOwns {w : World} {base e sz n : Nat} {v : Value} {xs : List Value} (h : w.ownsRow base e sz v n xs) : From base v := by
  rcases h.2 with ⟨rfl, _⟩ | ⟨g, cap, cur, rfl, hg, _⟩
  · exact From.none
  · intro b o p n c e; cases e; exact hg
theorem Sl.setFrom {w : World} {v : Value} {xs : List Nat} {B g k : Nat} {u : Value} (h : Sl eI w v xs) (hf : From B v) (hg : g < B) : Sl eI (w.setCell ⟨g, k, none⟩ u) v xs := by
  obtain ⟨a, b, o, c, rfl, ha, hc, hm, hn, hx⟩ := h
  refine ⟨a, b, o, c, rfl, ha, hc, hm, hn, fun h => by have := hx.1 h; simpa [World.setCell] using this, fun i hi => ?_⟩
  have hb : B ≤ b := hf b o Option.none _ _ (by rw [ha (by omega)])
  rw [← hx.2 i hi]
  exact World.cell?_of_block (w := w) (Below.heap_setCell _ _ _ _ (show b ≠ g by omega))

section
variable {P : Program} {t e : TypeId} {z : Value} {bytes : Nat} {ops : Array Oper} {rest : List Oper} {o : Oper} {a : Act} {Q : Exit → Act → World → Prop}
/-- 'append([]T{u}, xs...)'. -/
theorem appS {α : Type} {enc : α → Value} (hE : ElemOk P t e z 1 bytes) (hgd : o.guard = none) (s x : Operand) (ho : o.op = .call { callee := .builtin .append, args := #[s, x], argTypes := #[t, t] })
    {u v : Value} {xs : List α} {B : Nat} {w0 W : World} (hs : a.eval s = .slice (some ⟨w0.heap.size, 0, none⟩) 1 1) (hx : a.eval x = v) (hv : Sl enc w0 v xs) (hb : Below B W w0) (hB : B ≤ w0.heap.size)
    (h2 : ∀ y, (enc y).oneCell' = true) (hn : (1 + xs.length) * bytes ≤ 140737488355328) (hn' : 1 + xs.length ≤ maxLen)
    (h : ∀ v' w', w'.ownsRow w0.heap.size e 1 v' (1 + xs.length) (u :: xs.map enc) → Below B W w' → wpList P ops Q rest (a.put o.dst v') w') :
    wpList P ops Q (o :: rest) a (w0.alloc (.cells #[u] e)) := by
  obtain ⟨i, hi, hz, hsz, hby⟩ := hE.info
  have hown : (w0.alloc (.cells #[u] e)).ownsRow w0.heap.size e 1 (.slice (some ⟨w0.heap.size, 0, none⟩) 1 1) 1 [u] := ⟨rfl, .inr ⟨w0.heap.size, 1, #[u], rfl, by omega, heap_alloc_new w0 _, by omega, by simp [maxLen], rfl, rfl⟩⟩
  have hv := hv.below ((Below.refl _ w0).alloc (Nat.le_refl _) (.cells #[u] e)) (Nat.le_refl _)
  obtain ⟨ad, b, off, c, rfl, ha, hc, hm, hnn, hcell⟩ := hv
  cases ad with
  | none =>
    have hc0 := hnn rfl
    have hl0 : xs.length = 0 := by omega
    obtain rfl : xs = [] := List.length_eq_zero_iff.1 hl0
    subst hc0
    refine wpList_append_own_none hgd s x t ho w0.heap.size e i 1 hE.und hi _ 1 [u] hs hown hx ?_
    exact h _ _ hown (hb.alloc (by omega) _)
  | some ad =>
    have hnews : ∀ j y, (xs.map enc)[j]? = some y → (w0.alloc (.cells #[u] e)).cell? (ad.add j) = some y := by
      intro j y hj
      have hj' : j < xs.length := by have := (List.getElem?_eq_some_iff.1 hj).1; simpa using this
      have := ha (by omega)
      cases this
      have h3 := hcell.2 j hj'
      simp [hj'] at hj
      rw [show (⟨b, off, none⟩ : Addr).add j = ⟨b, off + j, none⟩ by simp [Addr.add], h3, hj]
    refine wpList_append_own _ hgd s x t ho w0.heap.size e i z 1 bytes hE.und hi hz hsz hby hE.cells hE.pos _ 1 [u] hs hown ad xs.length c (xs.map enc) hx (by simp) hnews (by intro y hy; obtain ⟨y', _, rfl⟩ := List.mem_map.1 hy; exact h2 y') hn' hn (by simp) ?_
    intro v' w' ho' hg _
    exact h v' w' ho' ((hb.alloc (by omega) _).grown hg (by simp; omega) (fun j hj => by have := (hown.lt j hj).1; omega))
end

set_option maxHeartbeats 400000 in
theorem cut_from (w : World) (v : Value) (xs : List Nat) (hv : Sl eI w v xs) :
    Calls Tryz.prog 119 #[v] w (Rets fun v' w' => Sl eI w' v' (trim xs) ∧ (∀ B, From B v → From B v') ∧ w = w') := by
  have HV := Lib.hid hv
  obtain ⟨a, b, o, c, rfl, hi, hx, hc, hm⟩ := hv.open elemInt
  clear hv
  unfold maxLen at hm
  go_enter Tryz.func119, Tryz.ntmps119
  go_wp2
  go_loop [3] (fun v => ∃ k : Nat, k ≤ xs.length ∧ v = .int .i64 k ∧ Hid (trim (xs.take k) = trim xs)) (fun v => (intOf v).toNat)
  case atStart => exact ⟨xs.length, Nat.le_refl _, rfl, Lib.hid (by simp)⟩
  case round =>
    obtain ⟨k, hk, rfl, HT⟩ := hrel
    rcases k with _ | k
    · go_wp2
      go_ret
      exact ⟨_, rfl, by rw [← HT.out]; exact HV.out.take 0 (Nat.zero_le _), fun B h => h.len _ _, rfl⟩
    · have hp : (0 : Int) < ((k + 1 : Nat) : Int) := by omega
      have h1 : w.cell? ⟨b, o + k, none⟩ = some (.int .i64 (xs[k] : Nat)) := hx.2 k (by omega)
      go_wp2
      · go_round
        case rel =>
          have h0 : ((xs[k] : Nat) == (0 : Int)) = true := by assumption
          have h0 : xs[k] = 0 := by simpa using h0
          exact ⟨k, by omega, by go_num, Lib.hid (by rw [← HT.out, take_snoc xs k (by omega), h0, trim_snoc_zero])⟩
        case measure => simp [intOf]
      · go_ret
        have h0 : ((xs[k] : Nat) == (0 : Int)) = false := by assumption
        have h0 : xs[k] ≠ 0 := by simpa using h0
        exact ⟨_, rfl, by rw [← HT.out, take_snoc xs k (by omega), trim_snoc _ _ h0, ← take_snoc xs k (by omega)]; exact HV.out.take (k + 1) hk, fun B h => h.len _ _, rfl⟩


set_option maxHeartbeats 1000000 in
theorem taken_from (w : World) (x y : Value) (m n : Nat) (hx : Sl eI w x (digs 10 m)) (hy : Sl eI w y (digs 10 n)) (hl : (digs 10 m).length ≤ 1000000) (hmn : n ≤ m) :
    Calls Tryz.prog 85 #[x, y] w (Rets fun v w' => Sl eI w' v (digs 10 (m - n)) ∧ From w.heap.size v ∧ Below w.heap.size w w') := by
  have hle := digs_len_mono 10 (by omega) hmn
  have ba := digs_lt 10 m (by omega)
  have bb := digs_lt 10 n (by omega)
  have va := val_digs 10 m (by omega)
  have vb := val_digs 10 n (by omega)
  generalize digs 10 m = xs at *
  generalize digs 10 n = ys at *
  have HX := Lib.hid hx; have HY := Lib.hid hy
  obtain ⟨ad, bl, o, c, rfl, hi, hp, -, -⟩ := hx.open elemInt
  obtain ⟨a', b', o', c', rfl, hi', hq, -, -⟩ := hy.open elemInt
  have BX := Lib.hid ba; have BY := Lib.hid bb; have VA := Lib.hid va; have VB := Lib.hid vb; have HLE := Lib.hid hle; have HMN := Lib.hid hmn
  clear ba bb va vb hx hy hle hq hi' hmn
  go_enter Tryz.func85, Tryz.ntmps85
  go_wp2
  go_loopw [5, 6, 7] (fun out bw i wr => ∃ (k c : Nat) (os : List Nat), k ≤ xs.length ∧ i = .int .i64 k ∧ bw = .int .i64 c ∧ c ≤ 1 ∧ Hid (os.length = k) ∧ Hid (∀ a ∈ os, a < 10) ∧
      Hid (val 10 (xs.take k) + 10 ^ k * c = val 10 os + val 10 (ys.take k)) ∧ wr.ownsRow w.heap.size 3 1 out os.length (os.map eI) ∧ Below w.heap.size w wr) (fun _ _ i _ => xs.length - (intOf i).toNat)
  case atStart => exact ⟨0, 0, [], by omega, rfl, rfl, by omega, Lib.hid rfl, Lib.hid (by simp), Lib.hid (by simp [val]), World.ownsRow_nil _ _ _ _, Below.refl _ _⟩
  case round =>
    obtain ⟨k, cy, os, hk, rfl, rfl, hcy, hol, hos, hv, hown, hb⟩ := hrel
    have hbs := hb.size
    by_cases hlt : k < xs.length
    · have hbp := BX.out xs[k] (List.getElem_mem hlt)
      have h1 : wr.cell? ⟨bl, o + k, none⟩ = some (.int .i64 (xs[k] : Nat)) := hp.at hb (Nat.le_refl _) k hlt
      have hgx : xs.getD k 0 = xs[k] := by simp [hlt]
      obtain ⟨d, hd⟩ : ∃ d, d = xs[k] := ⟨_, rfl⟩
      obtain ⟨d', hd'⟩ : ∃ d, ys.getD k 0 = d := ⟨_, rfl⟩
      have hdl' : d' < 10 := by rw [← hd']; exact getD_lt BY.out (by omega)
      rw [← hd] at h1 hbp hgx
      have HGX := Lib.hid hgx
      have HD' := Lib.hid hd'
      have HDG := Lib.hid (digit_d ys k d' hd')
      have hol2 : os.length ≤ 1000000 := by rw [hol.out]; omega
      clear hd hd' hgx
      have hbk := hb
      by_cases hneg : d < cy + d'
      · have HR := Lib.hid (less_step 10 xs ys os k cy (d + 10 - cy - d') 1 hol.out hos.out hv.out (by omega) (by rw [HGX.out, HD'.out]; omega))
        go_wp2
        go_quiet ((go_at_call 120; exact Calls.quiet_of_same (HDG.out _ _ (HY.out.below (below_drewN hb _) (Nat.le_refl _)))))
        have hbk := below_drewN hb nq
        have hok := own_drewN hown nq
        have hbs2 : w.heap.size ≤ (wr.drewN nq).heap.size := hbk.size
        clear hown hb hbs
        go_wp2_with (at_builtin; refine app1 elemInt rfl _ _ rfl rfl rfl hok hbk (Nat.le_refl _) hbs2 rfl (by simp [Value.oneCell']) (by omega) (by unfold maxLen; omega) ?_; intro v' w2 hown' hb')
        have ev : (d : Int) - d' - cy + 10 = ((d + 10 - cy - d' : Nat) : Int) := by omega
        rw [ev] at hown'
        go_roundw
        case rel => exact ⟨k + 1, 1, os ++ [d + 10 - cy - d'], by omega, by go_num, rfl, by omega, Lib.hid (by simp [hol.out]), Lib.hid HR.out.2.1, Lib.hid HR.out.2.2, by simpa [eI] using hown', hb'⟩
        case measure => simp [intOf]; omega
      · have HR := Lib.hid (less_step 10 xs ys os k cy (d - cy - d') 0 hol.out hos.out hv.out (by omega) (by rw [HGX.out, HD'.out]; omega))
        go_wp2
        go_quiet ((go_at_call 120; exact Calls.quiet_of_same (HDG.out _ _ (HY.out.below (below_drewN hb _) (Nat.le_refl _)))))
        have hbk := below_drewN hb nq
        have hok := own_drewN hown nq
        have hbs2 : w.heap.size ≤ (wr.drewN nq).heap.size := hbk.size
        clear hown hb hbs
        go_wp2_with (at_builtin; refine app1 elemInt rfl _ _ rfl rfl rfl hok hbk (Nat.le_refl _) hbs2 rfl (by simp [Value.oneCell']) (by omega) (by unfold maxLen; omega) ?_; intro v' w2 hown' hb')
        have ev : (d : Int) - d' - cy = ((d - cy - d' : Nat) : Int) := by omega
        rw [ev] at hown'
        go_roundw
        case rel => exact ⟨k + 1, 0, os ++ [d - cy - d'], by omega, by go_num, rfl, by omega, Lib.hid (by simp [hol.out]), Lib.hid HR.out.2.1, Lib.hid HR.out.2.2, by simpa [eI] using hown', hb'⟩
        case measure => simp [intOf]; omega
    · obtain rfl : k = xs.length := by omega
      have hfin : val 10 os = m - n := by
        have h1 := hv.out
        rw [List.take_of_length_le (Nat.le_refl _), List.take_of_length_le HLE.out, VA.out, VB.out] at h1
        have h2 := val_lt 10 os hos.out
        rw [hol.out] at h2
        have h3 := HMN.out
        rcases (show cy = 0 ∨ cy = 1 by omega) with rfl | rfl <;> omega
      have HF := Lib.hid hfin; clear hfin
      go_wp2_with fail
      refine (cut_from _ _ os (Sl.ofOwns hown)).mono ?_
      rintro e w2 ⟨v2, rfl, hs2, hf2, rfl⟩
      have HS2 := Lib.hid hs2; have HF2 := Lib.hid (hf2 _ (From.ofOwns hown)); clear hs2 hf2
      go_wp2
      go_ret
      exact ⟨_, rfl, by rw [← trim_of 10 os _ (by omega) hos.out HF.out]; exact HS2.out, HF2.out, hb⟩
end Go.Proofs.YtdpdkojeapaflaaGreatDoor

namespace Go.Proofs.YtdpdkojeapaflaaGreatDoor
open Go.RowKit
set_option maxRecDepth 100000

theorem dv_ge (l : List UInt8) : ∀ acc, acc ≤ dv acc l := by
  induction l with
  | nil => intro acc; rw [dv_nil]; exact Nat.le_refl _
  | cons c l ih => intro acc; rw [dv_cons]; have := ih (acc * 10 + (c.toNat - 48)); omega
theorem parse10 (l : List UInt8) (h : l.all isDig = true) : ∀ acc, acc < 18446744073709551616 → Lib.parseUint10 acc l = if dv acc l < 18446744073709551616 then .ok (dv acc l) else .range := by
  induction l with
  | nil => intro acc ha; rw [dv_nil, if_pos ha]; rfl
  | cons c l ih =>
    intro acc ha
    simp only [List.all_cons, Bool.and_eq_true] at h
    have hx : 48 ≤ c.toNat ∧ c.toNat ≤ 57 := by have := h.1; simp [isDig] at this; exact ⟨this.1, this.2⟩
    have hge := dv_ge l (acc * 10 + (c.toNat - 48))
    rw [Lib.parseUint10, if_pos hx, dv_cons]
    by_cases h1 : 1844674407370955162 ≤ acc
    · rw [if_pos h1, if_neg (by omega)]
    · rw [if_neg h1]
      by_cases h2 : 18446744073709551616 ≤ acc * 10 + (c.toNat - 48)
      · rw [if_pos h2, if_neg (by omega)]
      · rw [if_neg h2]; exact ih h.2 _ (by omega)
theorem mag_dec (n : Nat) : Lib.parseMag (Lib.decDigits n) = if n < 18446744073709551616 then .ok n else .range := by
  unfold Lib.parseMag
  rw [if_neg (dec_ne n), parse10 _ (dec_all n) 0 (by omega), dv_dec]
/-- Is it an int? -/
def isI64 (z : Int) : Bool := decide (-9223372036854775808 ≤ z) && decide (z ≤ 9223372036854775807)
theorem atoi_itoa (z : Int) : Lib.atoiAll (Lib.itoa z) = if isI64 z then .ok z else .range := by
  rw [itoa_cases]
  by_cases h : z < 0
  · rw [if_pos h, Lib.atoiAll_minus, mag_dec]
    by_cases h1 : z.natAbs < 18446744073709551616
    · rw [if_pos h1]
      simp only [Lib.signed]
      by_cases h2 : 9223372036854775808 < z.natAbs
      · rw [if_pos h2, if_neg (by simp [isI64]; omega)]
      · rw [if_neg h2, if_pos (by simp [isI64]; omega)]; congr 1; omega
    · rw [if_neg h1, if_neg (by simp [isI64]; omega)]; rfl
  · rw [if_neg h]
    have hm := dec_mem z.natAbs
    have he := mag_dec z.natAbs
    cases e : Lib.decDigits z.natAbs with
    | nil => exact absurd e (dec_ne _)
    | cons c r =>
      rw [e] at hm he
      have := hm c (by simp)
      rw [Lib.atoiAll_plain c r (by omega) (by omega), he]
      by_cases h1 : z.natAbs < 18446744073709551616
      · rw [if_pos h1]
        simp only [Lib.signless]
        by_cases h2 : 9223372036854775808 ≤ z.natAbs
        · rw [if_pos h2, if_neg (by simp [isI64]; omega)]
        · rw [if_neg h2, if_pos (by simp [isI64]; omega)]; congr 1; omega
      · rw [if_neg h1, if_neg (by simp [isI64]; omega)]; rfl

set_option maxHeartbeats 400000 in
theorem Small_err (w : World) (s : ByteArray) (hsz : s.size ≤ 1000000) (h : chk s.data.toList ≠ 0) :
    Calls Tryz.prog 104 #[.string s] w (Rets fun v w' => v = .tuple #[.int .i64 0, .int .i64 (chk s.data.toList)] ∧ Below w.heap.size w w') := by
  have hne : (chk s.data.toList != 0) = true := by simp [h]
  clear h
  go_enter Tryz.func104, Tryz.ntmps104
  go_wp2_with (go_at_call 70; refine (check_any _ _ hsz).mono ?_; rintro e w' ⟨v, rfl, rfl, hb⟩)
  go_ret2
  exact ⟨_, rfl, rfl, hb⟩
set_option maxHeartbeats 400000 in
theorem Small_ok (w : World) (s : ByteArray) (z : Int) (hz : Good s z) (hi : isI64 z = true) :
    Calls Tryz.prog 104 #[.string s] w (Rets fun v w' => v = .tuple #[.int .i64 z, .int .i64 0] ∧ Below w.heap.size w w') := by
  have hat : Lib.atoiAll s.data.toList = .ok z := by rw [hz.1, atoi_itoa, hi]; rfl
  have HZ := Lib.hid hz; have HAT := Lib.hid hat; clear hz hat hi
  go_enter Tryz.func104, Tryz.ntmps104
  go_wp2_with (first
    | (go_at_call 70; refine (check_any _ _ (by have := HZ.out.size; omega)).mono ?_; rintro e w' ⟨v, rfl, rfl, hb⟩; rw [HZ.out.chk])
    | (go_at_call 134; refine (Tryz.strconv_Atoi_ok s (by have := HZ.out.size; omega) z HAT.out _).mono ?_; rintro e w2 ⟨rfl, hw2⟩; have HW2 := Lib.hid hw2; clear hw2))
  go_ret2
  refine ⟨_, rfl, rfl, ?_⟩
  rcases HW2.out with rfl | ⟨t, rfl⟩
  · exact hb
  · exact hb.trans ((Lib.bytesWorld_below _ _ _).mono hb.size)
set_option maxHeartbeats 400000 in
theorem Small_range (w : World) (s : ByteArray) (z : Int) (hz : Good s z) (hi : isI64 z = false) (he : Env w) :
    Calls Tryz.prog 104 #[.string s] w (Rets fun v w' => v = .tuple #[.int .i64 0, .int .i64 2] ∧ Below w.heap.size w w') := by
  have hat : Lib.atoiAll s.data.toList = .range := by rw [hz.1, atoi_itoa, hi]; rfl
  have HZ := Lib.hid hz; have HAT := Lib.hid hat; have HE := Lib.hid he; clear hz hat hi he
  go_enter Tryz.func104, Tryz.ntmps104
  go_wp2_with (first
    | (go_at_call 70; refine (check_any _ _ (by have := HZ.out.size; omega)).mono ?_; rintro e w' ⟨v, rfl, rfl, hb⟩; rw [HZ.out.chk]; have he2 := HE.out.below hb (Nat.le_refl _); obtain ⟨tp, p, hv⟩ := he2.rng; have HV := Lib.hid hv; clear hv he2)
    | (go_at_call 134; refine (Tryz.strconv_Atoi_range_var s (by have := HZ.out.size; omega) HAT.out tp p _ HV.out).mono ?_; rintro e w2 ⟨N, rfl, hN, hcN, hb2⟩; have HCN := Lib.hid hcN; clear hcN))
  go_ret2
  exact ⟨_, rfl, rfl, hb.trans (hb2.mono hb.size)⟩
end Go.Proofs.YtdpdkojeapaflaaGreatDoor

namespace Go.Proofs.YtdpdkojeapaflaaGreatDoor
open Go.RowKit
set_option maxRecDepth 100000

theorem gmax : Good ⟨#[57, 50, 50, 51, 51, 55, 50, 48, 51, 54, 56, 53, 52, 55, 55, 53, 56, 48, 55]⟩ 9223372036854775807 := good_lit (by decide) (by decide)
theorem gmin : Good ⟨#[45, 57, 50, 50, 51, 51, 55, 50, 48, 51, 54, 56, 53, 52, 55, 55, 53, 56, 48, 56]⟩ (-9223372036854775808) := good_lit (by decide) (by decide)
theorem ord_max (z : Int) (hz : dn z ≤ 1024) (w : World) : Calls Tryz.prog 14 #[.string (txt z), .string ⟨#[57, 50, 50, 51, 51, 55, 50, 48, 51, 54, 56, 53, 52, 55, 55, 53, 56, 48, 55]⟩] w (Rets fun v w' => v = .int .i64 (z - 9223372036854775807).sign ∧ Below w.heap.size w w') := by
  rw [gmax.eq]; exact Order_any w z _ (by omega) (by have := gmax.dn; omega)
theorem ord_min (z : Int) (hz : dn z ≤ 1024) (w : World) : Calls Tryz.prog 14 #[.string (txt z), .string ⟨#[45, 57, 50, 50, 51, 51, 55, 50, 48, 51, 54, 56, 53, 52, 55, 55, 53, 56, 48, 56]⟩] w (Rets fun v w' => v = .int .i64 (z - (-9223372036854775808)).sign ∧ Below w.heap.size w w') := by
  rw [gmin.eq]; exact Order_any w z _ (by omega) (by have := gmin.dn; omega)

set_option maxHeartbeats 400000 in
theorem rSmall_err (w : World) (s : ByteArray) (hsz : s.size ≤ 1000000) (h : chk s.data.toList ≠ 0) :
    Calls Tryz.prog 136 #[.string s] w (Rets fun v w' => v = .tuple #[.int .i64 0, .int .i64 (chk s.data.toList)] ∧ Below w.heap.size w w') := by
  have hne : (chk s.data.toList != 0) = true := by simp [h]
  clear h
  go_enter Tryz.func136, Tryz.ntmps136
  go_wp2_with (go_at_call 30; (with_reducible refine (rCheck_any _ s hsz).mono ?_); rintro e w1 ⟨v, rfl, rfl, rfl⟩)
  go_ret2
  exact ⟨_, rfl, rfl, Below.refl _ _⟩
set_option maxHeartbeats 1000000 in
theorem rSmall_range (w : World) (s : ByteArray) (z : Int) (hz : Good s z) (hi : isI64 z = false) :
    Calls Tryz.prog 136 #[.string s] w (Rets fun v w' => v = .tuple #[.int .i64 0, .int .i64 2] ∧ Below w.heap.size w w') := by
  obtain rfl := hz.eq
  have O1 := Lib.hid (ord_max z hz.dn); have O2 := Lib.hid (ord_min z hz.dn); have HZ := Lib.hid hz
  have hc : 9223372036854775807 < z ∨ z < -9223372036854775808 := by simp [isI64] at hi; omega
  clear hz hi
  rcases hc with hc | hc
  · have E1 := Lib.hid (show (z - 9223372036854775807).sign = 1 from Int.sign_eq_one_of_pos (by omega))
    clear hc
    go_enter Tryz.func136, Tryz.ntmps136
    go_wp2_with (first
      | (go_at_call 30; (with_reducible refine (rCheck_any _ _ (by have := HZ.out.size; omega)).mono ?_); rintro e w1 ⟨v, rfl, rfl, rfl⟩; rw [HZ.out.chk])
      | (go_at_call 14; (with_reducible refine (O1.out _).mono ?_); rintro e w1 ⟨v, rfl, rfl, hb1⟩; rw [E1.out]))
    go_ret2
    exact ⟨_, rfl, rfl, hb1⟩
  · have E1 := Lib.hid (show (z - 9223372036854775807).sign = -1 from Int.sign_eq_neg_one_of_neg (by omega))
    have E2 := Lib.hid (show (z - (-9223372036854775808)).sign = -1 from Int.sign_eq_neg_one_of_neg (by omega))
    clear hc
    go_enter Tryz.func136, Tryz.ntmps136
    go_wp2_with (first
      | (go_at_call 30; (with_reducible refine (rCheck_any _ _ (by have := HZ.out.size; omega)).mono ?_); rintro e w1 ⟨v, rfl, rfl, rfl⟩; rw [HZ.out.chk])
      | (go_at_call 14; (with_reducible refine (O1.out _).mono ?_); rintro e w1 ⟨v, rfl, rfl, hb1⟩; rw [E1.out])
      | (go_at_call 14; (with_reducible refine (O2.out _).mono ?_); rintro e w2 ⟨v, rfl, rfl, hb2⟩; rw [E2.out]))
    go_ret2
    exact ⟨_, rfl, rfl, hb1.trans (hb2.mono hb1.size)⟩

theorem val_drop_cons (xs : List Nat) (k : Nat) (h : k < xs.length) : val 10 (xs.drop k) = xs[k] + 10 * val 10 (xs.drop (k + 1)) := by
  rw [List.drop_eq_getElem_cons h]; rfl
theorem val_drop_le (xs : List Nat) : ∀ k, val 10 (xs.drop k) ≤ val 10 xs := by
  induction xs with
  | nil => intro k; simp
  | cons a l ih =>
    intro k
    cases k with
    | zero => simp
    | succ k => rw [List.drop_succ_cons]; have := ih k; simp only [val]; omega
set_option maxHeartbeats 2000000 in
theorem rSmall_ok (w : World) (s : ByteArray) (z : Int) (hz : Good s z) (hi : isI64 z = true) :
    Calls Tryz.prog 136 #[.string s] w (Rets fun v w' => v = .tuple #[.int .i64 z, .int .i64 0] ∧ Below w.heap.size w w') := by
  obtain rfl := hz.eq
  have O1 := Lib.hid (ord_max z hz.dn); have O2 := Lib.hid (ord_min z hz.dn); have HZ := Lib.hid hz
  have hc : -9223372036854775808 ≤ z ∧ z ≤ 9223372036854775807 := by simp [isI64] at hi; omega
  obtain ⟨u, hu, hu0⟩ : ∃ u, (z - 9223372036854775807).sign = u ∧ u ≤ 0 := ⟨_, rfl, by
    rcases Int.lt_or_eq_of_le hc.2 with h | h
    · rw [Int.sign_eq_neg_one_of_neg (by omega)]; omega
    · rw [show z - 9223372036854775807 = 0 by omega]; decide⟩
  obtain ⟨t, ht, ht0⟩ : ∃ t, (z - (-9223372036854775808)).sign = t ∧ 0 ≤ t := ⟨_, rfl, by
    rcases Int.lt_or_eq_of_le hc.1 with h | h
    · rw [Int.sign_eq_one_of_pos (by omega)]; omega
    · rw [show z - (-9223372036854775808) = 0 by omega]; decide⟩
  have E1 := Lib.hid hu; have E2 := Lib.hid ht
  have hval := val_digs 10 z.natAbs (by omega)
  have hlt := digs_lt 10 z.natAbs (by omega)
  have hle := val_drop_le (digs 10 z.natAbs)
  have hdl : (digs 10 z.natAbs).length ≤ 1024 := hz.dn
  have HLT := Lib.hid hlt; have HLE := Lib.hid hle; have HVAL := Lib.hid hval
  clear hz hi hu ht hval hlt hle
  rcases Int.lt_or_le z 0 with hz0 | hz0
  · have HM := Lib.hid (show decide (z < 0) = true by simp; omega)
    go_enter Tryz.func136, Tryz.ntmps136
    go_wp2_with (first
      | (go_at_call 30; (with_reducible refine (rCheck_any _ _ (by have := HZ.out.size; omega)).mono ?_); rintro e w1 ⟨v, rfl, rfl, rfl⟩; rw [HZ.out.chk])
      | (go_at_call 14; (with_reducible refine (O1.out _).mono ?_); rintro e w1 ⟨v, rfl, rfl, hb1⟩; rw [E1.out])
      | (go_at_call 14; (with_reducible refine (O2.out _).mono ?_); rintro e w2 ⟨v, rfl, rfl, hb2⟩; rw [E2.out]; have b2 := hb1.trans (hb2.mono hb1.size))
      | (go_at_call 81; (with_reducible refine (digits_any _ z (by have := HZ.out.dn; have := itoa_len z; omega)).mono ?_); rintro e w3 ⟨v3, rfl, hs3, hb3⟩; obtain ⟨a3, b3, o3, c3, rfl, hi3, hp3, -, -⟩ := hs3.open elemInt; have bw := b2.trans (hb3.mono b2.size); clear hs3))
    go_loopw [5, 7] (fun n i wr => ∃ k : Nat, k ≤ (digs 10 z.natAbs).length ∧ i = .int .i64 ((k : Int) - 1) ∧ n = .int .i64 (-(val 10 ((digs 10 z.natAbs).drop k) : Int)) ∧ wr = w3) (fun _ i _ => (intOf i + 1).toNat)
    case atStart => exact ⟨(digs 10 z.natAbs).length, Nat.le_refl _, rfl, by rw [List.drop_length]; rfl, rfl⟩
    case round =>
      obtain ⟨k, hk, rfl, rfl, rfl⟩ := hrel
      rcases k with _ | k
      · have HR := Lib.hid (show -(val 10 ((digs 10 z.natAbs).drop 0) : Int) = z by rw [List.drop_zero, HVAL.out]; omega)
        rw [HR.out]
        go_wp2
        go_ret2
        exact ⟨_, rfl, rfl, bw⟩
      · have ek : (((k + 1 : Nat) : Int) - 1) = (k : Int) := by omega
        rw [ek]
        clear ek
        have hkl : k < (digs 10 z.natAbs).length := by omega
        have h1 : wr.cell? ⟨b3, o3 + k, none⟩ = some (.int .i64 ((digs 10 z.natAbs)[k] : Nat)) := hp3.2 k hkl
        have hd := HLT.out _ (List.getElem_mem hkl)
        have hv := val_drop_cons _ k hkl
        have hv2 := HLE.out k
        rw [HVAL.out] at hv2
        obtain ⟨d, hdd⟩ : ∃ d, d = (digs 10 z.natAbs)[k] := ⟨_, rfl⟩
        rw [← hdd] at h1 hd hv
        clear hdd
        have hb1 : 10 * val 10 ((digs 10 z.natAbs).drop (k + 1)) ≤ 9223372036854775808 := by omega
        have hb2' : val 10 ((digs 10 z.natAbs).drop k) ≤ 9223372036854775808 := by omega
        have hb3' : 0 ≤ z → val 10 ((digs 10 z.natAbs).drop k) ≤ 9223372036854775807 := by omega
        generalize val 10 ((digs 10 z.natAbs).drop (k + 1)) = V at *
        obtain ⟨V0, hV0⟩ : ∃ V0, V0 = val 10 ((digs 10 z.natAbs).drop k) := ⟨_, rfl⟩
        rw [← hV0] at hv hv2 hb2' hb3'
        have HV0 := Lib.hid hV0
        clear hV0
        go_wp2_with (go_at_call 61; (with_reducible refine (Minus_any _ z).mono ?_); rintro e w4 ⟨v, rfl, rfl, rfl⟩; rw [HM.out])
        go_roundw
        case rel => exact ⟨k, by omega, rfl, by rw [← HV0.out]; exact congrArg (Value.int .i64) (by omega), trivial⟩
        case measure => simp [intOf]
  · have HM := Lib.hid (show decide (z < 0) = false by simp; omega)
    go_enter Tryz.func136, Tryz.ntmps136
    go_wp2_with (first
      | (go_at_call 30; (with_reducible refine (rCheck_any _ _ (by have := HZ.out.size; omega)).mono ?_); rintro e w1 ⟨v, rfl, rfl, rfl⟩; rw [HZ.out.chk])
      | (go_at_call 14; (with_reducible refine (O1.out _).mono ?_); rintro e w1 ⟨v, rfl, rfl, hb1⟩; rw [E1.out])
      | (go_at_call 14; (with_reducible refine (O2.out _).mono ?_); rintro e w2 ⟨v, rfl, rfl, hb2⟩; rw [E2.out]; have b2 := hb1.trans (hb2.mono hb1.size))
      | (go_at_call 81; (with_reducible refine (digits_any _ z (by have := HZ.out.dn; have := itoa_len z; omega)).mono ?_); rintro e w3 ⟨v3, rfl, hs3, hb3⟩; obtain ⟨a3, b3, o3, c3, rfl, hi3, hp3, -, -⟩ := hs3.open elemInt; have bw := b2.trans (hb3.mono b2.size); clear hs3))
    go_loopw [5, 7] (fun n i wr => ∃ k : Nat, k ≤ (digs 10 z.natAbs).length ∧ i = .int .i64 ((k : Int) - 1) ∧ n = .int .i64 ((val 10 ((digs 10 z.natAbs).drop k) : Int)) ∧ wr = w3) (fun _ i _ => (intOf i + 1).toNat)
    case atStart => exact ⟨(digs 10 z.natAbs).length, Nat.le_refl _, rfl, by rw [List.drop_length]; rfl, rfl⟩
    case round =>
      obtain ⟨k, hk, rfl, rfl, rfl⟩ := hrel
      rcases k with _ | k
      · have HR := Lib.hid (show (val 10 ((digs 10 z.natAbs).drop 0) : Int) = z by rw [List.drop_zero, HVAL.out]; omega)
        rw [HR.out]
        go_wp2
        go_ret2
        exact ⟨_, rfl, rfl, bw⟩
      · have ek : (((k + 1 : Nat) : Int) - 1) = (k : Int) := by omega
        rw [ek]
        clear ek
        have hkl : k < (digs 10 z.natAbs).length := by omega
        have h1 : wr.cell? ⟨b3, o3 + k, none⟩ = some (.int .i64 ((digs 10 z.natAbs)[k] : Nat)) := hp3.2 k hkl
        have hd := HLT.out _ (List.getElem_mem hkl)
        have hv := val_drop_cons _ k hkl
        have hv2 := HLE.out k
        rw [HVAL.out] at hv2
        obtain ⟨d, hdd⟩ : ∃ d, d = (digs 10 z.natAbs)[k] := ⟨_, rfl⟩
        rw [← hdd] at h1 hd hv
        clear hdd
        have hb1 : 10 * val 10 ((digs 10 z.natAbs).drop (k + 1)) ≤ 9223372036854775808 := by omega
        have hb2' : val 10 ((digs 10 z.natAbs).drop k) ≤ 9223372036854775808 := by omega
        have hb3' : 0 ≤ z → val 10 ((digs 10 z.natAbs).drop k) ≤ 9223372036854775807 := by omega
        generalize val 10 ((digs 10 z.natAbs).drop (k + 1)) = V at *
        obtain ⟨V0, hV0⟩ : ∃ V0, V0 = val 10 ((digs 10 z.natAbs).drop k) := ⟨_, rfl⟩
        rw [← hV0] at hv hv2 hb2' hb3'
        have HV0 := Lib.hid hV0
        clear hV0
        go_wp2_with (go_at_call 61; (with_reducible refine (Minus_any _ z).mono ?_); rintro e w4 ⟨v, rfl, rfl, rfl⟩; rw [HM.out])
        go_roundw
        case rel => exact ⟨k, by omega, rfl, by rw [← HV0.out]; exact congrArg (Value.int .i64) (by omega), trivial⟩
        case measure => simp [intOf]

theorem digs_split (n k : Nat) (os : List Nat) (hk : 0 < k) (h : digs 10 n = os ++ digs 10 k) : digs 10 n = (os ++ [k % 10]) ++ digs 10 (k / 10) := by
  rw [h, digs_pos 10 k (by omega) hk, List.append_assoc]; rfl
set_option maxHeartbeats 1000000 in
theorem rOf_pos (w : World) (n : Nat) (h1 : n ≤ 9223372036854775807) :
    Calls Tryz.prog 47 #[.int .i64 n] w (Rets fun v w' => v = .string (txt n) ∧ Below w.heap.size w w') := by
  have hL : (digs 10 n).length ≤ 19 := (digs_len 10 n 19 (by omega)).2 (by omega)
  have HL := Lib.hid hL
  have h0 : (0 : Int) ≤ n := by omega
  have hnn : (n : Int) ≤ 9223372036854775807 := by omega
  have HS := Lib.hid (show sg false n = (n : Int) from rfl)
  clear hL h1
  go_enter Tryz.func47, Tryz.ntmps47
  go_wp2
  go_loopw [0, 4] (fun m l wr => ∃ (k : Nat) (os : List Nat), m = .int .i64 k ∧ k ≤ n ∧ Hid (digs 10 n = os ++ digs 10 k) ∧ Hid (os.length ≤ 19) ∧ wr.ownsRow w.heap.size 3 1 l os.length (os.map eI) ∧ Below w.heap.size w wr) (fun m _ _ => (intOf m).toNat)
  case atStart => exact ⟨n, [], rfl, Nat.le_refl _, Lib.hid rfl, Lib.hid (by simp), World.ownsRow_nil _ _ _ _, Below.refl _ _⟩
  case round =>
    obtain ⟨k, os, rfl, hkn, hd, hol, hown, hb⟩ := hrel
    have hbs := hb.size
    by_cases hk0 : k = 0
    · subst hk0
      have ho : os = digs 10 n := by rw [hd.out, digs_zero, List.append_nil]
      have HO := Lib.hid (show Sl eI wr _ (digs 10 n) from ho ▸ Sl.ofOwns hown)
      obtain ⟨a3, b3, o3, c3, hl3, -, -, -, -⟩ := HO.out.open elemInt
      clear ho hown
      subst hl3
      go_wp2_with (go_at_call 82; (with_reducible refine (rtext_any _ _ n false HO.out (by have := HL.out; omega)).mono ?_); rintro e w2 ⟨v, rfl, rfl, hb2⟩; rw [HS.out])
      go_ret
      exact ⟨_, rfl, rfl, hb.trans (hb2.mono hb.size)⟩
    · have hk1 : 0 < k := by omega
      have HD := Lib.hid (digs_split n k os hk1 hd.out)
      have hol2 : os.length ≤ 19 := hol.out
      have hol3 : os.length + 1 ≤ 19 := by
        have := congrArg List.length HD.out
        simp at this; have := HL.out; omega
      go_wp2_with (at_builtin; refine app1 elemInt rfl _ _ rfl rfl rfl hown hb (Nat.le_refl _) hbs rfl (by simp [Value.oneCell']) (by omega) (by unfold maxLen; omega) ?_; intro v' w2 hown' hb')
      go_roundw
      case rel => exact ⟨k / 10, os ++ [k % 10], congrArg (Value.int .i64) (by omega), by omega, HD, Lib.hid (by simp; omega), by simpa [eI] using hown', hb'⟩
      case measure => simp [intOf]; omega
set_option maxHeartbeats 1000000 in
theorem rOf_neg (w : World) (n : Nat) (h1 : n ≤ 9223372036854775808) (hn0 : 0 < n) :
    Calls Tryz.prog 47 #[.int .i64 (-(n : Int))] w (Rets fun v w' => v = .string (txt (-(n : Int))) ∧ Below w.heap.size w w') := by
  have hL : (digs 10 n).length ≤ 19 := (digs_len 10 n 19 (by omega)).2 (by omega)
  have HL := Lib.hid hL
  have h0 : -(n : Int) < 0 := by omega
  have hnn : (n : Int) ≤ 9223372036854775808 := by omega
  have HS := Lib.hid (show sg true n = -(n : Int) from rfl)
  clear hL h1
  go_enter Tryz.func47, Tryz.ntmps47
  go_wp2
  go_loopw [0, 4] (fun m l wr => ∃ (k : Nat) (os : List Nat), m = .int .i64 (-(k : Int)) ∧ k ≤ n ∧ Hid (digs 10 n = os ++ digs 10 k) ∧ Hid (os.length ≤ 19) ∧ wr.ownsRow w.heap.size 3 1 l os.length (os.map eI) ∧ Below w.heap.size w wr) (fun m _ _ => (-(intOf m)).toNat)
  case atStart => exact ⟨n, [], rfl, Nat.le_refl _, Lib.hid rfl, Lib.hid (by simp), World.ownsRow_nil _ _ _ _, Below.refl _ _⟩
  case round =>
    obtain ⟨k, os, rfl, hkn, hd, hol, hown, hb⟩ := hrel
    have hbs := hb.size
    by_cases hk0 : k = 0
    · subst hk0
      have hdl : 0 < (digs 10 n).length := by rw [List.length_pos_iff, Ne, digs_nil (by omega)]; omega
      have ho : os = digs 10 n := by rw [hd.out, digs_zero, List.append_nil]
      have HO := Lib.hid (show Sl eI wr _ (digs 10 n) from ho ▸ Sl.ofOwns hown)
      obtain ⟨a3, b3, o3, c3, hl3, -, -, -, -⟩ := HO.out.open elemInt
      clear ho hown
      subst hl3
      go_wp2_with (go_at_call 82; (with_reducible refine (rtext_any _ _ n true HO.out (by have := HL.out; omega)).mono ?_); rintro e w2 ⟨v, rfl, rfl, hb2⟩; rw [HS.out])
      go_ret
      exact ⟨_, rfl, rfl, hb.trans (hb2.mono hb.size)⟩
    · have hk1 : 0 < k := by omega
      have HD := Lib.hid (digs_split n k os hk1 hd.out)
      have hol2 : os.length ≤ 19 := hol.out
      have hol3 : os.length + 1 ≤ 19 := by
        have := congrArg List.length HD.out
        simp at this; have := HL.out; omega
      rcases (show (k : Int) % 10 = 0 ∨ 0 < (k : Int) % 10 by omega) with hkm | hkm
      all_goals
        go_wp2_with (at_builtin; refine app1 elemInt rfl _ _ rfl rfl rfl hown hb (Nat.le_refl _) hbs rfl (by simp [Value.oneCell']) (by omega) (by unfold maxLen; omega) ?_; intro v' w2 hown' hb')
        go_roundw
        case rel => exact ⟨k / 10, os ++ [k % 10], congrArg (Value.int .i64) (by omega), by omega, HD, Lib.hid (by simp; omega), by first | simpa [eI] using hown' | (rw [show k % 10 = 0 by omega]; simpa [eI] using hown'), hb'⟩
        case measure => simp [intOf]; omega
theorem rOf_any (w : World) (n : Int) (h0 : -9223372036854775808 ≤ n) (h1 : n ≤ 9223372036854775807) :
    Calls Tryz.prog 47 #[.int .i64 n] w (Rets fun v w' => v = .string (txt n) ∧ Below w.heap.size w w') := by
  rcases Int.lt_or_le n 0 with h | h
  · obtain ⟨k, rfl⟩ : ∃ k : Nat, n = -(k : Int) := ⟨n.natAbs, by omega⟩
    exact rOf_neg w k (by omega) (by omega)
  · obtain ⟨k, rfl⟩ : ∃ k : Nat, n = (k : Int) := ⟨n.natAbs, by omega⟩
    exact rOf_pos w k (by omega)
end Go.Proofs.YtdpdkojeapaflaaGreatDoor

namespace Go.Proofs.YtdpdkojeapaflaaGreatDoor
open Go.RowKit
set_option maxRecDepth 100000

theorem Sl.uniqueI {w : World} {v : Value} {xs ys : List Nat} (h : Sl eI w v xs) (h' : Sl eI w v ys) : xs = ys := by
  obtain ⟨a, b, o, c, rfl, ha, -, -, -, hx⟩ := h
  obtain ⟨a', b', o', c', he, ha', -, -, -, hx'⟩ := h'
  injection he with e1 e2 e3
  refine List.ext_getElem e2 fun i h1 h2 => ?_
  have p1 := ha (by omega)
  have p2 := ha' (by omega)
  rw [← e1, p1] at p2
  injection p2 with p2
  injection p2 with q1 q2
  have c1 := hx.2 i h1
  have c2 := hx'.2 i h2
  rw [← q1, ← q2, c1] at c2
  simp [eI] at c2
  exact_mod_cast c2
open Classical in
/-- The natural number that a slice of digits reads as. -/
noncomputable def rdD (w : World) (v : Value) : Nat := if h : ∃ n, Sl eI w v (digs 10 n) then Classical.choose h else 0
theorem rdD_eq {w : World} {v : Value} {n : Nat} (h : Sl eI w v (digs 10 n)) : rdD w v = n := by
  have hex : ∃ n, Sl eI w v (digs 10 n) := ⟨n, h⟩
  unfold rdD
  rw [dif_pos hex]
  have := (Classical.choose_spec hex).uniqueI h
  have e := congrArg (val 10) this
  rwa [val_digs _ _ (by omega), val_digs _ _ (by omega)] at e
theorem own_lt {w : World} {base e g n cap : Nat} {xs : List Value} (h : w.ownsRow base e 1 (.slice (some ⟨g, 0, none⟩) n cap) n xs) : g < w.heap.size := by
  rcases h.2 with ⟨h0, _⟩ | ⟨g', cap', cur, he, _, hg, _⟩
  · cases h0
  · cases he; exact (Array.getElem?_eq_some_iff.1 hg).1
theorem trim_cons (x r : Nat) (hx : x < 10) : trim (x :: digs 10 r) = digs 10 (x + 10 * r) :=
  trim_of 10 _ _ (by omega) (by intro a ha; rcases List.mem_cons.1 ha with rfl | h; exact hx; exact digs_lt 10 r (by omega) a h) (by rw [val, val_digs _ _ (by omega)])
theorem zeros_val (n : Nat) : val 10 (List.replicate n 0) = 0 := by
  induction n with
  | zero => rfl
  | succ n ih => rw [List.replicate_succ, val, ih]

set_option maxHeartbeats 4000000 in
theorem rdivided_any (w : World) (x y : Value) (m n : Nat) (hx : Sl eI w x (digs 10 m)) (hy : Sl eI w y (digs 10 n)) (hl : (digs 10 m).length ≤ 1000000) (hl' : (digs 10 n).length ≤ 900000) (hn : 0 < n) :
    Calls Tryz.prog 150 #[x, y] w (Rets fun v w' => ∃ q a k c, v = .tuple #[q, .slice a k c] ∧ Sl eI w' q (digs 10 (m / n)) ∧ Sl eI w' (.slice a k c) (digs 10 (m % n)) ∧ Below w.heap.size w w') := by
  have ba := digs_lt 10 m (by omega)
  have va := val_digs 10 m (by omega)
  generalize digs 10 m = xs at *
  have HY := Lib.hid hy; have HN := Lib.hid hn; have HL' := Lib.hid hl'
  obtain ⟨a, b, o, c, rfl, hi, hp, -, -⟩ := hx.open elemInt
  obtain ⟨a', b', o', c', rfl, -, -, -, -⟩ := hy.open elemInt
  have BX := Lib.hid ba; have VA := Lib.hid va
  clear ba va hx hy hn hl'
  go_enter Tryz.func150, Tryz.ntmps150
  go_wp2_with (at_make; refine mkN elemInt rfl _ _ rfl xs.length rfl rfl (by omega) (by omega) (by omega) (by unfold maxLen; omega) (Below.refl _ _) (Nat.le_refl _) rfl ?_; intro w1 hown hb hb2; clear hb2)
  have hown := ownsRow_cast hown rfl (show List.replicate xs.length (Value.int .i64 0) = (List.replicate xs.length 0).map eI by simp [eI])
  go_loopw [7, 8] (fun rv i wr => ∃ (k q r : Nat) (cur : List Nat), k ≤ xs.length ∧ i = .int .i64 ((k : Int) - 1) ∧ Hid (Sl eI wr rv (digs 10 r)) ∧ Hid (From (w.heap.size + 1) rv) ∧ Hid (r < n) ∧ Hid (val 10 (xs.drop k) = q * n + r) ∧ Hid (∀ a ∈ cur, a < 10) ∧ Hid (cur.length = xs.length) ∧
      Hid (∀ j, j < k → cur.getD j 0 = 0) ∧ Hid (val 10 (cur.drop k) = q) ∧ wr.ownsRow w.heap.size 3 1 (.slice (some ⟨w.heap.size, 0, none⟩) xs.length xs.length) xs.length (cur.map eI) ∧ Below w.heap.size w wr) (fun _ i _ => (intOf i + 1).toNat)
  case atStart =>
    refine ⟨xs.length, 0, 0, _, Nat.le_refl _, rfl, Lib.hid ?_, Lib.hid From.none, HN, Lib.hid ?_, Lib.hid ?_, Lib.hid ?_, Lib.hid ?_, Lib.hid ?_, hown, hb⟩
    · rw [digs_zero]; exact Sl.nil
    · rw [List.drop_length]; simp [val]
    · intro a ha; rw [List.eq_of_mem_replicate ha]; omega
    · simp
    · intro j hj; rw [List.getD_eq_getElem?_getD, List.getElem?_replicate]; split <;> rfl
    · rw [List.drop_of_length_le (by simp)]; rfl
  case round =>
    clear hown hb
    obtain ⟨k, q, r, cur, hk, rfl, hR, hF, hrn, hV, HC, HL, HZ, HQ, hown, hb⟩ := hrel
    rcases k with _ | k
    · obtain ⟨ar, nr, cr, rfl⟩ := hR.out.shape
      have hq : m / n = q ∧ m % n = r := (Nat.div_mod_unique HN.out).2 ⟨by have := hV.out; rw [List.drop_zero, VA.out] at this; rw [this, Nat.mul_comm n q, Nat.add_comm], hrn.out⟩
      have HQ2 := Lib.hid hq
      have HQ3 : Hid (trim cur = digs 10 q) := Lib.hid (trim_of 10 cur _ (by omega) HC.out (by have := HQ.out; rwa [List.drop_zero] at this))
      clear hq
      go_wp2_with fail
      refine (cut_any _ _ cur (Sl.ofOwns hown)).mono ?_
      rintro e w2 ⟨v2, rfl, hs2, rfl⟩
      have HS2 := Lib.hid hs2; clear hs2
      go_wp2
      go_ret2
      exact ⟨_, rfl, _, _, _, _, rfl, by rw [HQ2.out.1, ← HQ3.out]; exact HS2.out, by rw [HQ2.out.2]; exact hR.out, hb⟩
    · have ek : (((k + 1 : Nat) : Int) - 1) = (k : Int) := by omega
      rw [ek]
      clear ek
      have hkl : k < xs.length := by omega
      have hc1 : wr.cell? ⟨b, o + k, none⟩ = some (.int .i64 (xs[k] : Nat)) := hp.at hb (Nat.le_refl _) k hkl
      have hbx := BX.out xs[k] (List.getElem_mem hkl)
      have hvc := val_drop_cons xs k hkl
      obtain ⟨d, hd⟩ : ∃ d, d = xs[k] := ⟨_, rfl⟩
      rw [← hd] at hc1 hbx hvc
      have HT := Lib.hid (trim_cons d r hbx)
      have HVC := Lib.hid hvc; have HBX := Lib.hid hbx
      have hrl : (digs 10 r).length ≤ 1000000 := Nat.le_trans (digs_len_mono 10 (by omega) (Nat.le_of_lt hrn.out)) (Nat.le_trans HL'.out (by omega))
      have hog := own_lt hown
      obtain ⟨ar, nr, cr, rfl⟩ := hR.out.shape
      have HOG := Lib.hid hog
      clear hd hvc hbx hog
      go_wp2_with (first
        | (at_builtin; refine appS elemInt rfl _ _ rfl rfl rfl hR.out (Below.refl _ wr) (Nat.le_refl _) (fun y => by simp [eI, Value.oneCell']) (by omega) (by unfold maxLen; omega) ?_; intro v' w2 howna hb2; have HOA := Lib.hid howna; clear howna)
        | (go_at_call 119; (with_reducible refine (cut_from _ _ (d :: digs 10 r) (Sl.ofOwns HOA.out)).mono ?_); rintro e w3 ⟨v3, rfl, hs3, hf3, rfl⟩; have HS3 := Lib.hid hs3; have HF3 := Lib.hid ((hf3 _ (From.ofOwns HOA.out)).mono HOG.out); clear hs3 hf3))
      have hown2 := own_below hown hb2 (Nat.le_refl _)
      have hb3 := hb.trans (hb2.mono hb.size)
      rw [HT.out] at HS3
      go_loopw [7] (fun rv wr => ∃ (t r' : Nat) (cur : List Nat), Hid (Sl eI wr rv (digs 10 r')) ∧ Hid (From (w.heap.size + 1) rv) ∧ Hid (t * n + r' = d + 10 * r) ∧ Hid (∀ a ∈ cur, a < 10) ∧ Hid (cur.length = xs.length) ∧
        Hid (∀ j, j < k → cur.getD j 0 = 0) ∧ Hid (cur.getD k 0 = t) ∧ Hid (val 10 (cur.drop (k + 1)) = q) ∧ wr.ownsRow w.heap.size 3 1 (.slice (some ⟨w.heap.size, 0, none⟩) xs.length xs.length) xs.length (cur.map eI) ∧ Below w.heap.size w wr) (fun rv wr => rdD wr rv)
      case atStart => exact ⟨0, d + 10 * r, cur, HS3, HF3, Lib.hid (by omega), HC, HL, Lib.hid (fun j hj => HZ.out j (by omega)), Lib.hid (HZ.out k (by omega)), HQ, hown2, hb3⟩
      case round =>
        clear hown hb hown2 hb3 HC HL HZ HQ HS3 HF3 HT HOG HOA hb2 hc1 hrl hR hF
        obtain ⟨t, r', cur, hR, hF, hE, HC, HL, HZ, HK, HQ, hown, hb⟩ := hrel
        obtain ⟨ar, nr, cr, rfl⟩ := hR.out.shape
        have hrl : (digs 10 r').length ≤ 1000000 := by
          have h1 : r' ≤ 10 * n + 9 := by have := hE.out; have := HBX.out; have := hrn.out; omega
          have h2 := digs_len_mono 10 (by omega) h1
          have h3 := digs_len_add 10 (10 * n) 9 (by omega)
          have h4 := digs_len_mul 10 10 n (by omega)
          have h5 : (digs 10 10).length ≤ 2 := (digs_len 10 10 2 (by omega)).2 (by omega)
          have h6 : (digs 10 9).length ≤ 2 := (digs_len 10 9 2 (by omega)).2 (by omega)
          have := HL'.out
          omega
        by_cases hlt : r' < n
        · have HO := Lib.hid (order_lt hlt)
          have HLT := Lib.hid hlt
          clear hlt
          go_wp2_with (go_at_call 84; (with_reducible refine (rorder_any _ _ _ r' n hR.out (HY.out.below hb (Nat.le_refl _)) (by omega)).mono ?_); rintro e w5 ⟨v, rfl, rfl, hb5⟩; rw [HO.out])
          go_roundw
          case rel =>
            refine ⟨k, 10 * q + t, r', cur, by omega, rfl, Lib.hid (hR.out.below hb5 (Nat.le_refl _)), hF, HLT, Lib.hid ?_, HC, HL, HZ, Lib.hid ?_, own_below hown hb5 (Nat.le_refl _), hb.trans (hb5.mono hb.size)⟩
            · rw [HVC.out, hV.out, Nat.add_mul, Nat.mul_assoc]; have := hE.out; omega
            · have hkc : k < cur.length := by rw [HL.out]; exact hkl
              rw [val_drop_cons cur k hkc, HQ.out]
              have := HK.out
              simp [hkc] at this
              rw [this]; omega
          case measure => simp [intOf]
        · have hge : n ≤ r' := by omega
          obtain ⟨u, hu, hu0⟩ : ∃ u, ((r' : Int) - n).sign = u ∧ 0 ≤ u := ⟨_, rfl, by
            rcases Nat.lt_or_eq_of_le hge with h | h
            · rw [order_gt h]; omega
            · rw [order_eq h.symm]; omega⟩
          have ht8 : t ≤ 8 := by
            rcases Nat.lt_or_ge t 9 with h | h
            · omega
            · have h1 := Nat.mul_le_mul_right n h; have := hE.out; have := HBX.out; have := hrn.out; omega
          have hkc : k < cur.length := by rw [HL.out]; exact hkl
          have hK : cur[k] = t := by have := HK.out; simpa [hkc] using this
          have HU := Lib.hid hu; have HGE := Lib.hid hge; have HCK := Lib.hid hK; have HOW := Lib.hid hown; have HKC := Lib.hid hkc
          have hog := own_lt hown
          have HOG := Lib.hid hog
          clear hu hge hlt hK hown hog
          go_wp2_with (first
            | (go_at_call 84; (with_reducible refine (rorder_any _ _ _ r' n hR.out (HY.out.below hb (Nat.le_refl _)) hrl).mono ?_); rintro e w5 ⟨v, rfl, rfl, hb5⟩; rw [HU.out]; have b5 := hb.trans (hb5.mono hb.size))
            | (go_at_call 85; (with_reducible refine (taken_from _ _ _ r' n (hR.out.below hb5 (Nat.le_refl _)) (HY.out.below b5 (Nat.le_refl _)) hrl HGE.out).mono ?_); rintro e w6 ⟨v6, rfl, hs6, hf6, hb6⟩; have HS6 := Lib.hid hs6; have HF6 := Lib.hid (hf6.mono (Nat.lt_of_lt_of_le HOG.out hb5.size)); have b6 := b5.trans (hb6.mono b5.size); have HOK := Lib.hid (own_below (own_below HOW.out hb5 (Nat.le_refl _)) hb6 (Nat.le_refl _)); have hcu : w6.cell? ⟨w.heap.size, k, none⟩ = some (.int .i64 (t : Nat)) := (by have h7 := (own_get HOK.out HKC.out).1; rw [HCK.out] at h7; exact h7); have hfr := (own_get HOK.out HKC.out).2; clear hs6 hf6))
          go_roundw
          case rel =>
            have R := fun (q : Value) (hq : q = eI (t + 1)) => own_put HOK.out b6 (Nat.le_refl _) k (t + 1) q hq
            refine ⟨t + 1, r' - n, cur.set k (t + 1), Lib.hid (HS6.out.setFrom HF6.out (Nat.lt_succ_self _)), HF6, Lib.hid ?_, Lib.hid ?_, Lib.hid ?_, Lib.hid ?_, Lib.hid ?_, Lib.hid ?_, (R _ ?_).1, (R _ ?_).2⟩
            · rw [Nat.add_mul]; have := hE.out; have := HGE.out; omega
            · intro a ha
              rcases List.mem_or_eq_of_mem_set ha with h | h
              · exact HC.out a h
              · omega
            · rw [List.length_set]; exact HL.out
            · intro j hj
              have := HZ.out j hj
              rw [List.getD_eq_getElem?_getD] at this ⊢
              rw [List.getElem?_set_ne (by omega)]; exact this
            · simp [HKC.out]
            · rw [List.drop_set_of_lt (by omega)]; exact HQ.out
            · exact congrArg (Value.int .i64) (by simp)
            · exact congrArg (Value.int .i64) (by simp)
          case measure => rw [rdD_eq (HS6.out.setFrom HF6.out (Nat.lt_succ_self _)), rdD_eq hR.out]; have := HGE.out; have := HN.out; omega
end Go.Proofs.YtdpdkojeapaflaaGreatDoor

namespace Go.Proofs.YtdpdkojeapaflaaGreatDoor
open Go.RowKit
set_option maxRecDepth 100000

set_option maxHeartbeats 400000 in
theorem Positive_any (w : World) (z : Int) (hz : dn z ≤ 100000) :
    Calls Tryz.prog 132 #[.string (txt z)] w (Rets fun v w' => v = .string (txt (z.natAbs : Int)) ∧ Below w.heap.size w w') := by
  have hl := itoa_len z
  have HL := Lib.hid hl; have HZ := Lib.hid hz
  have HS := Lib.hid (show sg false z.natAbs = (z.natAbs : Int) from rfl)
  clear hl hz
  go_enter Tryz.func132, Tryz.ntmps132
  go_wp2_with (first
    | (go_at_call 81; (with_reducible refine (digits_any _ z (by have := HL.out; have := HZ.out; omega)).mono ?_); rintro e w1 ⟨v1, rfl, hs1, hb1⟩; have HS1 := Lib.hid hs1; clear hs1)
    | (go_at_call 82; (with_reducible refine (rtext_any _ _ z.natAbs false HS1.out (by have := HZ.out; unfold dn at this; omega)).mono ?_); rintro e w2 ⟨v, rfl, rfl, hb2⟩; rw [HS.out]))
  go_ret
  exact ⟨_, rfl, rfl, hb1.trans (hb2.mono hb1.size)⟩

end Go.Proofs.YtdpdkojeapaflaaGreatDoor

namespace Go.Proofs.YtdpdkojeapaflaaGreatDoor
theorem txt_inj {x y : Int} (h : txt x = txt y) : x = y := by
  have h : Lib.itoa x = Lib.itoa y := by rw [← txt_list, ← txt_list, h]
  have hx := dv_dec x.natAbs
  have hy := dv_dec y.natAbs
  have dx := dec_all x.natAbs
  have dy := dec_all y.natAbs
  rw [itoa_cases, itoa_cases] at h
  split at h <;> split at h
  · injection h with _ h
    rw [h] at hx; omega
  · rw [← h] at dy; simp [isDig] at dy
  · rw [h] at dx; simp [isDig] at dx
  · rw [h] at hx; omega
end Go.Proofs.YtdpdkojeapaflaaGreatDoor

namespace Go.Proofs.YtdpdkojeapaflaaGreatDoor
open Go.RowKit
set_option maxRecDepth 100000

set_option maxHeartbeats 400000 in
theorem both_err (w : World) (s t : ByteArray) (f : Value) (hs : s.size ≤ 1000000) (ht : t.size ≤ 1000000) (h : chks [s, t] ≠ 0) :
    Calls Tryz.prog 94 #[.string s, .string t, f] w (Rets fun v w' => v = .tuple #[.string ⟨#[]⟩, .int .i64 (chks [s, t])] ∧ Below w.heap.size w w') := by
  have hne : (chks [s, t] != 0) = true := by simp [h]
  have hb0 : Below w.heap.size w (w.alloc (.cells #[.string s, .string t] 27)) := (Below.refl _ w).alloc (Nat.le_refl _) _
  have HB0 := Lib.hid hb0
  have HSZ := Lib.hid (show ∀ x ∈ [s, t], x.size ≤ 1000000 by intro x hx; simp at hx; rcases hx with rfl | rfl; exact hs; exact ht)
  clear h hb0
  go_enter Tryz.func94, Tryz.ntmps94
  go_wp2_with (go_at_call 88; refine (checked_any _ _ _ (Sl.pair w s t _) HSZ.out (by simp)).mono ?_; rintro e w' ⟨v, rfl, rfl, hb⟩)
  go_ret2
  exact ⟨_, rfl, rfl, HB0.out.trans (hb.mono (by simp))⟩

set_option maxHeartbeats 400000 in
theorem both_sum (w : World) (s t : ByteArray) (x y : Int) (hx : Good s x) (hy : Good t y) (he : Env w) :
    Calls Tryz.prog 94 #[.string s, .string t, .func (.func 108) #[] #[]] w (Rets fun v w' => v = resV (x + y) ∧ Below w.heap.size w w') := by
  have h0 : chks [s, t] = 0 := by rw [chks_pair, hx.chk, hy.chk]; rfl
  have hb0 : Below w.heap.size w (w.alloc (.cells #[.string s, .string t] 27)) := (Below.refl _ w).alloc (Nat.le_refl _) _
  obtain ⟨tt, k, hr, -, -⟩ := resV_cases (x + y)
  have hwl := wl_add x y
  have HWL := Lib.hid hwl
  have HB0 := Lib.hid hb0; have H0 := Lib.hid h0; have HX := Lib.hid hx; have HY := Lib.hid hy; have HR := Lib.hid hr; have HE := Lib.hid he
  have HSZ := Lib.hid (show ∀ x ∈ [s, t], x.size ≤ 1000000 by intro x h; simp at h; rcases h with rfl | rfl; (have := hx.size; omega); (have := hy.size; omega))
  clear h0 hb0 hx hy hr he hwl
  go_enter Tryz.func94, Tryz.ntmps94
  go_wp2_with (first
    | (go_at_call 88; refine (checked_any _ _ _ (Sl.pair w s t _) HSZ.out (by simp)).mono ?_; rintro e w1 ⟨v, rfl, rfl, hb1⟩; rw [H0.out]; have b1 := HB0.out.trans (hb1.mono (by simp)))
    | (go_at_call_of 89 (Value.string s); refine (read_any _ _ x HX.out.1 (by have := HX.out.size; omega)).mono ?_; rintro e w2 ⟨v, rfl, hn2, hb2⟩; have HN2 := Lib.hid hn2; clear hn2; have b2 := b1.trans (hb2.mono b1.size))
    | (go_at_call_of 89 (Value.string t); refine (read_any _ _ y HY.out.1 (by have := HY.out.size; omega)).mono ?_; rintro e w3 ⟨v, rfl, hn3, hb3⟩; have HN3 := Lib.hid hn3; clear hn3; have b3 := b2.trans (hb3.mono b2.size))
    | (go_at_call 108; refine (sum_any _ _ _ x y (HN2.out.below hb3 (Nat.le_refl _)) HN3.out (by have := HX.out.wl; omega) (by have := HY.out.wl; omega)).mono ?_; rintro e w5 ⟨v, rfl, hn5, hb5⟩; have HN5 := Lib.hid hn5; clear hn5; have b5 := b3.trans (hb5.mono b3.size))
    | (go_at_call 91; refine (result_any _ _ _ HN5.out (by have := HX.out.wl; have := HY.out.wl; have := HWL.out; omega) (HE.out.below b5 (Nat.le_refl _))).mono ?_; rintro e w6 ⟨v, rfl, rfl, hb6⟩; rw [HR.out]))
  go_ret2
  exact ⟨_, rfl, by rw [HR.out]; rfl, b5.trans (hb6.mono b5.size)⟩
set_option maxHeartbeats 400000 in
theorem both_product (w : World) (s t : ByteArray) (x y : Int) (hx : Good s x) (hy : Good t y) (he : Env w) :
    Calls Tryz.prog 94 #[.string s, .string t, .func (.func 95) #[] #[]] w (Rets fun v w' => v = resV (x * y) ∧ Below w.heap.size w w') := by
  have h0 : chks [s, t] = 0 := by rw [chks_pair, hx.chk, hy.chk]; rfl
  have hb0 : Below w.heap.size w (w.alloc (.cells #[.string s, .string t] 27)) := (Below.refl _ w).alloc (Nat.le_refl _) _
  obtain ⟨tt, k, hr, -, -⟩ := resV_cases (x * y)
  have hwl := wl_mul x y
  have HWL := Lib.hid hwl
  have HB0 := Lib.hid hb0; have H0 := Lib.hid h0; have HX := Lib.hid hx; have HY := Lib.hid hy; have HR := Lib.hid hr; have HE := Lib.hid he
  have HSZ := Lib.hid (show ∀ x ∈ [s, t], x.size ≤ 1000000 by intro x h; simp at h; rcases h with rfl | rfl; (have := hx.size; omega); (have := hy.size; omega))
  clear h0 hb0 hx hy hr he hwl
  go_enter Tryz.func94, Tryz.ntmps94
  go_wp2_with (first
    | (go_at_call 88; refine (checked_any _ _ _ (Sl.pair w s t _) HSZ.out (by simp)).mono ?_; rintro e w1 ⟨v, rfl, rfl, hb1⟩; rw [H0.out]; have b1 := HB0.out.trans (hb1.mono (by simp)))
    | (go_at_call_of 89 (Value.string s); refine (read_any _ _ x HX.out.1 (by have := HX.out.size; omega)).mono ?_; rintro e w2 ⟨v, rfl, hn2, hb2⟩; have HN2 := Lib.hid hn2; clear hn2; have b2 := b1.trans (hb2.mono b1.size))
    | (go_at_call_of 89 (Value.string t); refine (read_any _ _ y HY.out.1 (by have := HY.out.size; omega)).mono ?_; rintro e w3 ⟨v, rfl, hn3, hb3⟩; have HN3 := Lib.hid hn3; clear hn3; have b3 := b2.trans (hb3.mono b2.size))
    | (go_at_call 95; refine (product_any _ _ _ x y (HN2.out.below hb3 (Nat.le_refl _)) HN3.out (by have := HX.out.wl; have := HY.out.wl; omega)).mono ?_; rintro e w5 ⟨v, rfl, hn5, hb5⟩; have HN5 := Lib.hid hn5; clear hn5; have b5 := b3.trans (hb5.mono b3.size))
    | (go_at_call 91; refine (result_any _ _ _ HN5.out (by have := HX.out.wl; have := HY.out.wl; have := HWL.out; omega) (HE.out.below b5 (Nat.le_refl _))).mono ?_; rintro e w6 ⟨v, rfl, rfl, hb6⟩; rw [HR.out]))
  go_ret2
  exact ⟨_, rfl, by rw [HR.out]; rfl, b5.trans (hb6.mono b5.size)⟩

set_option maxHeartbeats 400000 in
theorem Add_err (w : World) (s t : ByteArray) (hs : s.size ≤ 1000000) (ht : t.size ≤ 1000000) (h : chks [s, t] ≠ 0) :
    Calls Tryz.prog 122 #[.string s, .string t] w (Rets fun v w' => v = .tuple #[.string ⟨#[]⟩, .int .i64 (chks [s, t])] ∧ Below w.heap.size w w') := by
  go_enter Tryz.func122, Tryz.ntmps122
  go_wp2_with (go_at_call 94; refine (both_err _ _ _ _ hs ht h).mono ?_; rintro e w' ⟨v, rfl, rfl, hb⟩)
  go_ret2
  exact ⟨_, rfl, rfl, hb⟩
set_option maxHeartbeats 400000 in
theorem Add_ok (w : World) (s t : ByteArray) (x y : Int) (hx : Good s x) (hy : Good t y) (he : Env w) :
    Calls Tryz.prog 122 #[.string s, .string t] w (Rets fun v w' => v = resV (x + y) ∧ Below w.heap.size w w') := by
  obtain ⟨tt, k, hr, -, -⟩ := resV_cases (x + y)
  have HR := Lib.hid hr; have HX := Lib.hid hx; have HY := Lib.hid hy; have HE := Lib.hid he
  clear hr hx hy he
  go_enter Tryz.func122, Tryz.ntmps122
  go_wp2_with (go_at_call 94; refine (both_sum _ _ _ x y HX.out HY.out HE.out).mono ?_; rintro e w' ⟨v, rfl, rfl, hb⟩; rw [HR.out])
  go_ret2
  exact ⟨_, rfl, by rw [HR.out]; rfl, hb⟩

set_option maxHeartbeats 400000 in
theorem Mul_err (w : World) (s t : ByteArray) (hs : s.size ≤ 1000000) (ht : t.size ≤ 1000000) (h : chks [s, t] ≠ 0) :
    Calls Tryz.prog 38 #[.string s, .string t] w (Rets fun v w' => v = .tuple #[.string ⟨#[]⟩, .int .i64 (chks [s, t])] ∧ Below w.heap.size w w') := by
  go_enter Tryz.func38, Tryz.ntmps38
  go_wp2_with (go_at_call 94; refine (both_err _ _ _ _ hs ht h).mono ?_; rintro e w' ⟨v, rfl, rfl, hb⟩)
  go_ret2
  exact ⟨_, rfl, rfl, hb⟩
set_option maxHeartbeats 400000 in
theorem Mul_ok (w : World) (s t : ByteArray) (x y : Int) (hx : Good s x) (hy : Good t y) (he : Env w) :
    Calls Tryz.prog 38 #[.string s, .string t] w (Rets fun v w' => v = resV (x * y) ∧ Below w.heap.size w w') := by
  obtain ⟨tt, k, hr, -, -⟩ := resV_cases (x * y)
  have HR := Lib.hid hr; have HX := Lib.hid hx; have HY := Lib.hid hy; have HE := Lib.hid he
  clear hr hx hy he
  go_enter Tryz.func38, Tryz.ntmps38
  go_wp2_with (go_at_call 94; refine (both_product _ _ _ x y HX.out HY.out HE.out).mono ?_; rintro e w' ⟨v, rfl, rfl, hb⟩; rw [HR.out])
  go_ret2
  exact ⟨_, rfl, by rw [HR.out]; rfl, hb⟩
end Go.Proofs.YtdpdkojeapaflaaGreatDoor

namespace Go.Proofs.YtdpdkojeapaflaaGreatDoor
open Go.RowKit
set_option maxRecDepth 100000

theorem Boxes.both {w w1 : World} {m : Bool} {a : Option Addr} {n c : Nat} {m' : Bool} {a' : Option Addr} {n' c' : Nat} (h : Boxes w m a n c m' a' n' c' w1) : Boxes w m a n c m' a' n' c' w1 ∧ (w1.cell? ⟨w.heap.size, 0, none⟩ = some (.bool m) ∧ w1.cell? ⟨w.heap.size, 1, none⟩ = some (.slice a n c) ∧ w1.cell? ⟨w.heap.size + 1, 0, none⟩ = some (.bool m') ∧ w1.cell? ⟨w.heap.size + 1, 1, none⟩ = some (.slice a' n' c')) := ⟨h, h.facts⟩

set_option maxHeartbeats 1000000 in
theorem sub1_any (w : World) (x y : Value) (s t : Int) (hx : Num w x s) (hy : Num w y t) (hl : wl s ≤ 1000000000000) (hl' : wl t ≤ 1000000000000) :
    Calls Tryz.prog 140 #[x, y] w (Rets fun v w' => Num w' v (s - t) ∧ Below w.heap.size w w') := by
  obtain ⟨m, a, n, c, rfl, hm, hs⟩ := hx
  obtain ⟨m', a', n', c', rfl, hm', hs'⟩ := hy
  have HX := Lib.hid hs; have HY := Lib.hid hs'; have HM := Lib.hid hm; have HM' := Lib.hid hm'
  have HBX := Lib.hid (Boxes.made w m a n c m' a' n' c')
  have HL := Lib.hid hl; have HL' := Lib.hid (show wl (-t) ≤ 1000000000000 by rw [wl_neg]; exact hl')
  clear hs hs' hm hm' hl hl'
  go_enter Tryz.func140, Tryz.ntmps140
  go_wp2_with fail
  go_region_held3 (fun w' => Boxes w m a n c m' a' n' c' w' ∧ (w'.cell? ⟨w.heap.size, 0, none⟩ = some (.bool m) ∧ w'.cell? ⟨w.heap.size, 1, none⟩ = some (.slice a n c) ∧ w'.cell? ⟨w.heap.size + 1, 0, none⟩ = some (.bool m') ∧ w'.cell? ⟨w.heap.size + 1, 1, none⟩ = some (.slice a' n' c')))
    (((with_reducible refine Boxes.both ?_); first
      | with_reducible exact HBX.out.drew
      | with_reducible refine Boxes.store (And.left (by assumption)) _ _ _ _
      | with_reducible refine Boxes.keep (And.left (by assumption)) (by assumption)))
    (first
      | (go_at_call 109; refine (neg_any _ _ t ⟨_, _, _, _, rfl, HM'.out, HY.out.below (Boxes.below' (by assumption)) (Nat.le_refl _)⟩).mono ?_; rintro e w2 ⟨v, rfl, hn2, hb2⟩; have HN2 := Lib.hid hn2; clear hn2)
      | (go_at_call 108; refine (sum_any _ _ _ s (-t) ⟨_, _, _, _, rfl, HM.out, HX.out.below (Boxes.below' (by assumption)) (Nat.le_refl _)⟩ HN2.out HL.out HL'.out).mono ?_; rintro e w3 ⟨v, rfl, ⟨m1, a1, n1, c1, rfl, hm1, hs1⟩, hb⟩; have HM1 := Lib.hid hm1; clear hm1; have hk := Boxes.keep (And.left (by assumption)) hb; obtain ⟨p, q, hk0, hk1, hf0, hf1⟩ := hk.res))
  all_goals
    obtain ⟨g1, r0, r1, hst⟩ := hk.stored (r := m1) hs1
    have HG := Lib.hid g1; have HST := Lib.hid hst
    clear g1 hst hs1
    go_wp2
    refine bodyPost_ret (v := .agg #[.bool m1, .slice a1 n1 c1]) (by simp [results, Tryz.results140, go_sem, r0, r1]) rfl ?_
    exact ⟨_, rfl, ⟨_, _, _, _, rfl, by rw [Int.sub_eq_add_neg]; exact HM1.out, by rw [Int.sub_eq_add_neg]; exact HG.out⟩, HST.out⟩
theorem wl_sub (x y : Int) : wl (x - y) ≤ max (wl x) (wl y) + 1 := by
  rw [Int.sub_eq_add_neg]; have := wl_add x (-y); rwa [wl_neg] at this
set_option maxHeartbeats 400000 in
theorem both_sub (w : World) (s t : ByteArray) (x y : Int) (hx : Good s x) (hy : Good t y) (he : Env w) :
    Calls Tryz.prog 94 #[.string s, .string t, .func (.func 140) #[] #[]] w (Rets fun v w' => v = resV (x - y) ∧ Below w.heap.size w w') := by
  have h0 : chks [s, t] = 0 := by rw [chks_pair, hx.chk, hy.chk]; rfl
  have hb0 : Below w.heap.size w (w.alloc (.cells #[.string s, .string t] 27)) := (Below.refl _ w).alloc (Nat.le_refl _) _
  obtain ⟨tt, k, hr, -, -⟩ := resV_cases (x - y)
  have hwl := wl_sub x y
  have HWL := Lib.hid hwl
  have HB0 := Lib.hid hb0; have H0 := Lib.hid h0; have HX := Lib.hid hx; have HY := Lib.hid hy; have HR := Lib.hid hr; have HE := Lib.hid he
  have HSZ := Lib.hid (show ∀ x ∈ [s, t], x.size ≤ 1000000 by intro x h; simp at h; rcases h with rfl | rfl; (have := hx.size; omega); (have := hy.size; omega))
  clear h0 hb0 hx hy hr he hwl
  go_enter Tryz.func94, Tryz.ntmps94
  go_wp2_with (first
    | (go_at_call 88; refine (checked_any _ _ _ (Sl.pair w s t _) HSZ.out (by simp)).mono ?_; rintro e w1 ⟨v, rfl, rfl, hb1⟩; rw [H0.out]; have b1 := HB0.out.trans (hb1.mono (by simp)))
    | (go_at_call_of 89 (Value.string s); refine (read_any _ _ x HX.out.1 (by have := HX.out.size; omega)).mono ?_; rintro e w2 ⟨v, rfl, hn2, hb2⟩; have HN2 := Lib.hid hn2; clear hn2; have b2 := b1.trans (hb2.mono b1.size))
    | (go_at_call_of 89 (Value.string t); refine (read_any _ _ y HY.out.1 (by have := HY.out.size; omega)).mono ?_; rintro e w3 ⟨v, rfl, hn3, hb3⟩; have HN3 := Lib.hid hn3; clear hn3; have b3 := b2.trans (hb3.mono b2.size))
    | (go_at_call 140; refine (sub1_any _ _ _ x y (HN2.out.below hb3 (Nat.le_refl _)) HN3.out (by have := HX.out.wl; omega) (by have := HY.out.wl; omega)).mono ?_; rintro e w5 ⟨v, rfl, hn5, hb5⟩; have HN5 := Lib.hid hn5; clear hn5; have b5 := b3.trans (hb5.mono b3.size))
    | (go_at_call 91; refine (result_any _ _ _ HN5.out (by have := HX.out.wl; have := HY.out.wl; have := HWL.out; omega) (HE.out.below b5 (Nat.le_refl _))).mono ?_; rintro e w6 ⟨v, rfl, rfl, hb6⟩; rw [HR.out]))
  go_ret2
  exact ⟨_, rfl, by rw [HR.out]; rfl, b5.trans (hb6.mono b5.size)⟩
set_option maxHeartbeats 400000 in
theorem Sub_err (w : World) (s t : ByteArray) (hs : s.size ≤ 1000000) (ht : t.size ≤ 1000000) (h : chks [s, t] ≠ 0) :
    Calls Tryz.prog 121 #[.string s, .string t] w (Rets fun v w' => v = .tuple #[.string ⟨#[]⟩, .int .i64 (chks [s, t])] ∧ Below w.heap.size w w') := by
  go_enter Tryz.func121, Tryz.ntmps121
  go_wp2_with (go_at_call 94; refine (both_err _ _ _ _ hs ht h).mono ?_; rintro e w' ⟨v, rfl, rfl, hb⟩)
  go_ret2
  exact ⟨_, rfl, rfl, hb⟩
set_option maxHeartbeats 400000 in
theorem Sub_ok (w : World) (s t : ByteArray) (x y : Int) (hx : Good s x) (hy : Good t y) (he : Env w) :
    Calls Tryz.prog 121 #[.string s, .string t] w (Rets fun v w' => v = resV (x - y) ∧ Below w.heap.size w w') := by
  obtain ⟨tt, k, hr, -, -⟩ := resV_cases (x - y)
  have HR := Lib.hid hr; have HX := Lib.hid hx; have HY := Lib.hid hy; have HE := Lib.hid he
  clear hr hx hy he
  go_enter Tryz.func121, Tryz.ntmps121
  go_wp2_with (go_at_call 94; refine (both_sub _ _ _ x y HX.out HY.out HE.out).mono ?_; rintro e w' ⟨v, rfl, rfl, hb⟩; rw [HR.out])
  go_ret2
  exact ⟨_, rfl, by rw [HR.out]; rfl, hb⟩

end Go.Proofs.YtdpdkojeapaflaaGreatDoor
