/- The walks of the reference's sums, products and orders of integers. The walks of the reference's differences, products, orders of integers, and of its bounded answers. -/
import Derived.Test.YtcjcknncajinpaaGreatDoorR6
namespace Go.Proofs.YtcjcknncajinpaaGreatDoor
open Go.RowKit
set_option maxRecDepth 100000

/-- How many digits an integer has, none for 0. -/
def dn (z : Int) : Nat := (digs 10 z.natAbs).length
theorem itoa_len (z : Int) : (Lib.itoa z).length ≤ dn z + 2 := by
  have h : (Lib.decDigits z.natAbs).length ≤ dn z + 1 := by
    unfold dn
    rcases Nat.eq_zero_or_pos z.natAbs with h | h
    · rw [h, digs_zero, Lib.decDigits_one (by omega)]; simp
    · rw [digs10_len_eq _ h]; omega
  rw [itoa_cases]; split
  · rw [List.length_cons]; omega
  · omega
theorem dn_neg (z : Int) : dn (-z) = dn z := by unfold dn; rw [Int.natAbs_neg]
theorem dn_add (x y : Int) : dn (x + y) ≤ max (dn x) (dn y) + 1 := by
  unfold dn
  exact Nat.le_trans (digs_len_mono _ (by omega) (Int.natAbs_add_le x y)) (digs_len_add _ _ _ (by omega))
theorem dn_sub (x y : Int) : dn (x - y) ≤ max (dn x) (dn y) + 1 := by rw [Int.sub_eq_add_neg]; have := dn_add x (-y); rwa [dn_neg] at this
theorem dn_mul (x y : Int) : dn (x * y) ≤ dn x + dn y := by unfold dn; rw [Int.natAbs_mul]; exact digs_len_mul _ _ _ (by omega)
theorem Good.dn {s : ByteArray} {z : Int} (h : Good s z) : dn z ≤ 1024 := Nat.le_trans (digs10_len _) h.dec

theorem sg_self (z : Int) : sg (decide (z < 0)) z.natAbs = z := by by_cases h : z < 0 <;> simp [sg, h] <;> omega
theorem sg_not (z : Int) : sg (!decide (z < 0)) z.natAbs = -z := by by_cases h : z < 0 <;> simp [sg, h] <;> omega
set_option maxHeartbeats 400000 in
theorem Turned_any (w : World) (z : Int) (hz : dn z ≤ 100000) :
    Calls Tryz.prog 22 #[.string (txt z)] w (Rets fun v w' => v = .string (txt (-z)) ∧ Below w.heap.size w w') := by
  have hl := itoa_len z
  have HL := Lib.hid hl; have HZ := Lib.hid hz
  have HS := Lib.hid (sg_not z)
  clear hl hz
  go_enter Tryz.func22, Tryz.ntmps22
  go_wp2_with (first
    | (go_at_call 54; (with_reducible refine (digits_any _ z (by have := HL.out; have := HZ.out; omega)).mono ?_); rintro e w1 ⟨v, rfl, hs1, hb1⟩; have HS1 := Lib.hid hs1; clear hs1)
    | (go_at_call 55; (with_reducible refine (Minus_any _ z).mono ?_); rintro e w2 ⟨v, rfl, rfl, rfl⟩)
    | (go_at_call 53; (with_reducible refine (rtext_any _ _ z.natAbs (!decide (z < 0)) HS1.out (by have := HZ.out; unfold dn at this; omega)).mono ?_); rintro e w3 ⟨v, rfl, rfl, hb3⟩; rw [HS.out]))
  go_ret
  exact ⟨_, rfl, rfl, hb1.trans (hb3.mono hb1.size)⟩

theorem below4 {w w1 w2 w3 w4 w5 : World} (h1 : Below w.heap.size w w1) (h2 : Below w1.heap.size w1 w2) (h3 : Below w2.heap.size w2 w3) (h4 : Below w3.heap.size w3 w4) (h5 : Below w4.heap.size w4 w5) : Below w.heap.size w w5 :=
  have s1 := h1.size
  have s2 := Nat.le_trans s1 h2.size
  have s3 := Nat.le_trans s2 h3.size
  have s4 := Nat.le_trans s3 h4.size
  (((h1.trans (h2.mono s1)).trans (h3.mono s2)).trans (h4.mono s3)).trans (h5.mono s4)
set_option maxHeartbeats 1000000 in
theorem Plus_any (w : World) (x y : Int) (hx : dn x ≤ 100000) (hy : dn y ≤ 100000) :
    Calls Tryz.prog 51 #[.string (txt x), .string (txt y)] w (Rets fun v w' => v = .string (txt (x + y)) ∧ Below w.heap.size w w') := by
  have hl := itoa_len x
  have hl' := itoa_len y
  have HL := Lib.hid hl; have HL' := Lib.hid hl'; have HX := Lib.hid hx; have HY := Lib.hid hy
  clear hl hl' hx hy
  by_cases hs : decide (x < 0) = decide (y < 0)
  · have HS := Lib.hid (natCmp x y hs)
    obtain ⟨m, hm⟩ : ∃ m, decide (x < 0) = m := ⟨_, rfl⟩
    have hm' : decide (y < 0) = m := by rw [← hs, hm]
    have HM := Lib.hid hm; have HM' := Lib.hid hm'
    have HS2 : Hid (sg m (x.natAbs + y.natAbs) = x + y) := Lib.hid (by rw [← hm]; exact HS.out)
    have hmm : (m == m) = true := by simp
    clear hs hm hm'
    go_enter Tryz.func51, Tryz.ntmps51
    go_wp2_with (first
      | (go_at_call_of 54 (Value.string (txt x)); (with_reducible refine (digits_any _ x (by have := HL.out; have := HX.out; omega)).mono ?_); rintro e w1 ⟨v1, rfl, hs1, hb1⟩; have HS1 := Lib.hid hs1; clear hs1)
      | (go_at_call_of 54 (Value.string (txt y)); (with_reducible refine (digits_any _ y (by have := HL'.out; have := HY.out; omega)).mono ?_); rintro e w2 ⟨v2, rfl, hs2, hb2⟩; have HS2' := Lib.hid hs2; clear hs2)
      | (go_at_call_of 55 (Value.string (txt x)); (with_reducible refine (Minus_any _ x).mono ?_); rintro e w3 ⟨v, rfl, rfl, rfl⟩; rw [HM.out])
      | (go_at_call_of 55 (Value.string (txt y)); (with_reducible refine (Minus_any _ y).mono ?_); rintro e w3 ⟨v, rfl, rfl, rfl⟩; rw [HM'.out])
      | (go_at_call 72; (with_reducible refine (added_any _ _ _ x.natAbs y.natAbs (HS1.out.below hb2 (Nat.le_refl _)) HS2'.out (by have := HX.out; unfold dn at this; omega) (by have := HY.out; unfold dn at this; omega)).mono ?_); rintro e w4 ⟨v4, rfl, hs4, hb4⟩; have HS4 := Lib.hid hs4; clear hs4)
      | (go_at_call 53; (with_reducible refine (rtext_any _ _ (x.natAbs + y.natAbs) m HS4.out (by have h1 := HX.out; have h2 := HY.out; have := digs_len_add 10 x.natAbs y.natAbs (by omega); unfold dn at h1 h2; omega)).mono ?_); rintro e w5 ⟨v, rfl, rfl, hb5⟩; rw [HS2.out]))
    go_ret
    exact ⟨_, rfl, rfl, ((hb1.trans (hb2.mono hb1.size)).trans (hb4.mono (Nat.le_trans hb1.size hb2.size))).trans (hb5.mono (Nat.le_trans (Nat.le_trans hb1.size hb2.size) hb4.size))⟩
  · obtain ⟨m, hm⟩ : ∃ m, decide (x < 0) = m := ⟨_, rfl⟩
    have hm' : decide (y < 0) = !m := by rw [← hm]; cases h1 : decide (x < 0) <;> cases h2 : decide (y < 0) <;> simp_all
    have HM := Lib.hid hm; have HM' := Lib.hid hm'
    have hmm : (m == !m) = false := by cases m <;> rfl
    by_cases hlt : x.natAbs < y.natAbs
    · have HS2 : Hid (sg (!m) (y.natAbs - x.natAbs) = x + y) := Lib.hid (by rw [← hm']; exact natCmp3 x y hs (by omega))
      have ho : ((x.natAbs : Int) - (y.natAbs : Int)).sign = -1 := order_lt hlt
      have HO := Lib.hid ho; have HLT := Lib.hid hlt
      clear hs hm hm' ho hlt
      go_enter Tryz.func51, Tryz.ntmps51
      go_wp2_with (first
        | (go_at_call_of 54 (Value.string (txt x)); (with_reducible refine (digits_any _ x (by have := HL.out; have := HX.out; omega)).mono ?_); rintro e w1 ⟨v1, rfl, hs1, hb1⟩; have HS1 := Lib.hid hs1; clear hs1)
        | (go_at_call_of 54 (Value.string (txt y)); (with_reducible refine (digits_any _ y (by have := HL'.out; have := HY.out; omega)).mono ?_); rintro e w2 ⟨v2, rfl, hs2, hb2⟩; have HS2' := Lib.hid hs2; clear hs2)
        | (go_at_call_of 55 (Value.string (txt x)); (with_reducible refine (Minus_any _ x).mono ?_); rintro e w3 ⟨v, rfl, rfl, rfl⟩; rw [HM.out])
        | (go_at_call_of 55 (Value.string (txt y)); (with_reducible refine (Minus_any _ y).mono ?_); rintro e w3 ⟨v, rfl, rfl, rfl⟩; rw [HM'.out])
        | (go_at_call 73; (with_reducible refine (rorder_any _ _ _ x.natAbs y.natAbs (HS1.out.below hb2 (Nat.le_refl _)) HS2'.out (by have := HX.out; unfold dn at this; omega)).mono ?_); rintro e w4 ⟨v, rfl, rfl, hb4⟩; rw [HO.out])
        | (go_at_call 74; (with_reducible refine (taken_any _ _ _ y.natAbs x.natAbs (HS2'.out.below hb4 (Nat.le_refl _)) ((HS1.out.below hb2 (Nat.le_refl _)).below hb4 (Nat.le_refl _)) (by have := HY.out; unfold dn at this; omega) (by have := HLT.out; omega)).mono ?_); rintro e w5 ⟨v5, rfl, hs5, hb5⟩; have HS5 := Lib.hid hs5; clear hs5)
        | (go_at_call 53; (with_reducible refine (rtext_any _ _ (y.natAbs - x.natAbs) (!m) HS5.out (by have h1 := HY.out; have := digs_len_mono 10 (by omega) (Nat.sub_le y.natAbs x.natAbs); unfold dn at h1; omega)).mono ?_); rintro e w6 ⟨v, rfl, rfl, hb6⟩; rw [HS2.out]))
      go_ret
      exact ⟨_, rfl, rfl, below4 hb1 hb2 hb4 hb5 hb6⟩
    · have HS2 : Hid (sg m (x.natAbs - y.natAbs) = x + y) := Lib.hid (by rw [← hm]; exact natCmp2 x y hs (by omega))
      have ho : ¬ ((x.natAbs : Int) - (y.natAbs : Int)).sign < 0 := by
        rcases Nat.lt_or_ge y.natAbs x.natAbs with h | h
        · rw [order_gt h]; omega
        · rw [order_eq (by omega)]; omega
      obtain ⟨r, hr⟩ : ∃ r, ((x.natAbs : Int) - (y.natAbs : Int)).sign = r := ⟨_, rfl⟩
      rw [hr] at ho
      have HO := Lib.hid hr; have HLT := Lib.hid hlt
      clear hs hm hm' hr hlt
      go_enter Tryz.func51, Tryz.ntmps51
      go_wp2_with (first
        | (go_at_call_of 54 (Value.string (txt x)); (with_reducible refine (digits_any _ x (by have := HL.out; have := HX.out; omega)).mono ?_); rintro e w1 ⟨v1, rfl, hs1, hb1⟩; have HS1 := Lib.hid hs1; clear hs1)
        | (go_at_call_of 54 (Value.string (txt y)); (with_reducible refine (digits_any _ y (by have := HL'.out; have := HY.out; omega)).mono ?_); rintro e w2 ⟨v2, rfl, hs2, hb2⟩; have HS2' := Lib.hid hs2; clear hs2)
        | (go_at_call_of 55 (Value.string (txt x)); (with_reducible refine (Minus_any _ x).mono ?_); rintro e w3 ⟨v, rfl, rfl, rfl⟩; rw [HM.out])
        | (go_at_call_of 55 (Value.string (txt y)); (with_reducible refine (Minus_any _ y).mono ?_); rintro e w3 ⟨v, rfl, rfl, rfl⟩; rw [HM'.out])
        | (go_at_call 73; (with_reducible refine (rorder_any _ _ _ x.natAbs y.natAbs (HS1.out.below hb2 (Nat.le_refl _)) HS2'.out (by have := HX.out; unfold dn at this; omega)).mono ?_); rintro e w4 ⟨v, rfl, rfl, hb4⟩; rw [HO.out])
        | (go_at_call 74; (with_reducible refine (taken_any _ _ _ x.natAbs y.natAbs ((HS1.out.below hb2 (Nat.le_refl _)).below hb4 (Nat.le_refl _)) (HS2'.out.below hb4 (Nat.le_refl _)) (by have := HX.out; unfold dn at this; omega) (by have := HLT.out; omega)).mono ?_); rintro e w5 ⟨v5, rfl, hs5, hb5⟩; have HS5 := Lib.hid hs5; clear hs5)
        | (go_at_call 53; (with_reducible refine (rtext_any _ _ (x.natAbs - y.natAbs) m HS5.out (by have h1 := HX.out; have := digs_len_mono 10 (by omega) (Nat.sub_le x.natAbs y.natAbs); unfold dn at h1; omega)).mono ?_); rintro e w6 ⟨v, rfl, rfl, hb6⟩; rw [HS2.out]))
      go_ret
      exact ⟨_, rfl, rfl, below4 hb1 hb2 hb4 hb5 hb6⟩
end Go.Proofs.YtcjcknncajinpaaGreatDoor
namespace Go.Proofs.YtcjcknncajinpaaGreatDoor
open Go.RowKit
set_option maxRecDepth 100000

set_option maxHeartbeats 400000 in
theorem Less_any (w : World) (x y : Int) (hx : dn x ≤ 100000) (hy : dn y ≤ 100000) :
    Calls Tryz.prog 48 #[.string (txt x), .string (txt y)] w (Rets fun v w' => v = .string (txt (x - y)) ∧ Below w.heap.size w w') := by
  have HX := Lib.hid hx; have HY := Lib.hid hy
  have HE := Lib.hid (Int.sub_eq_add_neg (a := x) (b := y)).symm
  clear hx hy
  go_enter Tryz.func48, Tryz.ntmps48
  go_wp2_with (first
    | (go_at_call 22; (with_reducible refine (Turned_any _ y HY.out).mono ?_); rintro e w1 ⟨v, rfl, rfl, hb1⟩)
    | (go_at_call 51; (with_reducible refine (Plus_any _ x (-y) HX.out (by rw [dn_neg]; exact HY.out)).mono ?_); rintro e w2 ⟨v, rfl, rfl, hb2⟩; rw [HE.out]))
  go_ret
  exact ⟨_, rfl, rfl, hb1.trans (hb2.mono hb1.size)⟩

set_option maxHeartbeats 1000000 in
theorem Times_any (w : World) (x y : Int) (hx : dn x ≤ 100000) (hy : dn y ≤ 100000) :
    Calls Tryz.prog 49 #[.string (txt x), .string (txt y)] w (Rets fun v w' => v = .string (txt (x * y)) ∧ Below w.heap.size w w') := by
  have hl := itoa_len x
  have hl' := itoa_len y
  have HL1 := Lib.hid hl; have HL2 := Lib.hid hl'; have HX1 := Lib.hid hx; have HX2 := Lib.hid hy
  clear hl hl' hx hy
  have hsg := sg_mul x y
  obtain ⟨m, hm⟩ : ∃ m, decide (x < 0) = m := ⟨_, rfl⟩
  obtain ⟨m', hm'⟩ : ∃ m, decide (y < 0) = m := ⟨_, rfl⟩
  rw [hm, hm'] at hsg
  have HM := Lib.hid hm; have HM' := Lib.hid hm'
  have HS : Hid (sg (!(m == m')) (x.natAbs * y.natAbs) = x * y) := Lib.hid hsg
  clear hm hm' hsg
  go_enter Tryz.func49, Tryz.ntmps49
  go_wp2_with (first
    | (go_at_call_of 54 (Value.string (txt x)); (with_reducible refine (digits_any _ x (by have := HL1.out; have := HX1.out; omega)).mono ?_); rintro e w1 ⟨v1, rfl, hs1, hb1⟩; have HS1 := Lib.hid hs1; clear hs1)
    | (go_at_call_of 54 (Value.string (txt y)); (with_reducible refine (digits_any _ y (by have := HL2.out; have := HX2.out; omega)).mono ?_); rintro e w2 ⟨v2, rfl, hs2, hb2⟩; have HS2 := Lib.hid hs2; clear hs2)
    | (go_at_call 71; (with_reducible refine (multiplied_any _ _ _ x.natAbs y.natAbs (HS1.out.below hb2 (Nat.le_refl _)) HS2.out (by have := HX1.out; unfold dn at this; omega) (by have := HX2.out; unfold dn at this; omega)).mono ?_); rintro e w4 ⟨v4, rfl, hs4, hb4⟩; have HS4 := Lib.hid hs4; clear hs4)
    | (go_at_call_of 55 (Value.string (txt x)); (with_reducible refine (Minus_any _ x).mono ?_); rintro e w3 ⟨v, rfl, rfl, rfl⟩; rw [HM.out])
    | (go_at_call_of 55 (Value.string (txt y)); (with_reducible refine (Minus_any _ y).mono ?_); rintro e w3 ⟨v, rfl, rfl, rfl⟩; rw [HM'.out])
    | (go_at_call 53; refine (rtext_any _ _ (x.natAbs * y.natAbs) (!(m == m')) HS4.out (by have h1 := HX1.out; have h2 := HX2.out; have := digs_len_mul 10 x.natAbs y.natAbs (by omega); unfold dn at h1 h2; omega)).mono ?_; rintro e w5 ⟨v, rfl, rfl, hb5⟩; rw [HS.out]))
  go_ret
  exact ⟨_, rfl, rfl, ((hb1.trans (hb2.mono hb1.size)).trans (hb4.mono (Nat.le_trans hb1.size hb2.size))).trans (hb5.mono (Nat.le_trans (Nat.le_trans hb1.size hb2.size) hb4.size))⟩

theorem itoa0 : Lib.itoa 0 = [48] := by rw [itoa_cases, if_neg (by omega), show Int.natAbs 0 = 0 from rfl, Lib.decDigits_one (by omega)]; rfl
theorem txt0 : txt 0 = ⟨#[48]⟩ := by unfold txt; rw [itoa0]
theorem txt_list (z : Int) : (txt z).toList = Lib.itoa z := by rw [ByteArray.toList_eq]; rfl
theorem txt_ne0 {z : Int} (h : z ≠ 0) : ((txt z).toList == [48]) = false := by
  rw [txt_list, ← itoa0]; simp only [beq_eq_false_iff_ne]; exact fun e => h (itoa_inj e)
set_option maxHeartbeats 400000 in
theorem Order_any (w : World) (x y : Int) (hx : dn x ≤ 90000) (hy : dn y ≤ 90000) :
    Calls Tryz.prog 47 #[.string (txt x), .string (txt y)] w (Rets fun v w' => v = .int .i64 (x - y).sign ∧ Below w.heap.size w w') := by
  have HX := Lib.hid hx; have HY := Lib.hid hy
  clear hx hy
  obtain ⟨z, hz⟩ : ∃ z, x - y = z := ⟨_, rfl⟩
  rw [hz]
  have HZ := Lib.hid hz
  clear hz
  by_cases h0 : z = 0
  · subst h0
    have HT := Lib.hid txt0
    go_enter Tryz.func47, Tryz.ntmps47
    go_wp2_with (first
      | (go_at_call 48; (with_reducible refine (Less_any _ x y (by have := HX.out; omega) (by have := HY.out; omega)).mono ?_); rintro e w1 ⟨v, rfl, rfl, hb1⟩; rw [HZ.out, HT.out]))
    go_ret
    exact ⟨_, rfl, rfl, hb1⟩
  · have hne := txt_ne0 h0
    rcases Int.lt_or_gt_of_ne h0 with h | h
    · have hd : decide (z < 0) = true := by simp [h]
      have HD := Lib.hid hd; have HS := Lib.hid (Int.sign_eq_neg_one_of_neg h)
      clear h0 h hd
      go_enter Tryz.func47, Tryz.ntmps47
      go_wp2_with (first
        | (go_at_call 48; (with_reducible refine (Less_any _ x y (by have := HX.out; omega) (by have := HY.out; omega)).mono ?_); rintro e w1 ⟨v, rfl, rfl, hb1⟩; rw [HZ.out])
        | (go_at_call 55; (with_reducible refine (Minus_any _ z).mono ?_); rintro e w3 ⟨v, rfl, rfl, rfl⟩; rw [HD.out]))
      go_ret
      exact ⟨_, rfl, by rw [HS.out]; rfl, hb1⟩
    · have hd : decide (z < 0) = false := by simp; omega
      have HD := Lib.hid hd; have HS := Lib.hid (Int.sign_eq_one_of_pos h)
      clear h0 h hd
      go_enter Tryz.func47, Tryz.ntmps47
      go_wp2_with (first
        | (go_at_call 48; (with_reducible refine (Less_any _ x y (by have := HX.out; omega) (by have := HY.out; omega)).mono ?_); rintro e w1 ⟨v, rfl, rfl, hb1⟩; rw [HZ.out])
        | (go_at_call 55; (with_reducible refine (Minus_any _ z).mono ?_); rintro e w3 ⟨v, rfl, rfl, rfl⟩; rw [HD.out]))
      go_ret
      exact ⟨_, rfl, by rw [HS.out]; rfl, hb1⟩

set_option maxHeartbeats 400000 in
theorem Bounded_any (w : World) (z : Int) (hz : dn z ≤ 900000) :
    Calls Tryz.prog 50 #[.string (txt z)] w (Rets fun v w' => v = resV z ∧ Below w.heap.size w w') := by
  have hl := itoa_len z
  have HL := Lib.hid hl; have HZ := Lib.hid hz
  have hbig := big_digs z
  clear hl hz
  by_cases h : 1024 < (digs 10 z.natAbs).length
  · have hr : resV z = .tuple #[.string ⟨#[]⟩, .int .i64 11] := by unfold resV; rw [hbig, decide_eq_true h]; rfl
    have HR := Lib.hid hr; have HB := Lib.hid h
    clear hbig hr h
    go_enter Tryz.func50, Tryz.ntmps50
    go_wp2_with (go_at_call 54; (with_reducible refine (digits_any _ z (by have := HL.out; have := HZ.out; omega)).mono ?_); rintro e w1 ⟨v1, rfl, hs1, hb1⟩; obtain ⟨a1, b1, o1, c1, rfl, -, -, -, -⟩ := hs1.open elemInt; have hlen := HB.out; clear hs1)
    go_ret2
    exact ⟨_, rfl, by rw [HR.out]; rfl, hb1⟩
  · have hr : resV z = .tuple #[.string (txt z), .int .i64 0] := by unfold resV; rw [hbig, decide_eq_false h]; rfl
    have HR := Lib.hid hr; have HB := Lib.hid h
    clear hbig hr h
    go_enter Tryz.func50, Tryz.ntmps50
    go_wp2_with (go_at_call 54; (with_reducible refine (digits_any _ z (by have := HL.out; have := HZ.out; omega)).mono ?_); rintro e w1 ⟨v1, rfl, hs1, hb1⟩; obtain ⟨a1, b1, o1, c1, rfl, -, -, -, -⟩ := hs1.open elemInt; have hlen := HB.out; clear hs1)
    go_ret2
    exact ⟨_, rfl, by rw [HR.out]; rfl, hb1⟩

set_option maxHeartbeats 400000 in
theorem rchecked_any (w : World) (s t : ByteArray) (hs : s.size ≤ 1000000) (ht : t.size ≤ 1000000) :
    Calls Tryz.prog 31 #[.string s, .string t] w (Rets fun v w' => v = .int .i64 (chks [s, t]) ∧ w = w') := by
  have hp := chks_pair s t
  by_cases h : chk s.data.toList = 0
  · have hne : (chk s.data.toList != 0) = false := by simp [h]
    rw [if_pos h] at hp
    have HP := Lib.hid hp
    clear h hp
    go_enter Tryz.func31, Tryz.ntmps31
    go_wp2_with (first
      | (go_at_call_of 21 (Value.string s); (with_reducible refine (rCheck_any _ s hs).mono ?_); rintro e w1 ⟨v, rfl, rfl, rfl⟩)
      | (go_at_call_of 21 (Value.string t); (with_reducible refine (rCheck_any _ t ht).mono ?_); rintro e w1 ⟨v, rfl, rfl, rfl⟩))
    go_ret
    exact ⟨_, rfl, by rw [HP.out]; rfl, rfl⟩
  · have hne : (chk s.data.toList != 0) = true := by simp [h]
    rw [if_neg h] at hp
    have HP := Lib.hid hp
    clear h hp
    go_enter Tryz.func31, Tryz.ntmps31
    go_wp2_with (go_at_call 21; (with_reducible refine (rCheck_any _ s hs).mono ?_); rintro e w1 ⟨v, rfl, rfl, rfl⟩)
    go_ret
    exact ⟨_, rfl, by rw [HP.out]; rfl, rfl⟩

set_option maxHeartbeats 400000 in
theorem rCompare_err (w : World) (s t : ByteArray) (hs : s.size ≤ 1000000) (ht : t.size ≤ 1000000) (h : chks [s, t] ≠ 0) :
    Calls Tryz.prog 18 #[.string s, .string t] w (Rets fun v w' => v = .tuple #[.int .i64 0, .int .i64 (chks [s, t])] ∧ Below w.heap.size w w') := by
  have hne : (chks [s, t] != 0) = true := by simp [h]
  clear h
  go_enter Tryz.func18, Tryz.ntmps18
  go_wp2_with (go_at_call 31; (with_reducible refine (rchecked_any _ s t hs ht).mono ?_); rintro e w1 ⟨v, rfl, rfl, rfl⟩)
  go_ret2
  exact ⟨_, rfl, rfl, Below.refl _ _⟩

set_option maxHeartbeats 400000 in
theorem rCompare_ok (w : World) (s t : ByteArray) (x y : Int) (hx : Good s x) (hy : Good t y) :
    Calls Tryz.prog 18 #[.string s, .string t] w (Rets fun v w' => v = .tuple #[.int .i64 (x - y).sign, .int .i64 0] ∧ Below w.heap.size w w') := by
  have h0 : chks [s, t] = 0 := by rw [chks_pair, hx.chk, hy.chk]; rfl
  obtain rfl := hx.eq
  obtain rfl := hy.eq
  have HX := Lib.hid hx; have HY := Lib.hid hy; have H0 := Lib.hid h0
  clear hx hy h0
  go_enter Tryz.func18, Tryz.ntmps18
  go_wp2_with (first
    | (go_at_call 31; (with_reducible refine (rchecked_any _ _ _ (by have := HX.out.size; omega) (by have := HY.out.size; omega)).mono ?_); rintro e w1 ⟨v, rfl, rfl, rfl⟩; rw [H0.out])
    | (go_at_call 47; (with_reducible refine (Order_any _ x y (by have := HX.out.dn; omega) (by have := HY.out.dn; omega)).mono ?_); rintro e w2 ⟨v, rfl, rfl, hb2⟩))
  go_ret2
  exact ⟨_, rfl, rfl, hb2⟩
end Go.Proofs.YtcjcknncajinpaaGreatDoor
