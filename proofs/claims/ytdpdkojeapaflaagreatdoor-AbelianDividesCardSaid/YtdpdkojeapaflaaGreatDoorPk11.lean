/- The walk of the law AbelianChecks. -/
import Derived.Test.YtdpdkojeapaflaaGreatDoorPk10
import Derived.Test.YtdpdkojeapaflaaGreatDoorPk9
namespace Go.Proofs.YtdpdkojeapaflaaGreatDoor
open Go.RowKit
set_option maxRecDepth 100000

theorem bad_dn {a : List ByteArray} (h : bad a = false) : ∀ s ∈ a, ∀ z, Good s z → dn z ≤ 500 := by
  intro s hs z hz
  have h1 : (a.any fun s => !few s) = false := by simp only [bad, Bool.or_eq_false_iff] at h; exact h.2
  have h5 := List.any_eq_false.1 h1 s hs
  have h6 : few s = true := by simpa using h5
  have h4 : (Lib.itoa z).length = s.size := by rw [← hz.1, Lib.size_eq]
  have h2 := digs10_len z.natAbs
  have h3 : (Lib.decDigits z.natAbs).length ≤ (Lib.itoa z).length := by rw [itoa_cases]; split <;> simp
  simp only [few, hz.chk] at h6
  simp at h6
  unfold dn; omega
set_option maxHeartbeats 8000000 in
theorem checks05_any (w : World) (v : Value) (g : List ByteArray) (hv : Sl eS w v g) (u : Value) (l : List ByteArray) (hu : Sl eS w u l) (hsg : ∀ s ∈ g, s.size ≤ 9223372036854775807) (hsl : ∀ s ∈ l, s.size ≤ 9223372036854775807) (he : Env w) :
    Calls Tryz.prog 4 #[v, u] w (Rets fun v w' => v = .bool true ∧ Below w.heap.size w w') := by
  have HV := Lib.hid hv; have HU := Lib.hid hu; have HSG := Lib.hid hsg; have HE := Lib.hid he
  have HSL := Lib.hid (show ∀ xs ∈ [l], ∀ s ∈ xs, s.size ≤ 9223372036854775807 from fun xs hx s hs => by rw [List.mem_singleton.1 hx] at hs; exact hsl s hs)
  have HLst := Lib.hid (fun e => Lst.one w u l hu e)
  have HQ := Lib.hid (fun e => (Below.refl w.heap.size w).alloc (Nat.le_refl _) (.cells #[u] e))
  have q0 := Below.refl w.heap.size w
  obtain ⟨ad, b, o, c, rfl, -, -, -, -⟩ := hv.open elemStr
  obtain ⟨ad', b', o', c', rfl, -, -, -, -⟩ := hu.open elemStr
  clear hsg hsl he hv hu
  cases hf : few05 g
  · have HF := Lib.hid hf
    clear hf
    go_enter Tryz.func4, Tryz.ntmps4
    go_wp2_with (first
      | (go_at_call 16; (with_reducible refine (awake05 _ HE.out).mono ?_); rintro e w2 ⟨v, rfl, rfl, h2⟩; have HV := Lib.hid (HV.out.below h2 (Nat.le_refl _)); have HU := Lib.hid (HU.out.below h2 (Nat.le_refl _)); have HE := Lib.hid (HE.out.below h2 (Nat.le_refl _)); have q2 := q1.trans (h2.mono q1.size))
      | (go_at_call 11; (with_reducible refine (Few05_any _ _ g HV.out HSG.out).mono ?_); rintro e w' ⟨v, rfl, rfl, rfl⟩; rw [HF.out]; have q1 := q0))
    go_ret
    exact ⟨_, rfl, rfl, q2⟩
  · have HF := Lib.hid hf
    cases hb : bad l
    · have HB := Lib.hid (show (!([l].any bad)) = true by simp [hb])
      have HSS := Lib.hid (few05_size hf); have HSB := Lib.hid (bad_size hb); have HDL := Lib.hid (bad_dn hb)
      have HDN := Lib.hid (show gchk g = 0 → ∀ s ∈ g, ∀ z, Good s z → dn z ≤ 500 from fun hg s hs z hz => by have := few05_dn hf (gchk_len hg).1 hs hz; omega)
      clear hf hb
      go_enter Tryz.func4, Tryz.ntmps4
      go_wp2_with (first
        | (go_at_call 16; (with_reducible refine (awake05 _ HE.out).mono ?_); rintro e w15 ⟨v, rfl, rfl, h15⟩; have HV := Lib.hid (HV.out.below h15 (Nat.le_refl _)); have HU := Lib.hid (HU.out.below h15 (Nat.le_refl _)); have HE := Lib.hid (HE.out.below h15 (Nat.le_refl _)); have q15 := q14.trans (h15.mono q14.size))
        | (go_at_call 28; (with_reducible refine (rSame_self _ _ _ _ G1.out G2.out).mono ?_); rintro e w14 ⟨v, rfl, rfl, h14⟩; have HV := Lib.hid (HV.out.below h14 (Nat.le_refl _)); have HU := Lib.hid (HU.out.below h14 (Nat.le_refl _)); have HE := Lib.hid (HE.out.below h14 (Nat.le_refl _)); have q14 := q13.trans (h14.mono q13.size))
        | (go_at_call 28; (with_reducible refine (rSame_self _ _ _ _ F1.out F2.out).mono ?_); rintro e w13 ⟨v, rfl, rfl, h13⟩; have G1 := Lib.hid (G1.out.below h13 (Nat.le_refl _)); have G2 := Lib.hid (G2.out.below h13 (Nat.le_refl _)); have HV := Lib.hid (HV.out.below h13 (Nat.le_refl _)); have HU := Lib.hid (HU.out.below h13 (Nat.le_refl _)); have HE := Lib.hid (HE.out.below h13 (Nat.le_refl _)); have q13 := q12.trans (h13.mono q12.size))
        | (go_at_call 13; (with_reducible refine (rACheck_any _ _ g HV.out HSS.out).mono ?_); rintro e w12 ⟨v, rfl, rfl, h12⟩; have F1 := Lib.hid (F1.out.below h12 (Nat.le_refl _)); have F2 := Lib.hid (F2.out.below h12 (Nat.le_refl _)); have G1 := Lib.hid (G1.out.below h12 (Nat.le_refl _)); have G2 := Lib.hid (G2.out.below h12 (Nat.le_refl _)); have HV := Lib.hid (HV.out.below h12 (Nat.le_refl _)); have HU := Lib.hid (HU.out.below h12 (Nat.le_refl _)); have HE := Lib.hid (HE.out.below h12 (Nat.le_refl _)); have q12 := q11.trans (h12.mono q11.size))
        | (go_at_call 27; (with_reducible refine (ACheck_any _ _ g HV.out HSS.out HE.out).mono ?_); rintro e w11 ⟨v, rfl, rfl, h11⟩; have F1 := Lib.hid (F1.out.below h11 (Nat.le_refl _)); have F2 := Lib.hid (F2.out.below h11 (Nat.le_refl _)); have G1 := Lib.hid (G1.out.below h11 (Nat.le_refl _)); have G2 := Lib.hid (G2.out.below h11 (Nat.le_refl _)); have HV := Lib.hid (HV.out.below h11 (Nat.le_refl _)); have HU := Lib.hid (HU.out.below h11 (Nat.le_refl _)); have HE := Lib.hid (HE.out.below h11 (Nat.le_refl _)); have q11 := q10.trans (h11.mono q10.size))
        | (go_at_call 26; (with_reducible refine (rAElement_any _ _ _ g l HV.out HU.out HSS.out HSB.out HDN.out HDL.out).mono ?_); rintro e w10 ⟨v, rfl, x10, rfl, s10, h10⟩; have G2 := Lib.hid s10; clear s10; have F1 := Lib.hid (F1.out.below h10 (Nat.le_refl _)); have F2 := Lib.hid (F2.out.below h10 (Nat.le_refl _)); have G1 := Lib.hid (G1.out.below h10 (Nat.le_refl _)); have HV := Lib.hid (HV.out.below h10 (Nat.le_refl _)); have HU := Lib.hid (HU.out.below h10 (Nat.le_refl _)); have HE := Lib.hid (HE.out.below h10 (Nat.le_refl _)); have q10 := q9.trans (h10.mono q9.size))
        | (go_at_call 25; (with_reducible refine (AElement_any _ _ _ g l HV.out HU.out HSS.out HSB.out HE.out).mono ?_); rintro e w9 ⟨v, rfl, x9, rfl, s9, h9⟩; have G1 := Lib.hid s9; clear s9; have F1 := Lib.hid (F1.out.below h9 (Nat.le_refl _)); have F2 := Lib.hid (F2.out.below h9 (Nat.le_refl _)); have HV := Lib.hid (HV.out.below h9 (Nat.le_refl _)); have HU := Lib.hid (HU.out.below h9 (Nat.le_refl _)); have HE := Lib.hid (HE.out.below h9 (Nat.le_refl _)); have q9 := q8.trans (h9.mono q8.size))
        | (go_at_call 24; (with_reducible refine (rAExponent_any _ _ g HV.out HSS.out).mono ?_); rintro e w8 ⟨v, rfl, rfl, h8⟩; have F1 := Lib.hid (F1.out.below h8 (Nat.le_refl _)); have F2 := Lib.hid (F2.out.below h8 (Nat.le_refl _)); have HV := Lib.hid (HV.out.below h8 (Nat.le_refl _)); have HU := Lib.hid (HU.out.below h8 (Nat.le_refl _)); have HE := Lib.hid (HE.out.below h8 (Nat.le_refl _)); have q8 := q7.trans (h8.mono q7.size))
        | (go_at_call 23; (with_reducible refine (AExponent_any _ _ g HV.out HSS.out HE.out).mono ?_); rintro e w7 ⟨v, rfl, rfl, h7⟩; have F1 := Lib.hid (F1.out.below h7 (Nat.le_refl _)); have F2 := Lib.hid (F2.out.below h7 (Nat.le_refl _)); have HV := Lib.hid (HV.out.below h7 (Nat.le_refl _)); have HU := Lib.hid (HU.out.below h7 (Nat.le_refl _)); have HE := Lib.hid (HE.out.below h7 (Nat.le_refl _)); have q7 := q6.trans (h7.mono q6.size))
        | (go_at_call 22; (with_reducible refine (rAOrder_any _ _ g HV.out HSS.out HDN.out).mono ?_); rintro e w6 ⟨v, rfl, rfl, h6⟩; have F1 := Lib.hid (F1.out.below h6 (Nat.le_refl _)); have F2 := Lib.hid (F2.out.below h6 (Nat.le_refl _)); have HV := Lib.hid (HV.out.below h6 (Nat.le_refl _)); have HU := Lib.hid (HU.out.below h6 (Nat.le_refl _)); have HE := Lib.hid (HE.out.below h6 (Nat.le_refl _)); have q6 := q5.trans (h6.mono q5.size))
        | (go_at_call 21; (with_reducible refine (AOrder_any _ _ g HV.out HSS.out HE.out).mono ?_); rintro e w5 ⟨v, rfl, rfl, h5⟩; have F1 := Lib.hid (F1.out.below h5 (Nat.le_refl _)); have F2 := Lib.hid (F2.out.below h5 (Nat.le_refl _)); have HV := Lib.hid (HV.out.below h5 (Nat.le_refl _)); have HU := Lib.hid (HU.out.below h5 (Nat.le_refl _)); have HE := Lib.hid (HE.out.below h5 (Nat.le_refl _)); have q5 := q4.trans (h5.mono q4.size))
        | (go_at_call 20; (with_reducible refine (rAOf_any _ _ g HV.out HSS.out).mono ?_); rintro e w4 ⟨v, rfl, x4, rfl, s4, h4⟩; have F2 := Lib.hid s4; clear s4; have F1 := Lib.hid (F1.out.below h4 (Nat.le_refl _)); have HV := Lib.hid (HV.out.below h4 (Nat.le_refl _)); have HU := Lib.hid (HU.out.below h4 (Nat.le_refl _)); have HE := Lib.hid (HE.out.below h4 (Nat.le_refl _)); have q4 := q3.trans (h4.mono q3.size))
        | (go_at_call 19; (with_reducible refine (AOf_any _ _ g HV.out HSS.out HE.out).mono ?_); rintro e w3 ⟨v, rfl, x3, rfl, s3, h3⟩; have F1 := Lib.hid s3; clear s3; have HV := Lib.hid (HV.out.below h3 (Nat.le_refl _)); have HU := Lib.hid (HU.out.below h3 (Nat.le_refl _)); have HE := Lib.hid (HE.out.below h3 (Nat.le_refl _)); have q3 := q2.trans (h3.mono q2.size))
        | (go_at_call 12; (with_reducible refine (fewL _ _ _ [l] (HLst.out _) HSL.out).mono ?_); rintro e w' ⟨v, rfl, rfl, rfl⟩; rw [HB.out]; have h2 := HQ.out 22; have HV := Lib.hid (HV.out.below h2 (Nat.le_refl _)); have HU := Lib.hid (HU.out.below h2 (Nat.le_refl _)); have HE := Lib.hid (HE.out.below h2 (Nat.le_refl _)); have q2 := q1.trans (h2.mono q1.size))
        | (go_at_call 11; (with_reducible refine (Few05_any _ _ g HV.out HSG.out).mono ?_); rintro e w' ⟨v, rfl, rfl, rfl⟩; rw [HF.out]; have q1 := q0))
      go_ret
      exact ⟨_, rfl, rfl, q15⟩
    · have HB := Lib.hid (show (!([l].any bad)) = false by simp [hb])
      clear hf hb
      go_enter Tryz.func4, Tryz.ntmps4
      go_wp2_with (first
        | (go_at_call 16; (with_reducible refine (awake05 _ HE.out).mono ?_); rintro e w3 ⟨v, rfl, rfl, h3⟩; have HV := Lib.hid (HV.out.below h3 (Nat.le_refl _)); have HU := Lib.hid (HU.out.below h3 (Nat.le_refl _)); have HE := Lib.hid (HE.out.below h3 (Nat.le_refl _)); have q3 := q2.trans (h3.mono q2.size))
        | (go_at_call 12; (with_reducible refine (fewL _ _ _ [l] (HLst.out _) HSL.out).mono ?_); rintro e w' ⟨v, rfl, rfl, rfl⟩; rw [HB.out]; have h2 := HQ.out 22; have HV := Lib.hid (HV.out.below h2 (Nat.le_refl _)); have HU := Lib.hid (HU.out.below h2 (Nat.le_refl _)); have HE := Lib.hid (HE.out.below h2 (Nat.le_refl _)); have q2 := q1.trans (h2.mono q1.size))
        | (go_at_call 11; (with_reducible refine (Few05_any _ _ g HV.out HSG.out).mono ?_); rintro e w' ⟨v, rfl, rfl, rfl⟩; rw [HF.out]; have q1 := q0))
      go_ret
      exact ⟨_, rfl, rfl, q3⟩
end Go.Proofs.YtdpdkojeapaflaaGreatDoor
