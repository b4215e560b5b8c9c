/- The walk of the law MatrixRanks. -/
import Derived.Test.YtfhdmhifdaiehaaGreatDoorPk7
import Derived.Test.YtfhdmhifdaiehaaGreatDoorPk12
namespace Go.Proofs.YtfhdmhifdaiehaaGreatDoor
open Go.RowKit
set_option maxRecDepth 100000

set_option maxHeartbeats 4000000 in
theorem ranks03_any (w : World) (R C : Int) (v : Value) (xs : List ByteArray) (hv : Sl eS w v xs) (hsz : ∀ s ∈ xs, s.size ≤ 9223372036854775807) (he : Env w) :
    Calls Tryz.prog 4 #[.agg #[.int .i64 R, .int .i64 C, v]] w (Rets fun v w' => v = .bool true ∧ Below w.heap.size w w') := by
  have HS := Lib.hid hsz
  obtain ⟨ad, cap, rfl⟩ := sl_form hv
  have HB := Lib.hid ((Below.refl w.heap.size w).alloc (Nat.le_refl _) (.cells #[.int .i64 R, .int .i64 C, .slice ad xs.length cap] 24))
  have HV := Lib.hid (hv.below HB.out (Nat.le_refl _))
  have HE := Lib.hid (he.below HB.out (Nat.le_refl _))
  have HK := Lib.hid (Blk.new w [.int .i64 R, .int .i64 C, .slice ad xs.length cap] 24)
  clear hv hsz he
  cases hf : few03 4 R C xs
  · have HF := Lib.hid hf
    clear hf
    go_enter Tryz.func4, Tryz.ntmps4
    go_wp2_with (first
      | (go_at_call 13; (with_reducible refine (awake03 _ HE.out).mono ?_); rintro e w2 ⟨v, rfl, rfl, h2⟩; have HV := Lib.hid (HV.out.below h2 (Nat.le_refl _)); have HE := Lib.hid (HE.out.below h2 (Nat.le_refl _)); have HK := Lib.hid (HK.out.below h2 (Nat.le_refl _)); have c2_HK_0 := HK.out.cell 0 _ rfl; have c2_HK_1 := HK.out.cell 1 _ rfl; have c2_HK_2 := HK.out.cell 2 _ rfl; have q2 := q1.trans (h2.mono q1.size))
      | (go_at_call 12; (with_reducible refine (Few03_any _ 4 R C _ xs HV.out HS.out).mono ?_); rintro e w1 ⟨v, rfl, rfl, h1⟩; rw [HF.out]; have HV := Lib.hid (HV.out.below h1 (Nat.le_refl _)); have HE := Lib.hid (HE.out.below h1 (Nat.le_refl _)); have HK := Lib.hid (HK.out.below h1 (Nat.le_refl _)); have c1_HK_0 := HK.out.cell 0 _ rfl; have c1_HK_1 := HK.out.cell 1 _ rfl; have c1_HK_2 := HK.out.cell 2 _ rfl; have q1 := HB.out.trans (h1.mono HB.out.size)))
    go_ret
    exact ⟨_, rfl, rfl, q2⟩
  · have HF := Lib.hid hf
    obtain ⟨h9, hm⟩ := few03_rm hf
    have H9 := Lib.hid h9; have HM := Lib.hid hm
    clear hf h9 hm
    go_enter Tryz.func4, Tryz.ntmps4
    go_wp2_with (first
      | (go_at_call 13; (with_reducible refine (awake03 _ HE.out).mono ?_); rintro e w4 ⟨v, rfl, rfl, h4⟩; have HV := Lib.hid (HV.out.below h4 (Nat.le_refl _)); have HE := Lib.hid (HE.out.below h4 (Nat.le_refl _)); have HK := Lib.hid (HK.out.below h4 (Nat.le_refl _)); have c4_HK_0 := HK.out.cell 0 _ rfl; have c4_HK_1 := HK.out.cell 1 _ rfl; have c4_HK_2 := HK.out.cell 2 _ rfl; have q4 := q3.trans (h4.mono q3.size))
      | (go_at_call 17; (with_reducible refine (rRank_any _ R C _ xs HV.out (H9.out.mono (by omega)) (fun h => by have := HM.out h; omega)).mono ?_); rintro e w3 ⟨v, rfl, rfl, h3⟩; have HV := Lib.hid (HV.out.below h3 (Nat.le_refl _)); have HE := Lib.hid (HE.out.below h3 (Nat.le_refl _)); have HK := Lib.hid (HK.out.below h3 (Nat.le_refl _)); have c3_HK_0 := HK.out.cell 0 _ rfl; have c3_HK_1 := HK.out.cell 1 _ rfl; have c3_HK_2 := HK.out.cell 2 _ rfl; have q3 := q2.trans (h3.mono q2.size))
      | (go_at_call 16; (with_reducible refine (Rank_any _ R C _ xs HV.out (H9.out.mono (by omega)) (fun h => by have := HM.out h; omega) HE.out).mono ?_); rintro e w2 ⟨v, rfl, rfl, h2⟩; have HV := Lib.hid (HV.out.below h2 (Nat.le_refl _)); have HE := Lib.hid (HE.out.below h2 (Nat.le_refl _)); have HK := Lib.hid (HK.out.below h2 (Nat.le_refl _)); have c2_HK_0 := HK.out.cell 0 _ rfl; have c2_HK_1 := HK.out.cell 1 _ rfl; have c2_HK_2 := HK.out.cell 2 _ rfl; have q2 := q1.trans (h2.mono q1.size))
      | (go_at_call 12; (with_reducible refine (Few03_any _ 4 R C _ xs HV.out HS.out).mono ?_); rintro e w1 ⟨v, rfl, rfl, h1⟩; rw [HF.out]; have HV := Lib.hid (HV.out.below h1 (Nat.le_refl _)); have HE := Lib.hid (HE.out.below h1 (Nat.le_refl _)); have HK := Lib.hid (HK.out.below h1 (Nat.le_refl _)); have c1_HK_0 := HK.out.cell 0 _ rfl; have c1_HK_1 := HK.out.cell 1 _ rfl; have c1_HK_2 := HK.out.cell 2 _ rfl; have q1 := HB.out.trans (h1.mono HB.out.size)))
    go_ret
    exact ⟨_, rfl, rfl, q4⟩
end Go.Proofs.YtfhdmhifdaiehaaGreatDoor
