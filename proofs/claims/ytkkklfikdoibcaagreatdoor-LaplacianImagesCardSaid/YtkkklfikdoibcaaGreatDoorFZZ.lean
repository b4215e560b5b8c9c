/- The walk of the law LaplacianImages. -/
import Derived.Test.YtkkklfikdoibcaaGreatDoorPk11
import Derived.Test.YtkkklfikdoibcaaGreatDoorPk13
namespace Go.Proofs.YtkkklfikdoibcaaGreatDoor
open Go.RowKit
set_option maxRecDepth 100000

set_option maxHeartbeats 4000000 in
theorem lapImages_any (w : World) (n : Int) (v : Value) (es : List (Int × Int × Int)) (sv : Value) (xs : List Int) (hv : SlK e3 3 w v es) (hs : Sl eZ w sv xs) (he : Env w) :
    Calls Tryz.prog 4 #[.agg #[.int .i64 n, v], sv] w (Rets fun r w' => r = .bool true ∧ Below w.heap.size w w') := by
  obtain ⟨ad, c, rfl⟩ := hv.form
  obtain ⟨sa, sc, rfl⟩ := sl_form hs
  have q0 := (Below.refl w.heap.size w).alloc (Nat.le_refl _) (.cells #[.int .i64 n, .slice ad es.length c] 24)
  have SG := Lib.hid (hv.below q0 (Nat.le_refl _))
  have SS := Lib.hid (hs.below q0 (Nat.le_refl _))
  have HE := Lib.hid (he.below q0 (Nat.le_refl _))
  have BG := Lib.hid (Blk.new w [.int .i64 n, .slice ad es.length c] 24)
  clear hv hs he
  by_cases hf : smallB n es 6 9 = true
  rotate_left
  · have HF := Lib.hid (show smallB n es 6 9 = false by simpa using hf)
    clear hf
    go_enter Tryz.func4, Tryz.ntmps4
    go_wp2_with (first
      | (go_at_call 15; (with_reducible refine (awake15 _ HE.out).mono ?_); rintro e w2 ⟨v, rfl, rfl, h2⟩; have SG := Lib.hid (SG.out.below h2 (Nat.le_refl _)); have SS := Lib.hid (SS.out.below h2 (Nat.le_refl _)); have HE := Lib.hid (HE.out.below h2 (Nat.le_refl _)); have BG := Lib.hid (BG.out.below h2 (Nat.le_refl _)); have c2_BG_0 := BG.out.cell 0 _ rfl; have c2_BG_1 := BG.out.cell 1 _ rfl; have q2 := q1.trans (h2.mono q1.size))
      | (go_at_call 14; (with_reducible refine (rFew_any _ n _ es SG.out).mono ?_); rintro e w1 ⟨v, rfl, rfl, h1⟩; rw [HF.out]; have SG := Lib.hid (SG.out.below h1 (Nat.le_refl _)); have SS := Lib.hid (SS.out.below h1 (Nat.le_refl _)); have HE := Lib.hid (HE.out.below h1 (Nat.le_refl _)); have BG := Lib.hid (BG.out.below h1 (Nat.le_refl _)); have c1_BG_0 := BG.out.cell 0 _ rfl; have c1_BG_1 := BG.out.cell 1 _ rfl; have q1 := q0.trans (h1.mono q0.size)))
    go_ret
    exact ⟨_, rfl, rfl, q2⟩
  have HF := Lib.hid hf
  have hl : es.length ≤ 1000 := by have := few_len hf; omega
  clear hf
  by_cases hx : 100 < xs.length
  · have hx1 : (100 : Int) < (xs.length : Int) := by omega
    go_enter Tryz.func4, Tryz.ntmps4
    go_wp2_with (first
      | (go_at_call 15; (with_reducible refine (awake15 _ HE.out).mono ?_); rintro e w2 ⟨v, rfl, rfl, h2⟩; have SG := Lib.hid (SG.out.below h2 (Nat.le_refl _)); have SS := Lib.hid (SS.out.below h2 (Nat.le_refl _)); have HE := Lib.hid (HE.out.below h2 (Nat.le_refl _)); have BG := Lib.hid (BG.out.below h2 (Nat.le_refl _)); have c2_BG_0 := BG.out.cell 0 _ rfl; have c2_BG_1 := BG.out.cell 1 _ rfl; have q2 := q1.trans (h2.mono q1.size))
      | (go_at_call 14; (with_reducible refine (rFew_any _ n _ es SG.out).mono ?_); rintro e w1 ⟨v, rfl, rfl, h1⟩; rw [HF.out]; have SG := Lib.hid (SG.out.below h1 (Nat.le_refl _)); have SS := Lib.hid (SS.out.below h1 (Nat.le_refl _)); have HE := Lib.hid (HE.out.below h1 (Nat.le_refl _)); have BG := Lib.hid (BG.out.below h1 (Nat.le_refl _)); have c1_BG_0 := BG.out.cell 0 _ rfl; have c1_BG_1 := BG.out.cell 1 _ rfl; have q1 := q0.trans (h1.mono q0.size)))
    go_ret
    exact ⟨_, rfl, rfl, q2⟩
  have hx1 : decide ((100 : Int) < (xs.length : Int)) = false := by simp only [decide_eq_false_iff_not]; omega
  obtain ⟨⟨X, K⟩, hx⟩ : ∃ p, imgS n es xs = p := ⟨_, rfl⟩
  have M := Lib.hid hx
  have EQ := Lib.hid (fun (w1 : World) (v u : Value) (hv : Sl eZ w1 v X) (hu : Sl eZ w1 u X) => show Calls Tryz.prog 23 #[v, u] w1 (Rets fun r w' => r = .bool true ∧ Below w1.heap.size w1 w') from by have := EqualD_any w1 v u X X hv hu; rwa [decide_eq_true rfl] at this)
  clear hx
  go_enter Tryz.func4, Tryz.ntmps4
  go_wp2_with (first
    | (go_at_call 15; (with_reducible refine (awake15 _ HE.out).mono ?_); rintro e w5 ⟨v, rfl, rfl, h5⟩; have SG := Lib.hid (SG.out.below h5 (Nat.le_refl _)); have SS := Lib.hid (SS.out.below h5 (Nat.le_refl _)); have HE := Lib.hid (HE.out.below h5 (Nat.le_refl _)); have TA := Lib.hid (TA.out.below h5 (Nat.le_refl _)); have TB := Lib.hid (TB.out.below h5 (Nat.le_refl _)); have BG := Lib.hid (BG.out.below h5 (Nat.le_refl _)); have c5_BG_0 := BG.out.cell 0 _ rfl; have c5_BG_1 := BG.out.cell 1 _ rfl; have q5 := q4.trans (h5.mono q4.size))
    | (go_at_call 23; (with_reducible refine (EQ.out _ _ _ TA.out TB.out).mono ?_); rintro e w4 ⟨v, rfl, rfl, h4⟩; have SG := Lib.hid (SG.out.below h4 (Nat.le_refl _)); have SS := Lib.hid (SS.out.below h4 (Nat.le_refl _)); have HE := Lib.hid (HE.out.below h4 (Nat.le_refl _)); have TA := Lib.hid (TA.out.below h4 (Nat.le_refl _)); have TB := Lib.hid (TB.out.below h4 (Nat.le_refl _)); have BG := Lib.hid (BG.out.below h4 (Nat.le_refl _)); have c4_BG_0 := BG.out.cell 0 _ rfl; have c4_BG_1 := BG.out.cell 1 _ rfl; have q4 := q3.trans (h4.mono q3.size))
    | (go_at_call 22; (with_reducible refine (retL_of (rImage_any _ n _ _ es xs SG.out SS.out) M.out).mono ?_); rintro e w3 ⟨v, rfl, x3, rfl, s3, h3⟩; obtain ⟨a3, k3, rfl⟩ := sl_form s3; have TB := Lib.hid s3; clear s3; have SG := Lib.hid (SG.out.below h3 (Nat.le_refl _)); have SS := Lib.hid (SS.out.below h3 (Nat.le_refl _)); have HE := Lib.hid (HE.out.below h3 (Nat.le_refl _)); have TA := Lib.hid (TA.out.below h3 (Nat.le_refl _)); have BG := Lib.hid (BG.out.below h3 (Nat.le_refl _)); have c3_BG_0 := BG.out.cell 0 _ rfl; have c3_BG_1 := BG.out.cell 1 _ rfl; have q3 := q2.trans (h3.mono q2.size))
    | (go_at_call 21; (with_reducible refine (retL_of (Image_any _ n _ _ es xs SG.out SS.out hl) M.out).mono ?_); rintro e w2 ⟨v, rfl, x2, rfl, s2, h2⟩; obtain ⟨a2, k2, rfl⟩ := sl_form s2; have TA := Lib.hid s2; clear s2; have SG := Lib.hid (SG.out.below h2 (Nat.le_refl _)); have SS := Lib.hid (SS.out.below h2 (Nat.le_refl _)); have HE := Lib.hid (HE.out.below h2 (Nat.le_refl _)); have BG := Lib.hid (BG.out.below h2 (Nat.le_refl _)); have c2_BG_0 := BG.out.cell 0 _ rfl; have c2_BG_1 := BG.out.cell 1 _ rfl; have q2 := q1.trans (h2.mono q1.size))
    | (go_at_call 14; (with_reducible refine (rFew_any _ n _ es SG.out).mono ?_); rintro e w1 ⟨v, rfl, rfl, h1⟩; rw [HF.out]; have SG := Lib.hid (SG.out.below h1 (Nat.le_refl _)); have SS := Lib.hid (SS.out.below h1 (Nat.le_refl _)); have HE := Lib.hid (HE.out.below h1 (Nat.le_refl _)); have BG := Lib.hid (BG.out.below h1 (Nat.le_refl _)); have c1_BG_0 := BG.out.cell 0 _ rfl; have c1_BG_1 := BG.out.cell 1 _ rfl; have q1 := q0.trans (h1.mono q0.size)))
  go_ret
  exact ⟨_, rfl, rfl, q5⟩
end Go.Proofs.YtkkklfikdoibcaaGreatDoor
