/- The walk of the law LaplacianCounts. -/
import Derived.Test.YtkkklfikdoibcaaGreatDoorPk11
import Derived.Test.YtkkklfikdoibcaaGreatDoorPk15
namespace Go.Proofs.YtkkklfikdoibcaaGreatDoor
open Go.RowKit
set_option maxRecDepth 100000

set_option maxHeartbeats 4000000 in
theorem lapCounts_any (w : World) (n : Int) (v : Value) (es : List (Int × Int × Int)) (x : Int) (hv : SlK e3 3 w v es) (he : Env w) :
    Calls Tryz.prog 5 #[.agg #[.int .i64 n, v], .int .i64 x] w (Rets fun r w' => r = .bool true ∧ Below w.heap.size w w') := by
  obtain ⟨ad, c, rfl⟩ := hv.form
  have q0 := (Below.refl w.heap.size w).alloc (Nat.le_refl _) (.cells #[.int .i64 n, .slice ad es.length c] 24)
  have SG := Lib.hid (hv.below q0 (Nat.le_refl _))
  have HE := Lib.hid (he.below q0 (Nat.le_refl _))
  have BG := Lib.hid (Blk.new w [.int .i64 n, .slice ad es.length c] 24)
  clear hv he
  by_cases hf : smallB n es 6 9 = true
  rotate_left
  · have HF := Lib.hid (show smallB n es 6 9 = false by simpa using hf)
    clear hf
    go_enter Tryz.func5, Tryz.ntmps5
    go_wp2_with (first
      | (go_at_call 15; (with_reducible refine (awake15 _ HE.out).mono ?_); rintro e w2 ⟨v, rfl, rfl, h2⟩; have SG := Lib.hid (SG.out.below h2 (Nat.le_refl _)); have HE := Lib.hid (HE.out.below h2 (Nat.le_refl _)); have BG := Lib.hid (BG.out.below h2 (Nat.le_refl _)); have c2_BG_0 := BG.out.cell 0 _ rfl; have c2_BG_1 := BG.out.cell 1 _ rfl; have q2 := q1.trans (h2.mono q1.size))
      | (go_at_call 14; (with_reducible refine (rFew_any _ n _ es SG.out).mono ?_); rintro e w1 ⟨v, rfl, rfl, h1⟩; rw [HF.out]; have SG := Lib.hid (SG.out.below h1 (Nat.le_refl _)); have HE := Lib.hid (HE.out.below h1 (Nat.le_refl _)); have BG := Lib.hid (BG.out.below h1 (Nat.le_refl _)); have c1_BG_0 := BG.out.cell 0 _ rfl; have c1_BG_1 := BG.out.cell 1 _ rfl; have q1 := q0.trans (h1.mono q0.size)))
    go_ret
    exact ⟨_, rfl, rfl, q2⟩
  have HF := Lib.hid hf
  have hl : es.length ≤ 1000 := by have := few_len hf; omega
  have h6 := fun h => few_six hf h
  clear hf
  obtain ⟨⟨X, K⟩, hx⟩ : ∃ p, cofS n es 0 0 = p := ⟨_, rfl⟩
  have M := Lib.hid hx
  obtain ⟨⟨Y, J⟩, hy⟩ : ∃ p, withS n es x = p := ⟨_, rfl⟩
  have M2 := Lib.hid hy
  clear hx hy
  go_enter Tryz.func5, Tryz.ntmps5
  go_wp2_with (first
    | (go_at_call 15; (with_reducible refine (awake15 _ HE.out).mono ?_); rintro e w6 ⟨v, rfl, rfl, h6⟩; have SG := Lib.hid (SG.out.below h6 (Nat.le_refl _)); have HE := Lib.hid (HE.out.below h6 (Nat.le_refl _)); have BG := Lib.hid (BG.out.below h6 (Nat.le_refl _)); have c6_BG_0 := BG.out.cell 0 _ rfl; have c6_BG_1 := BG.out.cell 1 _ rfl; have q6 := q5.trans (h6.mono q5.size))
    | (go_at_call 27; (with_reducible refine (retS_of (rWith_any _ n _ es x SG.out (fun h => by have := h6 h; omega)) M2.out).mono ?_); rintro e w5 ⟨v, rfl, rfl, h5⟩; have SG := Lib.hid (SG.out.below h5 (Nat.le_refl _)); have HE := Lib.hid (HE.out.below h5 (Nat.le_refl _)); have BG := Lib.hid (BG.out.below h5 (Nat.le_refl _)); have c5_BG_0 := BG.out.cell 0 _ rfl; have c5_BG_1 := BG.out.cell 1 _ rfl; have q5 := q4.trans (h5.mono q4.size))
    | (go_at_call 26; (with_reducible refine (retS_of (With_any _ n _ es x SG.out hl (fun h => by have := h6 h; omega) HE.out) M2.out).mono ?_); rintro e w4 ⟨v, rfl, rfl, h4⟩; have SG := Lib.hid (SG.out.below h4 (Nat.le_refl _)); have HE := Lib.hid (HE.out.below h4 (Nat.le_refl _)); have BG := Lib.hid (BG.out.below h4 (Nat.le_refl _)); have c4_BG_0 := BG.out.cell 0 _ rfl; have c4_BG_1 := BG.out.cell 1 _ rfl; have q4 := q3.trans (h4.mono q3.size))
    | (go_at_call 25; (with_reducible refine (retS_of (rTrees_any _ n _ es SG.out) M.out).mono ?_); rintro e w3 ⟨v, rfl, rfl, h3⟩; have SG := Lib.hid (SG.out.below h3 (Nat.le_refl _)); have HE := Lib.hid (HE.out.below h3 (Nat.le_refl _)); have BG := Lib.hid (BG.out.below h3 (Nat.le_refl _)); have c3_BG_0 := BG.out.cell 0 _ rfl; have c3_BG_1 := BG.out.cell 1 _ rfl; have q3 := q2.trans (h3.mono q2.size))
    | (go_at_call 24; (with_reducible refine (retS_of (Trees_any _ n _ es SG.out hl (fun h => by have := h6 h; omega) HE.out) M.out).mono ?_); rintro e w2 ⟨v, rfl, rfl, h2⟩; have SG := Lib.hid (SG.out.below h2 (Nat.le_refl _)); have HE := Lib.hid (HE.out.below h2 (Nat.le_refl _)); have BG := Lib.hid (BG.out.below h2 (Nat.le_refl _)); have c2_BG_0 := BG.out.cell 0 _ rfl; have c2_BG_1 := BG.out.cell 1 _ rfl; have q2 := q1.trans (h2.mono q1.size))
    | (go_at_call 14; (with_reducible refine (rFew_any _ n _ es SG.out).mono ?_); rintro e w1 ⟨v, rfl, rfl, h1⟩; rw [HF.out]; have SG := Lib.hid (SG.out.below h1 (Nat.le_refl _)); have HE := Lib.hid (HE.out.below h1 (Nat.le_refl _)); have BG := Lib.hid (BG.out.below h1 (Nat.le_refl _)); have c1_BG_0 := BG.out.cell 0 _ rfl; have c1_BG_1 := BG.out.cell 1 _ rfl; have q1 := q0.trans (h1.mono q0.size)))
  go_ret
  exact ⟨_, rfl, rfl, q6⟩
end Go.Proofs.YtkkklfikdoibcaaGreatDoor
