/- The walk of the law's awake. -/
import Derived.Test.YtcjcknncajinpaaGreatDoorL0
namespace Go.Proofs.YtcjcknncajinpaaGreatDoor
open Go.RowKit
set_option maxRecDepth 100000

set_option maxHeartbeats 2000000 in
theorem awake_any (w : World) (he : Env w) : Calls Tryz.prog 6 #[] w (Rets fun v w' => v = .bool true ∧ Below w.heap.size w w') := by
  have HE := Lib.hid he; clear he
  go_enter Tryz.func6, Tryz.ntmps6
  go_wp2
  go_loopw [21] (fun i wr => ∃ k : Nat, k ≤ 2 ∧ i = .int .i64 k ∧ Hid (Blk wr w.heap.size [.string ⟨#[45, 55]⟩, .string ⟨#[50]⟩, .string ⟨#[45, 52]⟩, .string ⟨#[49]⟩, .string ⟨#[55]⟩, .string ⟨#[45, 50]⟩, .string ⟨#[45, 52]⟩, .string ⟨#[45, 49]⟩] 44) ∧ Below w.heap.size w wr) (fun i _ => 2 - (intOf i).toNat)
  case atStart => exact ⟨0, by omega, rfl, Lib.hid (Blk.new w [.string ⟨#[45, 55]⟩, .string ⟨#[50]⟩, .string ⟨#[45, 52]⟩, .string ⟨#[49]⟩, .string ⟨#[55]⟩, .string ⟨#[45, 50]⟩, .string ⟨#[45, 52]⟩, .string ⟨#[45, 49]⟩] 44), (Below.refl _ w).alloc (Nat.le_refl _) _⟩
  case round =>
    obtain ⟨k, hk, rfl, hK, hb⟩ := hrel
    have c0 := hK.out.cell 0 _ rfl
    have c1 := hK.out.cell 1 _ rfl
    have c2 := hK.out.cell 2 _ rfl
    have c3 := hK.out.cell 3 _ rfl
    have c4 := hK.out.cell 4 _ rfl
    have c5 := hK.out.cell 5 _ rfl
    have c6 := hK.out.cell 6 _ rfl
    have c7 := hK.out.cell 7 _ rfl
    rcases (show k = 0 ∨ k = 1 ∨ k = 2 by omega) with rfl | rfl | rfl
    · clear hk
      go_wp2_with (first
        | (go_at_call 7; have ha := (Below.refl wr.heap.size wr).alloc (Nat.le_refl _) (.cells #[.string ⟨#[45, 55]⟩, .string ⟨#[50]⟩, .string ⟨#[45, 52]⟩, .string ⟨#[49]⟩] 44); have b1 := hb.trans (ha.mono hb.size); (with_reducible refine (quo1 _ (HE.out.below b1 (Nat.le_refl _))).mono ?_); rintro e w2 ⟨v, rfl, rfl, hb2⟩; have b2 := b1.trans (hb2.mono b1.size); have hx := (Blk.new wr [.string ⟨#[45, 55]⟩, .string ⟨#[50]⟩, .string ⟨#[45, 52]⟩, .string ⟨#[49]⟩] 44).below hb2 (Nat.le_refl _); have x0 := hx.cell 0 _ rfl; have x1 := hx.cell 1 _ rfl; have HX := Lib.hid hx; clear hx ha)
        | (go_at_call 8; (with_reducible refine (rem1 _ (HE.out.below b2 (Nat.le_refl _))).mono ?_); rintro e w3 ⟨v, rfl, rfl, hb3⟩; have b3 := b2.trans (hb3.mono b2.size); have hx := HX.out.below hb3 (Nat.le_refl _); have y2 := hx.cell 2 _ rfl; have y3 := hx.cell 3 _ rfl; have hkk := (hK.out.below ((((Below.refl wr.heap.size wr).alloc (Nat.le_refl _) (.cells #[.string ⟨#[45, 55]⟩, .string ⟨#[50]⟩, .string ⟨#[45, 52]⟩, .string ⟨#[49]⟩] 44)).trans (hb2.mono (by simp))).trans (hb3.mono (Nat.le_trans (by simp) hb2.size))) (Nat.le_refl _)); have HKK := Lib.hid hkk; clear hx hkk))
      go_roundw
      case rel => exact ⟨1, by omega, by go_num, HKK, b3⟩
      case measure => simp [intOf]
    · clear hk
      go_wp2_with (first
        | (go_at_call 7; have ha := (Below.refl wr.heap.size wr).alloc (Nat.le_refl _) (.cells #[.string ⟨#[55]⟩, .string ⟨#[45, 50]⟩, .string ⟨#[45, 52]⟩, .string ⟨#[45, 49]⟩] 44); have b1 := hb.trans (ha.mono hb.size); (with_reducible refine (quo2 _ (HE.out.below b1 (Nat.le_refl _))).mono ?_); rintro e w2 ⟨v, rfl, rfl, hb2⟩; have b2 := b1.trans (hb2.mono b1.size); have hx := (Blk.new wr [.string ⟨#[55]⟩, .string ⟨#[45, 50]⟩, .string ⟨#[45, 52]⟩, .string ⟨#[45, 49]⟩] 44).below hb2 (Nat.le_refl _); have x0 := hx.cell 0 _ rfl; have x1 := hx.cell 1 _ rfl; have HX := Lib.hid hx; clear hx ha)
        | (go_at_call 8; (with_reducible refine (rem2 _ (HE.out.below b2 (Nat.le_refl _))).mono ?_); rintro e w3 ⟨v, rfl, rfl, hb3⟩; have b3 := b2.trans (hb3.mono b2.size); have hx := HX.out.below hb3 (Nat.le_refl _); have y2 := hx.cell 2 _ rfl; have y3 := hx.cell 3 _ rfl; have hkk := (hK.out.below ((((Below.refl wr.heap.size wr).alloc (Nat.le_refl _) (.cells #[.string ⟨#[55]⟩, .string ⟨#[45, 50]⟩, .string ⟨#[45, 52]⟩, .string ⟨#[45, 49]⟩] 44)).trans (hb2.mono (by simp))).trans (hb3.mono (Nat.le_trans (by simp) hb2.size))) (Nat.le_refl _)); have HKK := Lib.hid hkk; clear hx hkk))
      go_roundw
      case rel => exact ⟨2, by omega, by go_num, HKK, b3⟩
      case measure => simp [intOf]
    · clear hk
      have b0 := hb
      go_wp2_with (first
        | (go_at_call_of 11 (Value.string ⟨#[49, 50]⟩); (with_reducible refine (bez1 _ (HE.out.below b0 (Nat.le_refl _))).mono ?_); rintro e w1 ⟨v, rfl, rfl, hb1⟩; have b1 := b0.trans (hb1.mono b0.size))
        | (go_at_call_of 11 (Value.string ⟨#[52]⟩); (with_reducible refine (bez2 _ (HE.out.below b1 (Nat.le_refl _))).mono ?_); rintro e w2 ⟨v, rfl, rfl, hb2⟩; have b2 := b1.trans (hb2.mono b1.size))
        | (go_at_call 25; (with_reducible refine (pow1 _ (HE.out.below b2 (Nat.le_refl _))).mono ?_); rintro e w3 ⟨v, rfl, rfl, hb3⟩; have b3 := b2.trans (hb3.mono b2.size))
        | (go_at_call_of 26 (Value.string ⟨#[48, 48, 55]⟩); (with_reducible refine (chk1 _).mono ?_); rintro e w4 ⟨v, rfl, rfl, hb4⟩; have b4 := b3.trans (hb4.mono b3.size))
        | (go_at_call_of 26 (Value.string ⟨#[45, 48]⟩); (with_reducible refine (chk2 _).mono ?_); rintro e w5 ⟨v, rfl, rfl, hb5⟩; have b5 := b4.trans (hb5.mono b4.size))
        | (go_at_call_of 26 (Value.string ⟨#[43, 49]⟩); (with_reducible refine (chk3 _).mono ?_); rintro e w6 ⟨v, rfl, rfl, hb6⟩; have b6 := b5.trans (hb6.mono b5.size)))
      go_ret
      exact ⟨_, rfl, rfl, b6⟩
end Go.Proofs.YtcjcknncajinpaaGreatDoor
