/- The walks of the reference's Small and Of. -/
import Derived.Test.YtcjcknncajinpaaGreatDoorR8
import Derived.Test.YtcjcknncajinpaaGreatDoorIV
import Derived.Test.YtcjcknncajinpaaGreatDoorLQ
namespace Go.Proofs.YtcjcknncajinpaaGreatDoor
open Go.RowKit
set_option maxRecDepth 100000

theorem gmax : Good ⟨#[57, 50, 50, 51, 51, 55, 50, 48, 51, 54, 56, 53, 52, 55, 55, 53, 56, 48, 55]⟩ 9223372036854775807 := good_lit (by decide) (by decide)
theorem gmin : Good ⟨#[45, 57, 50, 50, 51, 51, 55, 50, 48, 51, 54, 56, 53, 52, 55, 55, 53, 56, 48, 56]⟩ (-9223372036854775808) := good_lit (by decide) (by decide)
theorem ord_max (z : Int) (hz : dn z ≤ 1024) (w : World) : Calls Tryz.prog 47 #[.string (txt z), .string ⟨#[57, 50, 50, 51, 51, 55, 50, 48, 51, 54, 56, 53, 52, 55, 55, 53, 56, 48, 55]⟩] w (Rets fun v w' => v = .int .i64 (z - 9223372036854775807).sign ∧ Below w.heap.size w w') := by
  rw [gmax.eq]; exact Order_any w z _ (by omega) (by have := gmax.dn; omega)
theorem ord_min (z : Int) (hz : dn z ≤ 1024) (w : World) : Calls Tryz.prog 47 #[.string (txt z), .string ⟨#[45, 57, 50, 50, 51, 51, 55, 50, 48, 51, 54, 56, 53, 52, 55, 55, 53, 56, 48, 56]⟩] w (Rets fun v w' => v = .int .i64 (z - (-9223372036854775808)).sign ∧ Below w.heap.size w w') := by
  rw [gmin.eq]; exact Order_any w z _ (by omega) (by have := gmin.dn; omega)

theorem val_drop_cons (xs : List Nat) (k : Nat) (h : k < xs.length) : val 10 (xs.drop k) = xs[k] + 10 * val 10 (xs.drop (k + 1)) := by
  rw [List.drop_eq_getElem_cons h]; rfl
theorem val_drop_le (xs : List Nat) : ∀ k, val 10 (xs.drop k) ≤ val 10 xs := by
  induction xs with
  | nil => intro k; simp
  | cons a l ih =>
    intro k
    cases k with
    | zero => simp
    | succ k => rw [List.drop_succ_cons]; have := ih k; simp only [val]; omega
theorem digs_split (n k : Nat) (os : List Nat) (hk : 0 < k) (h : digs 10 n = os ++ digs 10 k) : digs 10 n = (os ++ [k % 10]) ++ digs 10 (k / 10) := by
  rw [h, digs_pos 10 k (by omega) hk, List.append_assoc]; rfl
set_option maxHeartbeats 1000000 in
theorem rOf_pos (w : World) (n : Nat) (h1 : n ≤ 9223372036854775807) :
    Calls Tryz.prog 46 #[.int .i64 n] w (Rets fun v w' => v = .string (txt n) ∧ Below w.heap.size w w') := by
  have hL : (digs 10 n).length ≤ 19 := (digs_len 10 n 19 (by omega)).2 (by omega)
  have HL := Lib.hid hL
  have h0 : (0 : Int) ≤ n := by omega
  have hnn : (n : Int) ≤ 9223372036854775807 := by omega
  have HS := Lib.hid (show sg false n = (n : Int) from rfl)
  clear hL h1
  go_enter Tryz.func46, Tryz.ntmps46
  go_wp2
  go_loopw [0, 4] (fun m l wr => ∃ (k : Nat) (os : List Nat), m = .int .i64 k ∧ k ≤ n ∧ Hid (digs 10 n = os ++ digs 10 k) ∧ Hid (os.length ≤ 19) ∧ wr.ownsRow w.heap.size 3 1 l os.length (os.map eI) ∧ Below w.heap.size w wr) (fun m _ _ => (intOf m).toNat)
  case atStart => exact ⟨n, [], rfl, Nat.le_refl _, Lib.hid rfl, Lib.hid (by simp), World.ownsRow_nil _ _ _ _, Below.refl _ _⟩
  case round =>
    obtain ⟨k, os, rfl, hkn, hd, hol, hown, hb⟩ := hrel
    have hbs := hb.size
    by_cases hk0 : k = 0
    · subst hk0
      have ho : os = digs 10 n := by rw [hd.out, digs_zero, List.append_nil]
      have HO := Lib.hid (show Sl eI wr _ (digs 10 n) from ho ▸ Sl.ofOwns hown)
      obtain ⟨a3, b3, o3, c3, hl3, -, -, -, -⟩ := HO.out.open elemInt
      clear ho hown
      subst hl3
      go_wp2_with (go_at_call 53; (with_reducible refine (rtext_any _ _ n false HO.out (by have := HL.out; omega)).mono ?_); rintro e w2 ⟨v, rfl, rfl, hb2⟩; rw [HS.out])
      go_ret
      exact ⟨_, rfl, rfl, hb.trans (hb2.mono hb.size)⟩
    · have hk1 : 0 < k := by omega
      have HD := Lib.hid (digs_split n k os hk1 hd.out)
      have hol2 : os.length ≤ 19 := hol.out
      have hol3 : os.length + 1 ≤ 19 := by
        have := congrArg List.length HD.out
        simp at this; have := HL.out; omega
      go_wp2_with (at_builtin; refine app1 elemInt rfl _ _ rfl rfl rfl hown hb (Nat.le_refl _) hbs rfl (by simp [Value.oneCell']) (by omega) (by unfold maxLen; omega) ?_; intro v' w2 hown' hb')
      go_roundw
      case rel => exact ⟨k / 10, os ++ [k % 10], congrArg (Value.int .i64) (by omega), by omega, HD, Lib.hid (by simp; omega), by simpa [eI] using hown', hb'⟩
      case measure => simp [intOf]; omega
set_option maxHeartbeats 1000000 in
theorem rOf_neg (w : World) (n : Nat) (h1 : n ≤ 9223372036854775808) (hn0 : 0 < n) :
    Calls Tryz.prog 46 #[.int .i64 (-(n : Int))] w (Rets fun v w' => v = .string (txt (-(n : Int))) ∧ Below w.heap.size w w') := by
  have hL : (digs 10 n).length ≤ 19 := (digs_len 10 n 19 (by omega)).2 (by omega)
  have HL := Lib.hid hL
  have h0 : -(n : Int) < 0 := by omega
  have hnn : (n : Int) ≤ 9223372036854775808 := by omega
  have HS := Lib.hid (show sg true n = -(n : Int) from rfl)
  clear hL h1
  go_enter Tryz.func46, Tryz.ntmps46
  go_wp2
  go_loopw [0, 4] (fun m l wr => ∃ (k : Nat) (os : List Nat), m = .int .i64 (-(k : Int)) ∧ k ≤ n ∧ Hid (digs 10 n = os ++ digs 10 k) ∧ Hid (os.length ≤ 19) ∧ wr.ownsRow w.heap.size 3 1 l os.length (os.map eI) ∧ Below w.heap.size w wr) (fun m _ _ => (-(intOf m)).toNat)
  case atStart => exact ⟨n, [], rfl, Nat.le_refl _, Lib.hid rfl, Lib.hid (by simp), World.ownsRow_nil _ _ _ _, Below.refl _ _⟩
  case round =>
    obtain ⟨k, os, rfl, hkn, hd, hol, hown, hb⟩ := hrel
    have hbs := hb.size
    by_cases hk0 : k = 0
    · subst hk0
      have hdl : 0 < (digs 10 n).length := by rw [List.length_pos_iff, Ne, digs_nil (by omega)]; omega
      have ho : os = digs 10 n := by rw [hd.out, digs_zero, List.append_nil]
      have HO := Lib.hid (show Sl eI wr _ (digs 10 n) from ho ▸ Sl.ofOwns hown)
      obtain ⟨a3, b3, o3, c3, hl3, -, -, -, -⟩ := HO.out.open elemInt
      clear ho hown
      subst hl3
      go_wp2_with (go_at_call 53; (with_reducible refine (rtext_any _ _ n true HO.out (by have := HL.out; omega)).mono ?_); rintro e w2 ⟨v, rfl, rfl, hb2⟩; rw [HS.out])
      go_ret
      exact ⟨_, rfl, rfl, hb.trans (hb2.mono hb.size)⟩
    · have hk1 : 0 < k := by omega
      have HD := Lib.hid (digs_split n k os hk1 hd.out)
      have hol2 : os.length ≤ 19 := hol.out
      have hol3 : os.length + 1 ≤ 19 := by
        have := congrArg List.length HD.out
        simp at this; have := HL.out; omega
      rcases (show (k : Int) % 10 = 0 ∨ 0 < (k : Int) % 10 by omega) with hkm | hkm
      all_goals
        go_wp2_with (at_builtin; refine app1 elemInt rfl _ _ rfl rfl rfl hown hb (Nat.le_refl _) hbs rfl (by simp [Value.oneCell']) (by omega) (by unfold maxLen; omega) ?_; intro v' w2 hown' hb')
        go_roundw
        case rel => exact ⟨k / 10, os ++ [k % 10], congrArg (Value.int .i64) (by omega), by omega, HD, Lib.hid (by simp; omega), by first | simpa [eI] using hown' | (rw [show k % 10 = 0 by omega]; simpa [eI] using hown'), hb'⟩
        case measure => simp [intOf]; omega
theorem rOf_any (w : World) (n : Int) (h0 : -9223372036854775808 ≤ n) (h1 : n ≤ 9223372036854775807) :
    Calls Tryz.prog 46 #[.int .i64 n] w (Rets fun v w' => v = .string (txt n) ∧ Below w.heap.size w w') := by
  rcases Int.lt_or_le n 0 with h | h
  · obtain ⟨k, rfl⟩ : ∃ k : Nat, n = -(k : Int) := ⟨n.natAbs, by omega⟩
    exact rOf_neg w k (by omega) (by omega)
  · obtain ⟨k, rfl⟩ : ∃ k : Nat, n = (k : Int) := ⟨n.natAbs, by omega⟩
    exact rOf_pos w k (by omega)
end Go.Proofs.YtcjcknncajinpaaGreatDoor
