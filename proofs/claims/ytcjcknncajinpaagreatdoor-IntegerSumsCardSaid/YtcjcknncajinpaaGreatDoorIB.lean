/- The walks of integer's natural numbers: the difference. -/
import Derived.Test.YtcjcknncajinpaaGreatDoorIA
namespace Go.Proofs.YtcjcknncajinpaaGreatDoor
open Go.RowKit
set_option maxRecDepth 100000

/-- One round of the difference. -/
theorem less_step (B : Nat) (ps qs os : List Nat) (k c d c' : Nat) (ho : os.length = k) (hos : ∀ a ∈ os, a < B) (hv : val B (ps.take k) + B ^ k * c = val B os + val B (qs.take k))
    (hd : d < B) (hs : ps.getD k 0 + B * c' = d + c + qs.getD k 0) :
    (os ++ [d]).length = k + 1 ∧ (∀ a ∈ os ++ [d], a < B) ∧ val B (ps.take (k + 1)) + B ^ (k + 1) * c' = val B (os ++ [d]) + val B (qs.take (k + 1)) := by
  refine ⟨by simp [ho], ?_, ?_⟩
  · intro a ha
    rcases List.mem_append.1 ha with h | h
    · exact hos a h
    · simp at h; omega
  · rw [val_take_succ, val_take_succ, val_snoc, ho, Nat.pow_succ, Nat.mul_assoc]
    have h1 : B ^ k * (ps.getD k 0) + B ^ k * (B * c') = B ^ k * d + B ^ k * c + B ^ k * qs.getD k 0 := by rw [← Nat.mul_add, hs, Nat.mul_add, Nat.mul_add]
    omega

set_option maxHeartbeats 1000000 in
theorem less_any (w : World) (x y : Value) (xs ys : List Nat) (hx : Sl eU w x xs) (hy : Sl eU w y ys) (bx : ∀ a ∈ xs, a < 1000000000) (by' : ∀ a ∈ ys, a < 1000000000)
    (hl : xs.length ≤ 1099511627776) (hl' : ys.length ≤ xs.length) (hle : val 1000000000 ys ≤ val 1000000000 xs) :
    Calls Tryz.prog 61 #[x, y] w (Rets fun v w' => Sl eU w' v (digs 1000000000 (val 1000000000 xs - val 1000000000 ys)) ∧ Below w.heap.size w w') := by
  obtain ⟨a, b, o, c, rfl, hi, hp, -, -⟩ := hx.open elemNat
  obtain ⟨a', b', o', c', rfl, hi', hq, -, -⟩ := hy.open elemNat
  have BX := Lib.hid bx; clear bx hx
  have BY := Lib.hid by'; clear by' hy
  have HLE := Lib.hid hle; clear hle
  go_enter Tryz.func61, Tryz.ntmps61
  go_wp2_with (at_make; refine mkN elemNat rfl _ _ rfl xs.length rfl rfl rfl rfl (by omega) (by unfold maxLen; omega) (Below.refl _ _) (Nat.le_refl _) rfl ?_; intro w1 hown hb hb2; clear hb2)
  have hown := ownsRow_cast hown rfl (show List.replicate xs.length (Value.int .u32 0) = (([] : List Nat) ++ List.replicate (xs.length - 0) 0).map eU by simp [eU])
  go_loopw [6, 14] (fun bw i wr => ∃ (k c : Nat) (os : List Nat), k ≤ xs.length ∧ i = .int .i64 k ∧ bw = .int .i64 c ∧ c ≤ 1 ∧ os.length = k ∧ (∀ a ∈ os, a < 1000000000) ∧
      val 1000000000 (xs.take k) + 1000000000 ^ k * c = val 1000000000 os + val 1000000000 (ys.take k) ∧ wr.ownsRow w.heap.size 75 1 (.slice (some ⟨w.heap.size, 0, none⟩) xs.length xs.length) xs.length ((os ++ List.replicate (xs.length - k) 0).map eU) ∧ Below w.heap.size w wr) (fun _ i _ => xs.length - (intOf i).toNat)
  case atStart => exact ⟨0, 0, [], by omega, rfl, rfl, by omega, rfl, by simp, by simp [val], hown, hb⟩
  case round =>
    clear hown hb
    obtain ⟨k, cy, os, hk, rfl, rfl, hcy, hol, hos, hv, hown, hb⟩ := hrel
    have HOL := Lib.hid hol; clear hol
    have HOS := Lib.hid hos; clear hos
    have HV := Lib.hid hv; clear hv
    have hbs := hb.size
    by_cases hlt : k < xs.length
    · have hbp := BX.out xs[k] (List.getElem_mem hlt)
      have hc1 : wr.cell? ⟨b, o + k, none⟩ = some (.int .u32 (xs[k] : Nat)) := hp.at hb (Nat.le_refl _) k hlt
      obtain ⟨u, -, hcu, hfu⟩ := own_at hown hlt
      by_cases hlt' : k < ys.length
      · have hbq := BY.out ys[k] (List.getElem_mem hlt')
        have hc2 : wr.cell? ⟨b', o' + k, none⟩ = some (.int .u32 (ys[k] : Nat)) := hq.at hb (Nat.le_refl _) k hlt'
        by_cases hneg : xs[k] < cy + ys[k]
        · skip
          have HR := Lib.hid (less_step 1000000000 xs ys os k cy (xs[k] + 1000000000 - cy - ys[k]) 1 HOL.out HOS.out HV.out (by omega) (by simp [hlt, hlt']; omega))
          go_wp2
          go_roundw
          case rel =>
            have R := fun (u : Value) (hu : u = eU (xs[k] + 1000000000 - cy - ys[k])) => fill_own hown hb (Nat.le_refl _) HOL.out hlt (xs[k] + 1000000000 - cy - ys[k]) u hu
            exact ⟨k + 1, 1, _, by omega, by go_num, rfl, by omega, HR.out.1, HR.out.2.1, HR.out.2.2, (R _ (congrArg (Value.int .u32) (by omega))).1, (R _ (congrArg (Value.int .u32) (by omega))).2⟩
          case measure => simp [intOf]; omega
        · skip
          have HR := Lib.hid (less_step 1000000000 xs ys os k cy (xs[k] - cy - ys[k]) 0 HOL.out HOS.out HV.out (by omega) (by simp [hlt, hlt']; omega))
          go_wp2
          go_roundw
          case rel =>
            have R := fun (u : Value) (hu : u = eU (xs[k] - cy - ys[k])) => fill_own hown hb (Nat.le_refl _) HOL.out hlt (xs[k] - cy - ys[k]) u hu
            exact ⟨k + 1, 0, _, by omega, by go_num, rfl, by omega, HR.out.1, HR.out.2.1, HR.out.2.2, (R _ (congrArg (Value.int .u32) (by omega))).1, (R _ (congrArg (Value.int .u32) (by omega))).2⟩
          case measure => simp [intOf]; omega
      · by_cases hneg : xs[k] < cy
        · skip
          have HR := Lib.hid (less_step 1000000000 xs ys os k cy (xs[k] + 1000000000 - cy) 1 HOL.out HOS.out HV.out (by omega) (by simp [hlt, List.getElem?_eq_none (Nat.le_of_not_lt hlt')]; omega))
          go_wp2
          go_roundw
          case rel =>
            have R := fun (u : Value) (hu : u = eU (xs[k] + 1000000000 - cy)) => fill_own hown hb (Nat.le_refl _) HOL.out hlt (xs[k] + 1000000000 - cy) u hu
            exact ⟨k + 1, 1, _, by omega, by go_num, rfl, by omega, HR.out.1, HR.out.2.1, HR.out.2.2, (R _ (congrArg (Value.int .u32) (by omega))).1, (R _ (congrArg (Value.int .u32) (by omega))).2⟩
          case measure => simp [intOf]; omega
        · skip
          have HR := Lib.hid (less_step 1000000000 xs ys os k cy (xs[k] - cy) 0 HOL.out HOS.out HV.out (by omega) (by simp [hlt, List.getElem?_eq_none (Nat.le_of_not_lt hlt')]; omega))
          go_wp2
          go_roundw
          case rel =>
            have R := fun (u : Value) (hu : u = eU (xs[k] - cy)) => fill_own hown hb (Nat.le_refl _) HOL.out hlt (xs[k] - cy) u hu
            exact ⟨k + 1, 0, _, by omega, by go_num, rfl, by omega, HR.out.1, HR.out.2.1, HR.out.2.2, (R _ (congrArg (Value.int .u32) (by omega))).1, (R _ (congrArg (Value.int .u32) (by omega))).2⟩
          case measure => simp [intOf]; omega
    · obtain rfl : k = xs.length := by omega
      have hsl : Sl eU wr (.slice (some ⟨w.heap.size, 0, none⟩) xs.length xs.length) os := Sl.ofOwns (n := xs.length) (by simpa using hown)
      have hfin : val 1000000000 os = val 1000000000 xs - val 1000000000 ys := by
        have h1 := HV.out
        rw [List.take_of_length_le (Nat.le_refl _), List.take_of_length_le hl'] at h1
        have h2 := val_lt 1000000000 os HOS.out
        rw [HOL.out] at h2
        have h3 := HLE.out
        rcases (show cy = 0 ∨ cy = 1 by omega) with rfl | rfl <;> omega
      have HF := Lib.hid hfin; clear hfin
      go_wp2_with fail
      refine (trimmed_any _ _ _ hsl).mono ?_
      rintro e w' ⟨v3, rfl, hs3, rfl⟩
      go_wp2
      go_ret
      refine ⟨_, rfl, ?_, hb⟩
      rw [← trim_of 1000000000 os _ (by omega) HOS.out HF.out]
      exact hs3
end Go.Proofs.YtcjcknncajinpaaGreatDoor
