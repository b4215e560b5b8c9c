/- The walks of the reference's digits of integers. -/
import Derived.Test.YtcjcknncajinpaaDoorR0
namespace Go.Proofs.YtcjcknncajinpaaDoor
open Go.RowKit
set_option maxRecDepth 100000

theorem elemInt : ElemOk Tryd.prog 71 3 (.int .i64 0) 1 8 :=
  ⟨Tryd.underlying71, info_parts (by kernel_rfl : (Tryd.prog.info? 3).map (fun i => (i.zero, i.size, i.bytes)) = some (some (.int .i64 0), 1, 8)), rfl, by decide, by kernel_rfl, fun _ => by kernel_rfl⟩

set_option maxHeartbeats 400000 in
theorem cut_any (w : World) (v : Value) (xs : List Nat) (hv : Sl eI w v xs) :
    Calls Tryd.prog 74 #[v] w (Rets fun v' w' => Sl eI w' v' (trim xs) ∧ w = w') := by
  have HV := Lib.hid hv
  obtain ⟨a, b, o, c, rfl, hi, hx, hc, hm⟩ := hv.open elemInt
  clear hv
  unfold maxLen at hm
  go_enter Tryd.func74, Tryd.ntmps74
  go_wp2
  go_loop [3] (fun v => ∃ k : Nat, k ≤ xs.length ∧ v = .int .i64 k ∧ Hid (trim (xs.take k) = trim xs)) (fun v => (intOf v).toNat)
  case atStart => exact ⟨xs.length, Nat.le_refl _, rfl, Lib.hid (by simp)⟩
  case round =>
    obtain ⟨k, hk, rfl, HT⟩ := hrel
    rcases k with _ | k
    · go_wp2
      go_ret
      exact ⟨_, rfl, by rw [← HT.out]; exact HV.out.take 0 (Nat.zero_le _), rfl⟩
    · have hp : (0 : Int) < ((k + 1 : Nat) : Int) := by omega
      have h1 : w.cell? ⟨b, o + k, none⟩ = some (.int .i64 (xs[k] : Nat)) := hx.2 k (by omega)
      go_wp2
      · go_round
        case rel =>
          have h0 : ((xs[k] : Nat) == (0 : Int)) = true := by assumption
          have h0 : xs[k] = 0 := by simpa using h0
          exact ⟨k, by omega, by go_num, Lib.hid (by rw [← HT.out, take_snoc xs k (by omega), h0, trim_snoc_zero])⟩
        case measure => simp [intOf]
      · go_ret
        have h0 : ((xs[k] : Nat) == (0 : Int)) = false := by assumption
        have h0 : xs[k] ≠ 0 := by simpa using h0
        exact ⟨_, rfl, by rw [← HT.out, take_snoc xs k (by omega), trim_snoc _ _ h0, ← take_snoc xs k (by omega)]; exact HV.out.take (k + 1) hk, rfl⟩

set_option maxHeartbeats 400000 in
theorem digit_any (w : World) (v : Value) (xs : List Nat) (i : Nat) (hv : Sl eI w v xs) :
    Calls Tryd.prog 88 #[v, .int .i64 i] w (Rets fun v' w' => v' = .int .i64 (xs.getD i 0 : Nat) ∧ w = w') := by
  obtain ⟨a, b, o, c, rfl, hi, hx, hc, hm⟩ := hv.open elemInt
  clear hv
  unfold maxLen at hm
  by_cases h : i < xs.length
  · have h1 : w.cell? ⟨b, o + i, none⟩ = some (.int .i64 (xs[i] : Nat)) := hx.2 i h
    have hg : xs.getD i 0 = xs[i] := by simp [h]
    have HG := Lib.hid hg; clear hg
    go_enter Tryd.func88, Tryd.ntmps88
    go_wp2
    go_ret
    exact ⟨_, rfl, by rw [HG.out]; rfl, rfl⟩
  · have hg : xs.getD i 0 = 0 := by simp [List.getElem?_eq_none (Nat.le_of_not_lt h)]
    have HG := Lib.hid hg; clear hg
    go_enter Tryd.func88, Tryd.ntmps88
    go_wp2
    go_ret
    exact ⟨_, rfl, by rw [HG.out]; rfl, rfl⟩

theorem itoa_ne (z : Int) : Lib.itoa z ≠ [] := by
  rw [itoa_cases]; split
  · simp
  · exact dec_ne _
set_option maxHeartbeats 400000 in
theorem Minus_any (w : World) (z : Int) :
    Calls Tryd.prog 64 #[.string (txt z)] w (Rets fun v w' => v = .bool (decide (z < 0)) ∧ w = w') := by
  unfold txt
  have hp := pre_itoa z
  have hne := itoa_ne z
  generalize Lib.itoa z = l at *
  rcases l with _ | ⟨c, r⟩
  · exact absurd rfl hne
  · have hc : ((c.toNat : Int) == 45) = decide (z < 0) := by
      rw [← hp]
      by_cases h : c = 45
      · subst h; rfl
      · have : c.toNat ≠ 45 := fun e => h (UInt8.toNat_inj.1 e)
        simp [Lib.hasPrefix, List.isPrefixOf]
        rw [Bool.eq_iff_iff]
        simp
        constructor
        · intro e; omega
        · intro e; exact absurd e.symm h
    have HC := Lib.hid hc
    clear hp hne hc
    go_enter Tryd.func64, Tryd.ntmps64
    go_wp2
    go_ret
    exact ⟨_, rfl, by rw [← HC.out]; rfl, rfl⟩
end Go.Proofs.YtcjcknncajinpaaDoor
