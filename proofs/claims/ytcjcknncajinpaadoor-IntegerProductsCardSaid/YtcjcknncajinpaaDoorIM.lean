/- The walk of integer's checked. -/
import Derived.Test.YtcjcknncajinpaaDoorIL
namespace Go.Proofs.YtcjcknncajinpaaDoor
open Go.RowKit
set_option maxRecDepth 100000

theorem elemStr : ElemOk Tryd.prog 36 22 (.string ⟨#[]⟩) 1 16 :=
  ⟨Tryd.underlying36, info_parts (by kernel_rfl : (Tryd.prog.info? 22).map (fun i => (i.zero, i.size, i.bytes)) = some (some (.string ⟨#[]⟩), 1, 16)), rfl, by decide, by kernel_rfl, fun _ => by kernel_rfl⟩

/-- The first error of some texts. -/
def chks : List ByteArray → Int
  | [] => 0
  | s :: l => if chk s.data.toList = 0 then chks l else chk s.data.toList

set_option maxHeartbeats 1000000 in
theorem checked_any (w : World) (v : Value) (xs : List ByteArray) (h : Sl eS w v xs) (hsz : ∀ s ∈ xs, s.size ≤ 1000000) (hl : xs.length ≤ 1000000) :
    Calls Tryd.prog 48 #[v] w (Rets fun v w' => v = .int .i64 (chks xs) ∧ Below w.heap.size w w') := by
  obtain ⟨a, b, o, c, rfl, hi, hp, -, -⟩ := h.open elemStr
  have HS := Lib.hid hsz; clear hsz h
  go_enter Tryd.func48, Tryd.ntmps48
  go_wp2
  go_loopw [8] (fun i wr => ∃ k : Nat, k ≤ xs.length ∧ i = .int .i64 k ∧ Hid (chks xs = chks (xs.drop k)) ∧ Below w.heap.size w wr) (fun i _ => xs.length - (intOf i).toNat)
  case atStart => exact ⟨0, Nat.zero_le _, rfl, Lib.hid rfl, Below.refl _ _⟩
  case round =>
    obtain ⟨k, hk, rfl, hc, hb⟩ := hrel
    by_cases hkn : k < xs.length
    · have h1 : wr.cell? ⟨b, o + k, none⟩ = some (.string xs[k]) := hp.at hb (Nat.le_refl _) k hkn
      have e1 : chks xs = if chk xs[k].data.toList = 0 then chks (xs.drop (k + 1)) else chk xs[k].data.toList := by
        rw [hc.out, List.drop_eq_getElem_cons hkn, chks]
      have E1 := Lib.hid e1; clear e1
      by_cases h0 : chk xs[k].data.toList = 0
      · have hne : (chk xs[k].data.toList != 0) = false := by simp [h0]
        rw [if_pos h0] at E1
        clear h0
        go_wp2_with (go_at_call 35; refine (check_any _ _ (HS.out _ (List.getElem_mem hkn))).mono ?_; rintro e w' ⟨v, rfl, rfl, hb'⟩)
        go_roundw
        case rel => exact ⟨k + 1, by omega, by go_num, E1, hb.trans (hb'.mono hb.size)⟩
        case measure => simp [intOf]; omega
      · have hne : (chk xs[k].data.toList != 0) = true := by simp [h0]
        rw [if_neg h0] at E1
        clear h0
        go_wp2_with (go_at_call 35; refine (check_any _ _ (HS.out _ (List.getElem_mem hkn))).mono ?_; rintro e w' ⟨v, rfl, rfl, hb'⟩)
        go_ret
        exact ⟨_, rfl, by rw [E1.out]; rfl, hb.trans (hb'.mono hb.size)⟩
    · obtain rfl : k = xs.length := by omega
      have e1 : chks xs = 0 := by rw [hc.out, List.drop_length]; rfl
      have E1 := Lib.hid e1; clear e1
      go_wp2
      go_ret
      exact ⟨_, rfl, by rw [E1.out]; rfl, hb⟩
end Go.Proofs.YtcjcknncajinpaaDoor
