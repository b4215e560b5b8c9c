/- The walks of the reference's Total and Sum. -/
import Derived.Test.YtcjcknncajinpaaDoorR8
import Derived.Test.YtcjcknncajinpaaDoorIX
namespace Go.Proofs.YtcjcknncajinpaaDoor
open Go.RowKit
set_option maxRecDepth 100000

set_option maxHeartbeats 1000000 in
theorem Total_any (w : World) (v : Value) (xs : List ByteArray) (zs : List Int) (hv : Sl eS w v xs) (hz : Goods xs zs) (hl : xs.length ≤ 4096) :
    Calls Tryd.prog 51 #[v] w (Rets fun v w' => v = .string (txt zs.sum) ∧ dn zs.sum ≤ 6000 ∧ Below w.heap.size w w') := by
  obtain ⟨a, b, o, c, rfl, hi, hp, hc, hm⟩ := hv.open elemStr
  have HZ := Lib.hid hz; have HL := Lib.hid hz.len
  clear hz hv
  go_enter Tryd.func51, Tryd.ntmps51
  go_wp2
  go_loopw [3, 4] (fun out i wr => ∃ k : Nat, k ≤ xs.length ∧ i = .int .i64 k ∧ Hid (out = .string (txt (zs.take k).sum)) ∧ Hid (dn (zs.take k).sum ≤ 1024 + k) ∧ Below w.heap.size w wr) (fun _ i _ => xs.length - (intOf i).toNat)
  case atStart => exact ⟨0, Nat.zero_le _, rfl, Lib.hid (by rw [List.take_zero, List.sum_nil, txt0]), Lib.hid (by rw [List.take_zero, List.sum_nil]; unfold dn; rw [show Int.natAbs 0 = 0 from rfl, digs_zero]; simp), Below.refl _ _⟩
  case round =>
    obtain ⟨k, hk, rfl, ho, hd, hb⟩ := hrel
    obtain rfl := ho.out
    clear ho
    by_cases hkn : k < xs.length
    · have hkz : k < zs.length := by rw [HL.out]; exact hkn
      have hg := HZ.out.get k hkn hkz
      have h1 : wr.cell? ⟨b, o + k, none⟩ = some (.string (txt zs[k])) := by rw [← hg.eq]; exact hp.at hb (Nat.le_refl _) k hkn
      have HG := Lib.hid hg.dn
      have HS := Lib.hid (sum_take zs k hkz).symm
      clear hg
      go_wp2_with (go_at_call 75; (with_reducible refine (Plus_any _ (zs.take k).sum zs[k] (by have := hd.out; omega) (by have := HG.out; omega)).mono ?_); rintro e w2 ⟨v, rfl, rfl, hb2⟩; rw [HS.out])
      go_roundw
      case rel => exact ⟨k + 1, by omega, by go_num, Lib.hid rfl, Lib.hid (by rw [← HS.out]; have := dn_add (zs.take k).sum zs[k]; have := hd.out; have := HG.out; omega), hb.trans (hb2.mono hb.size)⟩
      case measure => simp [intOf]; omega
    · obtain rfl : k = xs.length := by omega
      have e1 : zs.take xs.length = zs := by rw [← HL.out, List.take_length]
      have hd2 := hd.out
      rw [e1] at hd2
      have HD2 := Lib.hid hd2
      rw [e1]
      clear hd hd2 e1
      go_wp2
      go_ret
      exact ⟨_, rfl, rfl, by have := HD2.out; omega, hb⟩

set_option maxHeartbeats 400000 in
theorem rSum_many (w : World) (v : Value) (xs : List ByteArray) (hv : Sl eS w v xs) (hl : 4096 < xs.length) :
    Calls Tryd.prog 21 #[v] w (Rets fun v w' => v = .tuple #[.string ⟨#[]⟩, .int .i64 5] ∧ w' = w) := by
  obtain ⟨a, b, o, c, rfl, hi, hp, hc, hm⟩ := hv.open elemStr
  unfold maxLen at hm
  clear hv
  go_enter Tryd.func21, Tryd.ntmps21
  go_wp2
  go_ret2
  exact ⟨_, rfl, rfl, rfl⟩
set_option maxHeartbeats 1000000 in
theorem rSum_err (w : World) (v : Value) (xs : List ByteArray) (hv : Sl eS w v xs) (hl : xs.length ≤ 4096) (hsz : ∀ s ∈ xs, s.size ≤ 1000000) (h : chks xs ≠ 0) :
    Calls Tryd.prog 21 #[v] w (Rets fun v w' => v = .tuple #[.string ⟨#[]⟩, .int .i64 (chks xs)] ∧ w = w') := by
  obtain ⟨a, b, o, c, rfl, hi, hp, hcc, hm⟩ := hv.open elemStr
  have HSZ := Lib.hid hsz; have HN := Lib.hid h
  clear hv hsz h
  go_enter Tryd.func21, Tryd.ntmps21
  go_wp2
  go_loop [4] (fun i => ∃ k : Nat, k ≤ xs.length ∧ i = .int .i64 k ∧ Hid (chks xs = chks (xs.drop k))) (fun i => xs.length - (intOf i).toNat)
  case atStart => exact ⟨0, Nat.zero_le _, rfl, Lib.hid rfl⟩
  case round =>
    obtain ⟨k, hk, rfl, hc⟩ := hrel
    by_cases hkn : k < xs.length
    · have h1 : w.cell? ⟨b, o + k, none⟩ = some (.string xs[k]) := hp.2 k hkn
      have E1 : Hid (chks xs = if chk xs[k].data.toList = 0 then chks (xs.drop (k + 1)) else chk xs[k].data.toList) := Lib.hid (by
        rw [hc.out, List.drop_eq_getElem_cons hkn, chks])
      by_cases h0 : chk xs[k].data.toList = 0
      · have hne : (chk xs[k].data.toList != 0) = false := by simp [h0]
        rw [if_pos h0] at E1
        clear h0
        go_wp2_with (go_at_call 36; (with_reducible refine (rCheck_any _ _ (HSZ.out _ (List.getElem_mem hkn))).mono ?_); rintro e w1 ⟨v, rfl, rfl, rfl⟩)
        go_round
        case rel => exact ⟨k + 1, by omega, by go_num, E1⟩
        case measure => simp [intOf]; omega
      · have hne : (chk xs[k].data.toList != 0) = true := by simp [h0]
        rw [if_neg h0] at E1
        clear h0
        go_wp2_with (go_at_call 36; (with_reducible refine (rCheck_any _ _ (HSZ.out _ (List.getElem_mem hkn))).mono ?_); rintro e w1 ⟨v, rfl, rfl, rfl⟩)
        go_ret2
        exact ⟨_, rfl, by rw [E1.out]; rfl, rfl⟩
    · exfalso
      obtain rfl : k = xs.length := by omega
      exact HN.out (by rw [hc.out, List.drop_length]; rfl)
set_option maxHeartbeats 1000000 in
theorem rSum_ok (w : World) (v : Value) (xs : List ByteArray) (zs : List Int) (hv : Sl eS w v xs) (hl : xs.length ≤ 4096) (hz : Goods xs zs) :
    Calls Tryd.prog 21 #[v] w (Rets fun v w' => v = resV zs.sum ∧ Below w.heap.size w w') := by
  have HV := Lib.hid hv
  obtain ⟨a, b, o, c, rfl, hi, hp, hcc, hm⟩ := hv.open elemStr
  obtain ⟨tt, kk, hr, -, -⟩ := resV_cases zs.sum
  have HZ := Lib.hid hz; have HL := Lib.hid hz.len; have HR := Lib.hid hr
  clear hv hz hr
  go_enter Tryd.func21, Tryd.ntmps21
  go_wp2
  go_loop [4] (fun i => ∃ k : Nat, k ≤ xs.length ∧ i = .int .i64 k) (fun i => xs.length - (intOf i).toNat)
  case atStart => exact ⟨0, Nat.zero_le _, rfl⟩
  case round =>
    obtain ⟨k, hk, rfl⟩ := hrel
    by_cases hkn : k < xs.length
    · have h1 : w.cell? ⟨b, o + k, none⟩ = some (.string xs[k]) := hp.2 k hkn
      have hg := HZ.out.get k hkn (by rw [HL.out]; exact hkn)
      have HC := Lib.hid hg.chk; have HG := Lib.hid hg.size
      clear hg
      go_wp2_with (go_at_call 36; (with_reducible refine (rCheck_any _ _ (by have := HG.out; omega)).mono ?_); rintro e w1 ⟨v, rfl, rfl, rfl⟩; rw [HC.out])
      go_round
      case rel => exact ⟨k + 1, by omega, by go_num⟩
      case measure => simp [intOf]; omega
    · obtain rfl : k = xs.length := by omega
      go_wp2_with (first
        | (go_at_call 51; (with_reducible refine (Total_any _ _ xs zs HV.out HZ.out hl).mono ?_); rintro e w1 ⟨v, rfl, rfl, hd1, hb1⟩; have HD1 := Lib.hid hd1; clear hd1)
        | (go_at_call 43; (with_reducible refine (Bounded_any _ zs.sum (by have := HD1.out; omega)).mono ?_); rintro e w2 ⟨v, rfl, rfl, hb2⟩; rw [HR.out]))
      go_ret2
      exact ⟨_, rfl, by rw [HR.out]; rfl, hb1.trans (hb2.mono hb1.size)⟩
end Go.Proofs.YtcjcknncajinpaaDoor
