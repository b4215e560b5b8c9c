/- The walk of the law IntegerTotals. -/
import Derived.Test.YtcjcknncajinpaaDoorL1
import Derived.Test.YtcjcknncajinpaaDoorL2
import Derived.Test.YtcjcknncajinpaaDoorRT
namespace Go.Proofs.YtcjcknncajinpaaDoor
open Go.RowKit
set_option maxRecDepth 100000

/-- Are these texts few and short, or too many of them? -/
def fewAll (xs : List ByteArray) : Bool := if 40 < xs.length then decide (4096 < xs.length) && decide (xs.length < 8192) else xs.all few
set_option maxHeartbeats 1000000 in
theorem FewAll_any (w : World) (v : Value) (xs : List ByteArray) (hv : Sl eS w v xs) (hsz : ∀ s ∈ xs, s.size ≤ 9223372036854775807) :
    Calls Tryd.prog 19 #[v] w (Rets fun v w' => v = .bool (fewAll xs) ∧ w = w') := by
  obtain ⟨a, b, o, c, rfl, hi, hp, hcc, hcm⟩ := hv.open elemStr
  have HSZ := Lib.hid hsz
  have hlen := hv.len
  clear hv hsz
  unfold maxLen at hcm hlen
  by_cases h40 : 40 < xs.length
  · by_cases h1 : 4096 < xs.length
    · by_cases h2 : xs.length < 8192
      · have HS := Lib.hid (show fewAll xs = true by unfold fewAll; rw [if_pos h40]; simp [h1, h2])
        go_enter Tryd.func19, Tryd.ntmps19
        go_wp2
        go_ret
        exact ⟨_, rfl, by rw [HS.out]; exact congrArg Value.bool (by simp; omega), rfl⟩
      · have HS := Lib.hid (show fewAll xs = false by unfold fewAll; rw [if_pos h40]; simp [h1, h2])
        go_enter Tryd.func19, Tryd.ntmps19
        go_wp2
        go_ret
        exact ⟨_, rfl, by rw [HS.out]; exact congrArg Value.bool (by simp; omega), rfl⟩
    · have HS := Lib.hid (show fewAll xs = false by unfold fewAll; rw [if_pos h40]; simp [h1])
      go_enter Tryd.func19, Tryd.ntmps19
      go_wp2
      go_ret
      exact ⟨_, rfl, by rw [HS.out]; rfl, rfl⟩
  · have HF := Lib.hid (show fewAll xs = xs.all few by unfold fewAll; rw [if_neg h40])
    go_enter Tryd.func19, Tryd.ntmps19
    go_wp2
    go_loop [3] (fun i => ∃ k : Nat, k ≤ xs.length ∧ i = .int .i64 k ∧ Hid (xs.all few = (xs.drop k).all few)) (fun i => xs.length - (intOf i).toNat)
    case atStart => exact ⟨0, Nat.zero_le _, rfl, Lib.hid rfl⟩
    case round =>
      obtain ⟨k, hk, rfl, hall⟩ := hrel
      by_cases hkn : k < xs.length
      · have h1 : w.cell? ⟨b, o + k, none⟩ = some (.string xs[k]) := hp.2 k hkn
        have hss := HSZ.out xs[k] (List.getElem_mem hkn)
        have HD := Lib.hid (show (xs.drop k).all few = (few xs[k] && (xs.drop (k + 1)).all few) by rw [List.drop_eq_getElem_cons hkn, List.all_cons])
        obtain ⟨s, hs⟩ : ∃ s, xs[k] = s := ⟨_, rfl⟩
        rw [hs] at h1 hss HD
        clear hs
        cases hf : few s
        · have HS := Lib.hid (show fewAll xs = false by rw [HF.out, hall.out, HD.out, hf]; rfl)
          have HB := Lib.hid hf
          clear hf
          go_wp2_with (go_at_call 39; (with_reducible refine (Few_any _ s hss).mono ?_); rintro e w1 ⟨v, rfl, rfl, rfl⟩; rw [HB.out])
          go_ret
          exact ⟨_, rfl, by rw [HS.out]; rfl, rfl⟩
        · have HB := Lib.hid hf
          clear hf
          go_wp2_with (go_at_call 39; (with_reducible refine (Few_any _ s hss).mono ?_); rintro e w1 ⟨v, rfl, rfl, rfl⟩; rw [HB.out])
          go_round
          case rel => exact ⟨k + 1, by omega, by go_num, Lib.hid (by rw [hall.out, HD.out, HB.out, Bool.true_and])⟩
          case measure => simp [intOf]; omega
      · obtain rfl : k = xs.length := by omega
        have HS := Lib.hid (show fewAll xs = true by rw [HF.out, hall.out, List.drop_length]; rfl)
        go_wp2
        go_ret
        exact ⟨_, rfl, by rw [HS.out]; rfl, rfl⟩

theorem sum_both (w0 : World) (v : Value) (xs : List ByteArray) (hv : Sl eS w0 v xs) (h : fewAll xs = true) : ∃ (T : ByteArray) (K : Int),
    (∀ w, Below w0.heap.size w0 w → Env w → Calls Tryd.prog 20 #[v] w (Rets fun v w' => v = .tuple #[.string T, .int .i64 K] ∧ Below w.heap.size w w')) ∧
    (∀ w, Below w0.heap.size w0 w → Env w → Calls Tryd.prog 21 #[v] w (Rets fun v w' => v = .tuple #[.string T, .int .i64 K] ∧ Below w.heap.size w w')) := by
  have hv' : ∀ w, Below w0.heap.size w0 w → Sl eS w v xs := fun w hb => hv.below hb (Nat.le_refl _)
  unfold fewAll at h
  by_cases h40 : 40 < xs.length
  · rw [if_pos h40] at h
    have h1 : 4096 < xs.length := by simp at h; exact h.1
    refine ⟨⟨#[]⟩, 5, fun w hb _ => (Sum_many w v xs (hv' w hb) h1).mono ?_, fun w hb _ => (rSum_many w v xs (hv' w hb) h1).mono ?_⟩
    · rintro e w' ⟨u, rfl, rfl, rfl⟩; exact ⟨_, rfl, rfl, Below.refl _ _⟩
    · rintro e w' ⟨u, rfl, rfl, rfl⟩; exact ⟨_, rfl, rfl, Below.refl _ _⟩
  · rw [if_neg h40] at h
    have hsz : ∀ s ∈ xs, s.size ≤ 1000000 := fun s hs => by have := few_size (List.all_eq_true.1 h s hs); omega
    by_cases hc : chks xs = 0
    · obtain ⟨zs, hz⟩ := Goods.of xs hc
      refine ⟨resT zs.sum, resK zs.sum, fun w hb he => ?_, fun w hb he => ?_⟩
      · rw [← resV_eq]; exact Sum_ok w v xs zs (hv' w hb) (by omega) hz hc he
      · rw [← resV_eq]; exact rSum_ok w v xs zs (hv' w hb) (by omega) hz
    · refine ⟨⟨#[]⟩, chks xs, fun w hb he => Sum_err w v xs (hv' w hb) (by omega) hsz hc, fun w hb he => (rSum_err w v xs (hv' w hb) (by omega) hsz hc).mono ?_⟩
      rintro e w' ⟨u, rfl, rfl, rfl⟩; exact ⟨_, rfl, rfl, Below.refl _ _⟩

set_option maxHeartbeats 2000000 in
theorem totals_any (w : World) (v : Value) (xs : List ByteArray) (hv : Sl eS w v xs) (hsz : ∀ s ∈ xs, s.size ≤ 9223372036854775807) (he : Env w) :
    Calls Tryd.prog 5 #[v] w (Rets fun v w' => v = .bool true ∧ Below w.heap.size w w') := by
  have HV := Lib.hid hv
  obtain ⟨a, b, o, c, rfl, hi, hp, hcc, hcm⟩ := hv.open elemStr
  have HE := Lib.hid he; have HSZ := Lib.hid hsz
  clear he hsz hi hp hcc hcm
  cases hf : fewAll xs
  · have HF := Lib.hid hf; clear hf hv
    go_enter Tryd.func5, Tryd.ntmps5
    go_wp2_with (first
      | (go_at_call 19; (with_reducible refine (FewAll_any _ _ xs HV.out HSZ.out).mono ?_); rintro e w1 ⟨v, rfl, rfl, rfl⟩; rw [HF.out])
      | (go_at_call 13; (with_reducible refine (awake_any _ HE.out).mono ?_); rintro e w2 ⟨v, rfl, rfl, hb2⟩))
    go_ret
    exact ⟨_, rfl, rfl, hb2⟩
  · have HF := Lib.hid hf
    obtain ⟨T, K, hm1, hm2⟩ := sum_both w _ xs hv hf
    have HM1 := Lib.hid hm1; have HM2 := Lib.hid hm2
    clear hf hm1 hm2 hv
    go_enter Tryd.func5, Tryd.ntmps5
    go_wp2_with (first
      | (go_at_call 19; (with_reducible refine (FewAll_any _ _ xs HV.out HSZ.out).mono ?_); rintro e w1 ⟨v, rfl, rfl, rfl⟩; rw [HF.out])
      | (go_at_call 20; (with_reducible refine (HM1.out _ (Below.refl _ _) HE.out).mono ?_); rintro e w2 ⟨v, rfl, rfl, hb2⟩)
      | (go_at_call 21; (with_reducible refine (HM2.out _ hb2 (HE.out.below hb2 (Nat.le_refl _))).mono ?_); rintro e w3 ⟨v, rfl, rfl, hb3⟩; have b3 := hb2.trans (hb3.mono hb2.size))
      | (go_at_call 13; (with_reducible refine (awake_any _ (HE.out.below b3 (Nat.le_refl _))).mono ?_); rintro e w4 ⟨v, rfl, rfl, hb4⟩; have bf := b3.trans (hb4.mono b3.size)))
    go_ret
    exact ⟨_, rfl, rfl, bf⟩
end Go.Proofs.YtcjcknncajinpaaDoor
