/- The walk of the reference's Check of digraphs. -/
import Derived.Test.YtlnhocgjgmhfgaaGreatDoorPk7
import Derived.BigQuiet
namespace Go.Proofs.YtlnhocgjgmhfgaaGreatDoor
open Go.RowKit
set_option maxRecDepth 100000

theorem rless9_any (w : World) (a b c d : Int) : Calls Tryz.prog 55 #[.int .i64 a, .int .i64 b, .int .i64 c, .int .i64 d] w (Rets fun r w' => r = .bool (lt2 (a, b) (c, d)) ∧ w = w') := by
  by_cases h : a < c
  · have H : Hid (lt2 (a, b) (c, d) = true) := Lib.hid (by simp [lt2, h])
    go_enter Tryz.func55, Tryz.ntmps55
    go_wp2
    go_ret
    exact ⟨_, rfl, by rw [H.out]; rfl, rfl⟩
  have h1 : decide (a < c) = false := by simp; omega
  by_cases e : a = c
  · have h2 : (a == c) = true := by simp [e]
    obtain ⟨t, ht⟩ : ∃ t, decide (b < d) = t := ⟨_, rfl⟩
    have H : Hid (lt2 (a, b) (c, d) = t) := Lib.hid (by rw [← ht]; simp [lt2, e])
    clear h e
    go_enter Tryz.func55, Tryz.ntmps55
    go_wp2
    go_ret
    exact ⟨_, rfl, by rw [H.out]; rfl, rfl⟩
  · have h2 : (a == c) = false := by simp [e]
    have H : Hid (lt2 (a, b) (c, d) = false) := Lib.hid (by simp [lt2, e, h])
    clear h e
    go_enter Tryz.func55, Tryz.ntmps55
    go_wp2
    go_ret
    exact ⟨_, rfl, by rw [H.out]; rfl, rfl⟩
theorem rless9_q {w : World} {n : Nat} {a b c d : Int} {t : Bool} (h : lt2 (a, b) (c, d) = t) : Calls Tryz.prog 55 #[.int .i64 a, .int .i64 b, .int .i64 c, .int .i64 d] (w.drewN n) fun e w' => e = .returned (.bool t) ∧ w' = w.drewN n :=
  (rless9_any (w.drewN n) a b c d).mono (by rintro e w' ⟨v, rfl, rfl, rfl⟩; exact ⟨by rw [h], rfl⟩)

set_option maxHeartbeats 4000000 in
theorem rDCheck_any (w : World) (n : Int) (v : Value) (es : List (Int × Int × Int)) (hv : SlK e3 3 w v es) :
    Calls Tryz.prog 27 #[.agg #[.int .i64 n, v]] w (Rets fun r w' => r = .int .i64 (chkDg n es) ∧ Below w.heap.size w w') := by
  obtain ⟨ad, b, o, c, rfl, hi, hp, hc, hm⟩ := hv.open elemArc
  unfold maxLen at hm
  clear hv
  have HQ := Lib.hid ((Below.refl w.heap.size w).alloc (Nat.le_refl _) (.cells #[.int .i64 n, .slice ad es.length c] 28))
  by_cases hn1 : n < 1
  · have H : Hid (chkDg n es = 2) := Lib.hid (by unfold chkDg; rw [if_pos (.inl hn1)])
    go_enter Tryz.func27, Tryz.ntmps27
    go_wp2
    go_ret
    exact ⟨_, rfl, by rw [H.out]; rfl, HQ.out⟩
  by_cases hn2 : 12 < n
  · have H : Hid (chkDg n es = 2) := Lib.hid (by unfold chkDg; rw [if_pos (.inr hn2)])
    go_enter Tryz.func27, Tryz.ntmps27
    go_wp2
    go_ret
    exact ⟨_, rfl, by rw [H.out]; rfl, HQ.out⟩
  have n1 : 1 ≤ n := by omega
  have n12 : n ≤ 12 := by omega
  have H : Hid (chkDg n es = dstep n (lastE es 0) (es.drop 0)) := Lib.hid (by unfold chkDg; rw [if_neg (by omega)]; simp [lastE])
  have HG := Lib.hid (Blk.new w [.int .i64 n, .slice ad es.length c] 28)
  obtain ⟨W, hW⟩ : ∃ W, w.alloc (.cells #[.int .i64 n, .slice ad es.length c] 28) = W := ⟨_, rfl⟩
  rw [show [Value.int .i64 n, .slice ad es.length c].toArray = #[Value.int .i64 n, .slice ad es.length c] from rfl, hW] at HG
  rw [hW] at HQ
  have HW := Lib.hid hW
  have HB0 := Lib.hid (Below.refl W.heap.size W)
  clear hW
  go_enter Tryz.func27, Tryz.ntmps27
  go_wp2
  rw [HW.out]
  go_loopw [3] (fun i wr => ∃ k : Nat, k ≤ es.length ∧ i = .int .i64 k ∧ Hid (chkDg n es = dstep n (lastE es k) (es.drop k)) ∧ Hid (Below W.heap.size W wr)) (fun i _ => es.length - (intOf i).toNat)
  case atStart => exact ⟨0, Nat.zero_le _, rfl, H, HB0⟩
  case round =>
    clear HB0 H
    obtain ⟨k, hk, rfl, hH, hB⟩ := hrel
    have hqw := HQ.out.trans (hB.out.mono HQ.out.size)
    have hGr := HG.out.below hB.out (Nat.le_refl _)
    have g0 := hGr.cell 0 _ rfl
    have g1 := hGr.cell 1 _ rfl
    have hlg := hGr.lt
    by_cases hkn : k < es.length
    · have hAt := dstep_at n (lastE es k) es k hkn
      have HLS := Lib.hid (lastE_succ es k hkn)
      obtain ⟨⟨p, q, m⟩, hx⟩ : ∃ x, es[k] = x := ⟨_, rfl⟩
      have a0 : wr.cell? ⟨b, o + k * 3, none⟩ = some (.int .i64 p) := hp.at hqw (Nat.le_refl _) k hkn 0 _ (by rw [hx]; rfl)
      have a1 : wr.cell? ⟨b, o + k * 3 + 1, none⟩ = some (.int .i64 q) := hp.at hqw (Nat.le_refl _) k hkn 1 _ (by rw [hx]; rfl)
      have a2 : wr.cell? ⟨b, o + k * 3 + 2, none⟩ = some (.int .i64 m) := hp.at hqw (Nat.le_refl _) k hkn 2 _ (by rw [hx]; rfl)
      have hlb := (hp.below hqw (Nat.le_refl _)).1 (by omega)
      rw [hx] at hAt HLS
      rw [← hH.out] at hAt
      have HQW := Lib.hid hqw
      have HP := Lib.hid hp
      have HOB := Lib.hid (hqw.alloc hqw.size (.cells #[.int .i64 p, .int .i64 q, .int .i64 m] 83))
      have HX := Lib.hid (Blk.new wr [.int .i64 p, .int .i64 q, .int .i64 m] 83)
      have hGa := hGr.alloc (.cells #[.int .i64 p, .int .i64 q, .int .i64 m] 83)
      have p1 : (0 : Int) ≤ (k : Int) := by omega
      have p2 : (k : Int) < (es.length : Int) := by omega
      clear hH hx hGr hqw
      by_cases hE : eOk n (p, q, m) = true
      · rw [if_pos hE] at hAt
        have hE2 : (vtx n p = true ∧ vtx n q = true) ∧ 1 ≤ m ∧ m ≤ 50 := by simpa [eOk] using hE
        obtain ⟨⟨hv1, hv2⟩, hm1, hm2⟩ := hE2
        rw [vtx_iff] at hv1 hv2
        obtain ⟨hp0, hpn⟩ := hv1
        obtain ⟨hq0, hqn⟩ := hv2
        have d1 : decide (p < 0) = false := by simp; omega
        have d2 : decide (n ≤ p) = false := by simp; omega
        have d3 : decide (q < 0) = false := by simp; omega
        have d4 : decide (n ≤ q) = false := by simp; omega
        have d5 : decide (m < 1) = false := by simp; omega
        have d6 : decide (50 < m) = false := by simp; omega
        clear hE
        by_cases hk0 : k = 0
        · subst hk0
          have hl2 : lt2 (lastE es 0) (p, q) = true := by simp [lastE, lt2]; omega
          rw [if_pos hl2] at hAt
          have H := Lib.hid hAt
          clear hAt hl2
          simp only [Nat.zero_mul, Nat.add_zero] at a0 a1 a2
          go_wp2_with fail
          go_quiet (fail)
          have b3 := below_drewN (hB.out.alloc hB.out.size (.cells #[.int .i64 p, .int .i64 q, .int .i64 m] 83)) nq
          go_wp2
          go_roundw
          case rel => exact ⟨1, by omega, by go_num, Lib.hid (by rw [HLS.out]; exact H.out), Lib.hid b3⟩
          case measure => simp [intOf]; omega
        · have hk1 : k - 1 < es.length := by omega
          obtain ⟨⟨x1, x2, x3⟩, hy⟩ : ∃ x, es[k - 1] = x := ⟨_, rfl⟩
          have hl : lastE es k = (x1, x2) := by
            have := lastE_succ es (k - 1) hk1
            rw [show k - 1 + 1 = k by omega, hy] at this
            exact this
          rw [hl] at hAt
          have WA := Lib.hid (show Hid True from Lib.hid trivial)
          have z0 : (wr.alloc (.cells #[.int .i64 p, .int .i64 q, .int .i64 m] 83)).cell? ⟨b, o + (k - 1) * 3, none⟩ = some (.int .i64 x1) := HP.out.at HOB.out (Nat.le_refl _) (k - 1) hk1 0 _ (by rw [hy]; rfl)
          have z1 : (wr.alloc (.cells #[.int .i64 p, .int .i64 q, .int .i64 m] 83)).cell? ⟨b, o + (k - 1) * 3 + 1, none⟩ = some (.int .i64 x2) := HP.out.at HOB.out (Nat.le_refl _) (k - 1) hk1 1 _ (by rw [hy]; rfl)
          have u0 : (wr.alloc (.cells #[.int .i64 p, .int .i64 q, .int .i64 m] 83)).cell? ⟨wr.heap.size, 0, none⟩ = some (.int .i64 p) := HX.out.cell 0 _ rfl
          have u1 : (wr.alloc (.cells #[.int .i64 p, .int .i64 q, .int .i64 m] 83)).cell? ⟨wr.heap.size, 1, none⟩ = some (.int .i64 q) := HX.out.cell 1 _ rfl
          have hk2 : (k : Int) - 1 = ((k - 1 : Nat) : Int) := by omega
          have k1 : 0 < k := by omega
          have k2 : (0 : Int) < (k : Int) := by omega
          clear hl hy
          by_cases hlt : lt2 (x1, x2) (p, q) = true
          · rw [if_pos hlt] at hAt
            have H := Lib.hid hAt; have HLT := Lib.hid hlt
            clear hAt hlt
            go_wp2_with fail
            go_quiet ((go_at_call 55; exact Calls.quiet_of_same (rless9_q HLT.out)))
            have b3 := below_drewN (hB.out.alloc hB.out.size (.cells #[.int .i64 p, .int .i64 q, .int .i64 m] 83)) nq
            go_wp2
            go_roundw
            case rel => exact ⟨k + 1, by omega, by go_num, Lib.hid (by rw [HLS.out]; exact H.out), Lib.hid b3⟩
            case measure => simp [intOf]; omega
          · rw [if_neg hlt] at hAt
            have H := Lib.hid hAt; have HLT := Lib.hid (show lt2 (x1, x2) (p, q) = false by simpa using hlt)
            clear hAt hlt
            go_wp2_with fail
            go_quiet ((go_at_call 55; exact Calls.quiet_of_same (rless9_q HLT.out)))
            have b3 := below_drewN HOB.out nq
            go_wp2
            go_ret
            exact ⟨_, rfl, by rw [H.out]; rfl, b3⟩
      · rw [if_neg hE] at hAt
        have H := Lib.hid hAt
        have hc : p < 0 ∨ (decide (p < 0) = false ∧ n ≤ p) ∨ (decide (p < 0) = false ∧ decide (n ≤ p) = false ∧ q < 0) ∨ (decide (p < 0) = false ∧ decide (n ≤ p) = false ∧ decide (q < 0) = false ∧ n ≤ q) ∨ (decide (p < 0) = false ∧ decide (n ≤ p) = false ∧ decide (q < 0) = false ∧ decide (n ≤ q) = false ∧ m < 1) ∨ (decide (p < 0) = false ∧ decide (n ≤ p) = false ∧ decide (q < 0) = false ∧ decide (n ≤ q) = false ∧ decide (m < 1) = false ∧ 50 < m) := by
          have hE2 : ¬ ((0 ≤ p ∧ p < n) ∧ (0 ≤ q ∧ q < n) ∧ 1 ≤ m ∧ m ≤ 50) := fun h => hE (by simp [eOk, vtx, h])
          simp only [decide_eq_false_iff_not]
          omega
        clear hAt hE
        rcases hc with h1 | ⟨h1, h2⟩ | ⟨h1, h2, h3⟩ | ⟨h1, h2, h3, h4⟩ | ⟨h1, h2, h3, h4, h5⟩ | ⟨h1, h2, h3, h4, h5, h6⟩
        all_goals
          go_wp2
          go_ret
          exact ⟨_, rfl, by rw [H.out]; rfl, HOB.out⟩
    · obtain rfl : k = es.length := by omega
      have H : Hid (chkDg n es = 0) := Lib.hid (by rw [hH.out, dstep_end])
      clear hH hGr
      go_wp2
      go_ret
      exact ⟨_, rfl, by rw [H.out]; rfl, hqw⟩
end Go.Proofs.YtlnhocgjgmhfgaaGreatDoor
