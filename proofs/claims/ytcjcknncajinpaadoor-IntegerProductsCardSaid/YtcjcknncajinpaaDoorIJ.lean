/- The walk of integer's number.down. -/
import Derived.Test.YtcjcknncajinpaaDoorIJ0
namespace Go.Proofs.YtcjcknncajinpaaDoor
open Go.RowKit
set_option maxRecDepth 100000
set_option maxHeartbeats 1000000 in
theorem down_any (w : World) (x y : Value) (s t : Int) (hx : Num w x s) (hy : Num w y t) (ht : t ≠ 0) (hl : wl s ≤ 1000000000000) (hl' : wl t ≤ 1000000000000) :
    Calls Tryd.prog 58 #[x, y] w (Rets fun v w' => DownOf s t v w' ∧ Below w.heap.size w w') := by
  obtain ⟨m, a, n, c, rfl, hm, hs⟩ := hx
  obtain ⟨m', a', n', c', rfl, hm', hs'⟩ := hy
  have HX := Lib.hid hs; have HY := Lib.hid hs'; have HM := Lib.hid hm; have HM' := Lib.hid hm'
  clear hs hs' hm hm'
  unfold wl at hl hl'
  have htn : 0 < t.natAbs := by omega
  go_enter Tryd.func58, Tryd.ntmps58
  go_wp2_with fail
  have hb0 : Below w.heap.size w ((((w.alloc (.cells #[.bool m, .slice a n c] 64)).alloc (.cells #[.bool m', .slice a' n' c'] 64)).alloc (.cells #[.bool false, .slice none 0 0] 64)).alloc (.cells #[.bool false, .slice none 0 0] 64)) :=
    ((((Below.refl _ w).alloc (Nat.le_refl _) _).alloc (by simp) _).alloc (by simp; omega) _).alloc (by simp; omega) _
  refine (divided_any _ _ _ s.natAbs t.natAbs (HX.out.below hb0 (Nat.le_refl _)) (HY.out.below hb0 (Nat.le_refl _)) htn hl hl').mono ?_
  rintro e w1 ⟨v, rfl, ⟨q, r, rfl, hq, hr⟩, hb1⟩
  obtain ⟨aq, nq, cq, rfl⟩ := hq.shape
  obtain ⟨ar, nr, cr, rfl⟩ := hr.shape
  have hnr := hr.len.1
  have hnr0 : nr = 0 ↔ s.natAbs % t.natAbs = 0 := by
    have := digs_pos_len (s.natAbs % t.natAbs)
    rw [← hnr] at this; omega
  have hDB : DB w m a n c m' a' n' c' t.natAbs (.slice aq nq cq) (s.natAbs / t.natAbs) (.slice ar nr cr) (s.natAbs % t.natAbs) w1 := by
    have h1 := Blk.new w [.bool m, .slice a n c] 64
    have h2 := Blk.new (w.alloc (.cells #[.bool m, .slice a n c] 64)) [.bool m', .slice a' n' c'] 64
    have h3 := Blk.new ((w.alloc (.cells #[.bool m, .slice a n c] 64)).alloc (.cells #[.bool m', .slice a' n' c'] 64)) [.bool false, .slice none 0 0] 64
    have h4 := Blk.new (((w.alloc (.cells #[.bool m, .slice a n c] 64)).alloc (.cells #[.bool m', .slice a' n' c'] 64)).alloc (.cells #[.bool false, .slice none 0 0] 64)) [.bool false, .slice none 0 0] 64
    rw [World.size_alloc] at h2
    rw [World.size_alloc, World.size_alloc] at h3
    rw [World.size_alloc, World.size_alloc, World.size_alloc] at h4
    have l := Nat.le_refl
    exact ⟨hb0.trans (hb1.mono (by simp; omega)), (((h1.alloc _).alloc _).alloc _).below hb1 (l _), ((h2.alloc _).alloc _).below hb1 (l _), ⟨_, _, (h3.alloc _).below hb1 (l _), by simp [eU], by simp [eU]⟩, ⟨_, _, h4.below hb1 (l _), by simp [eU], by simp [eU]⟩,
      (HY.out.below hb0 (l _)).below hb1 (l _), hq, hr⟩
  have fx := hDB.facts
  have f1 := fx.1
  have f2 := fx.2.1
  have f3 := fx.2.2.1
  have f4 := fx.2.2.2
  have HDB := Lib.hid hDB
  have HNR := Lib.hid hnr0
  clear hDB hq hr hnr hnr0 hb1 hb0 fx
  by_cases hmm : m = m'
  · subst hmm
    have e2 := (down_exact s t ht (.inl (by rw [← HM.out, ← HM'.out])))
    rw [← HM.out, ← HM'.out] at e2
    rw [show (m != m) = false by cases m <;> rfl] at e2
    have E2 := Lib.hid e2; clear e2
    go_wp2_with fail
    go_region_held3 (fun w' => DB w m a n c m a' n' c' t.natAbs (.slice aq nq cq) (s.natAbs / t.natAbs) (.slice ar nr cr) (s.natAbs % t.natAbs) w' ∧ (w'.cell? ⟨w.heap.size, 0, none⟩ = some (.bool m) ∧ w'.cell? ⟨w.heap.size, 1, none⟩ = some (.slice a n c) ∧ w'.cell? ⟨w.heap.size + 1, 0, none⟩ = some (.bool m) ∧ w'.cell? ⟨w.heap.size + 1, 1, none⟩ = some (.slice a' n' c')))
      (((with_reducible refine DB.both ?_); first
        | with_reducible exact HDB.out.drew
        | with_reducible refine DB.drew (DB.alloc HDB.out _)
        | with_reducible refine DB.store (And.left (by assumption)) _ (by omega) _ _ _ _
        | with_reducible refine DB.keep (And.left (by assumption)) (by assumption)
        | with_reducible refine DB.alloc (And.left (by assumption)) _))
      (first
        | (go_at_call_of 60 (Value.slice aq nq cq); (with_reducible refine (signed_any _ _ (.slice aq nq cq) _ (DB.sq (And.left (by assumption)))).mono ?_); rintro e w' ⟨v, rfl, ⟨mA, aA, nA, cA, rfl, hmA, hsA⟩, hbA⟩; have HMA := Lib.hid hmA; clear hmA)
        | (go_at_call_of 60 (Value.slice ar nr cr); (with_reducible refine (signed_any _ _ (.slice ar nr cr) _ (DB.sr (And.left (by assumption)))).mono ?_); rintro e w'' ⟨v, rfl, ⟨mB, aB, nB, cB, rfl, hmB, hsB⟩, hbB⟩; have HMB := Lib.hid hmB; clear hmB; have hk := DB.keep (And.left (by assumption)) hbB; obtain ⟨p1, q1, x1, x2, x3, x4⟩ := hk.b1.facts; obtain ⟨p2, q2, y1, y2, y3, y4⟩ := hk.b2.facts))
    all_goals
      obtain ⟨r0, r1, r2, r3, hb, hst⟩ := hk.stored mA aA nA cA mB aB nB cB rfl
      have hsA' := hsA.below hbB (Nat.le_refl _)
      rw [E2.out.1] at hsA' HMA
      rw [E2.out.2] at hsB HMB
      have GA := Lib.hid (hst _ _ hsA'); have GB := Lib.hid (hst _ _ hsB); have HB := Lib.hid hb
      clear hst hsA hsA' hsB hb
      go_wp2
      refine bodyPost_ret (v := .tuple #[.agg #[.bool mA, .slice aA nA cA], .agg #[.bool mB, .slice aB nB cB]]) (by simp [results, Tryd.results58, go_sem, r0, r1, r2, r3]) rfl ?_
      exact ⟨_, rfl, ⟨_, _, rfl, ⟨_, _, _, _, rfl, HMA.out, GA.out⟩, ⟨_, _, _, _, rfl, HMB.out, GB.out⟩⟩, HB.out⟩
  obtain rfl : m' = !m := by cases m <;> cases m' <;> simp_all
  have hne : (m == !m) = false := by cases m <;> rfl
  have hne' : (m != !m) = true := by cases m <;> rfl
  clear hmm
  have hst0 : decide (s < 0) ≠ decide (t < 0) := by rw [← HM.out, ← HM'.out]; cases m <;> simp
  by_cases hz : nr = 0
  · have e2 := (down_exact s t ht (.inr (HNR.out.1 hz)))
    rw [← HM.out, ← HM'.out, hne'] at e2
    have E2 := Lib.hid e2; clear e2 hst0 HNR
    subst hz
    go_wp2_with fail
    go_region_held3 (fun w' => DB w m a n c (!m) a' n' c' t.natAbs (.slice aq nq cq) (s.natAbs / t.natAbs) (.slice ar 0 cr) (s.natAbs % t.natAbs) w' ∧ (w'.cell? ⟨w.heap.size, 0, none⟩ = some (.bool m) ∧ w'.cell? ⟨w.heap.size, 1, none⟩ = some (.slice a n c) ∧ w'.cell? ⟨w.heap.size + 1, 0, none⟩ = some (.bool (!m)) ∧ w'.cell? ⟨w.heap.size + 1, 1, none⟩ = some (.slice a' n' c')))
      (((with_reducible refine DB.both ?_); first
        | with_reducible exact HDB.out.drew
        | with_reducible refine DB.drew (DB.alloc HDB.out _)
        | with_reducible refine DB.store (And.left (by assumption)) _ (by omega) _ _ _ _
        | with_reducible refine DB.keep (And.left (by assumption)) (by assumption)
        | with_reducible refine DB.alloc (And.left (by assumption)) _))
      (first
        | (go_at_call_of 60 (Value.slice aq nq cq); (with_reducible refine (signed_any _ _ (.slice aq nq cq) _ (DB.sq (And.left (by assumption)))).mono ?_); rintro e w' ⟨v, rfl, ⟨mA, aA, nA, cA, rfl, hmA, hsA⟩, hbA⟩; have HMA := Lib.hid hmA; clear hmA)
        | (go_at_call_of 60 (Value.slice ar 0 cr); (with_reducible refine (signed_any _ _ (.slice ar 0 cr) _ (DB.sr (And.left (by assumption)))).mono ?_); rintro e w'' ⟨v, rfl, ⟨mB, aB, nB, cB, rfl, hmB, hsB⟩, hbB⟩; have HMB := Lib.hid hmB; clear hmB; have hk := DB.keep (And.left (by assumption)) hbB; obtain ⟨p1, q1, x1, x2, x3, x4⟩ := hk.b1.facts; obtain ⟨p2, q2, y1, y2, y3, y4⟩ := hk.b2.facts))
    all_goals
      obtain ⟨r0, r1, r2, r3, hb, hst⟩ := hk.stored mA aA nA cA mB aB nB cB rfl
      have hsA' := hsA.below hbB (Nat.le_refl _)
      rw [E2.out.1] at hsA' HMA
      rw [E2.out.2] at hsB HMB
      have GA := Lib.hid (hst _ _ hsA'); have GB := Lib.hid (hst _ _ hsB); have HB := Lib.hid hb
      clear hst hsA hsA' hsB hb
      go_wp2
      refine bodyPost_ret (v := .tuple #[.agg #[.bool mA, .slice aA nA cA], .agg #[.bool mB, .slice aB nB cB]]) (by simp [results, Tryd.results58, go_sem, r0, r1, r2, r3]) rfl ?_
      exact ⟨_, rfl, ⟨_, _, rfl, ⟨_, _, _, _, rfl, HMA.out, GA.out⟩, ⟨_, _, _, _, rfl, HMB.out, GB.out⟩⟩, HB.out⟩
  · have e2 := (down_rest s t ht hst0 (fun h => hz (HNR.out.2 h)))
    rw [← HM'.out] at e2
    have E2 := Lib.hid e2; clear e2 hst0 HNR
    have hlq : (digs 1000000000 (s.natAbs / t.natAbs)).length ≤ (digs 1000000000 s.natAbs).length := digs_len_mono _ (by omega) (Nat.div_le_self _ _)
    have hlr : (digs 1000000000 (s.natAbs % t.natAbs)).length ≤ (digs 1000000000 t.natAbs).length := digs_len_mono _ (by omega) (Nat.le_of_lt (Nat.mod_lt _ htn))
    have hvr : val 1000000000 (digs 1000000000 (s.natAbs % t.natAbs)) ≤ val 1000000000 (digs 1000000000 t.natAbs) := by rw [val_digs _ _ (by omega), val_digs _ _ (by omega)]; exact Nat.le_of_lt (Nat.mod_lt _ htn)
    have e1 : val 1000000000 (digs 1000000000 (s.natAbs / t.natAbs)) + val 1000000000 [1] = s.natAbs / t.natAbs + 1 := by rw [val_digs _ _ (by omega)]; rfl
    have e3 : val 1000000000 (digs 1000000000 t.natAbs) - val 1000000000 (digs 1000000000 (s.natAbs % t.natAbs)) = t.natAbs - s.natAbs % t.natAbs := by rw [val_digs _ _ (by omega), val_digs _ _ (by omega)]
    have HLQ := Lib.hid hlq; have HLR := Lib.hid hlr; have HVR := Lib.hid hvr; have E1 := Lib.hid e1; have E3 := Lib.hid e3
    clear hlq hlr hvr e1 e3
    go_wp2_with fail
    go_region_held3 (fun w' => DB w m a n c (!m) a' n' c' t.natAbs (.slice aq nq cq) (s.natAbs / t.natAbs) (.slice ar nr cr) (s.natAbs % t.natAbs) w' ∧ (w'.cell? ⟨w.heap.size, 0, none⟩ = some (.bool m) ∧ w'.cell? ⟨w.heap.size, 1, none⟩ = some (.slice a n c) ∧ w'.cell? ⟨w.heap.size + 1, 0, none⟩ = some (.bool (!m)) ∧ w'.cell? ⟨w.heap.size + 1, 1, none⟩ = some (.slice a' n' c')))
      (((with_reducible refine DB.both ?_); first
        | with_reducible exact HDB.out.drew
        | with_reducible refine DB.drew (DB.alloc HDB.out _)
        | with_reducible refine DB.store (And.left (by assumption)) _ (by omega) _ _ _ _
        | with_reducible refine DB.keep (And.left (by assumption)) (by assumption)
        | with_reducible refine DB.alloc (And.left (by assumption)) _))
      (first
        | (go_at_call 76; (with_reducible refine (plus_any _ _ _ _ [1] (DB.sq (And.left (by assumption))) ?hone (digs_lt _ _ (by omega)) (by simp) (Nat.le_trans HLQ.out (by omega)) (by simp)).mono ?_); (case hone => exact (Sl.single (enc := eU) _ 1 _ rfl _).below (Below.refl _ _).drew (Nat.le_refl _)); rintro e wP ⟨v, rfl, hvP, hbP⟩; rw [E1.out] at hvP; obtain ⟨ap, np, cp, rfl⟩ := hvP.shape)
        | (go_at_call 78; (with_reducible refine (less_any _ _ _ _ _ (DB.st (And.left (by assumption))) (DB.sr (And.left (by assumption))) (digs_lt _ _ (by omega)) (digs_lt _ _ (by omega)) (by omega) HLR.out HVR.out).mono ?_); rintro e wL ⟨v, rfl, hvL, hbL⟩; rw [E3.out] at hvL; obtain ⟨al, nl, cl, rfl⟩ := hvL.shape)
        | (go_at_call_of 60 (Value.slice al nl cl); (with_reducible refine (signed_any _ _ (.slice al nl cl) _ hvL).mono ?_); rintro e w'' ⟨v, rfl, ⟨mB, aB, nB, cB, rfl, hmB, hsB⟩, hbB⟩; have HMB := Lib.hid hmB; clear hmB; have hk := DB.keep (And.left (by assumption)) hbB; obtain ⟨p1, q1, x1, x2, x3, x4⟩ := hk.b1.facts; obtain ⟨p2, q2, y1, y2, y3, y4⟩ := hk.b2.facts)
        | (go_at_call_of 60 (Value.slice ap np cp); (with_reducible refine (signed_any _ _ (.slice ap np cp) _ hvP).mono ?_); rintro e w' ⟨v, rfl, ⟨mA, aA, nA, cA, rfl, hmA, hsA⟩, hbA⟩; have HMA := Lib.hid hmA; clear hmA))
    all_goals
      obtain ⟨r0, r1, r2, r3, hb, hst⟩ := hk.stored mA aA nA cA mB aB nB cB rfl
      have hsA' := (hsA.below hbL (Nat.le_refl _)).below hbB (Nat.le_refl _)
      rw [E2.out.1] at hsA' HMA
      rw [E2.out.2] at hsB HMB
      have GA := Lib.hid (hst _ _ hsA'); have GB := Lib.hid (hst _ _ hsB); have HB := Lib.hid hb
      clear hst hsA hsA' hsB hb
      go_wp2
      refine bodyPost_ret (v := .tuple #[.agg #[.bool mA, .slice aA nA cA], .agg #[.bool mB, .slice aB nB cB]]) (by simp [results, Tryd.results58, go_sem, r0, r1, r2, r3]) rfl ?_
      exact ⟨_, rfl, ⟨_, _, rfl, ⟨_, _, _, _, rfl, HMA.out, GA.out⟩, ⟨_, _, _, _, rfl, HMB.out, GB.out⟩⟩, HB.out⟩
end Go.Proofs.YtcjcknncajinpaaDoor
