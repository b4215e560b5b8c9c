/- Right digraphs: the walks of notation's Check and of euler's arcs. The check of a digraph: what it answers; the walk of notation's Check for every digraph. -/
import Derived.Test.YtlnhocgjgmhfgaaGreatDoorPk6
namespace Go.Proofs.YtlnhocgjgmhfgaaGreatDoor
open Go.RowKit
set_option maxRecDepth 100000

/-- A right digraph. -/
structure RD (n : Nat) (ns : List (Nat × Nat × Nat)) : Prop where
  pos : 1 ≤ n
  le : n ≤ 12
  rng : ∀ x ∈ ns, x.1 < n ∧ x.2.1 < n ∧ 1 ≤ x.2.2 ∧ x.2.2 ≤ 50
  asc : ns.Pairwise fun x y => x.1 < y.1 ∨ (x.1 = y.1 ∧ x.2.1 < y.2.1)
def lastN (ns : List (Nat × Nat × Nat)) (k : Nat) : Int × Int := lastE (ns.map n3) k
theorem lastN_lt {n : Nat} {ns : List (Nat × Nat × Nat)} (h : RD n ns) (k : Nat) (hk : k < ns.length) :
    (lastN ns k).1 < (ns[k].1 : Int) ∨ ((lastN ns k).1 = (ns[k].1 : Int) ∧ (lastN ns k).2 < (ns[k].2.1 : Int)) := by
  unfold lastN lastE
  split
  · left; simp only; omega
  · have hk1 : k - 1 < ns.length := by omega
    have := List.pairwise_iff_getElem.1 h.asc (k - 1) k hk1 hk (by omega)
    simp [List.getD_eq_getElem?_getD, hk1, n3]
    omega

theorem nwithin_any (w : World) (v lo hi : Int) (h1 : lo ≤ v) (h2 : v ≤ hi) : Calls Tryz.prog 68 #[.int .i64 v, .int .i64 lo, .int .i64 hi] w (Rets fun r w' => r = .bool true ∧ w = w') := by
  go_enter Tryz.func68, Tryz.ntmps68
  go_wp2
  go_ret
  exact ⟨_, rfl, rfl, rfl⟩

set_option maxHeartbeats 4000000 in
theorem NCheck_ok (w : World) (n : Nat) (v : Value) (ns : List (Nat × Nat × Nat)) (hR : RD n ns) (hv : SlK e3 3 w v (ns.map n3)) :
    Calls Tryz.prog 46 #[.agg #[.int .i64 (n : Nat), v]] w (Rets fun r w' => r = .int .i64 0 ∧ Below w.heap.size w w') := by
  obtain ⟨ad, b, o, c, rfl, hi, hp, hc, hm⟩ := hv.open elemArc
  have hnl : (ns.map n3).length = ns.length := List.length_map _
  rw [hnl] at hi hc ⊢
  unfold maxLen at hm
  have n1 : (1 : Int) ≤ (n : Int) := by have := hR.pos; omega
  have n12 : (n : Int) ≤ 12 := by have := hR.le; omega
  have HR := Lib.hid hR; have HNL := Lib.hid hnl
  have HG := Lib.hid (Blk.new w [.int .i64 (n : Nat), .slice ad ns.length c] 28)
  have HQ := Lib.hid ((Below.refl w.heap.size w).alloc (Nat.le_refl _) (.cells #[.int .i64 (n : Nat), .slice ad ns.length c] 28))
  obtain ⟨W, hW⟩ : ∃ W, w.alloc (.cells #[.int .i64 (n : Nat), .slice ad ns.length c] 28) = W := ⟨_, rfl⟩
  have hWs : W.heap.size = w.heap.size + 1 := by rw [← hW]; simp
  rw [show [Value.int .i64 (n : Nat), .slice ad ns.length c].toArray = #[Value.int .i64 (n : Nat), .slice ad ns.length c] from rfl, hW] at HG
  rw [hW] at HQ
  have HW := Lib.hid hW; have HWS := Lib.hid hWs
  have HL0 := Lib.hid (Blk.new W [.int .i64 (-1), .int .i64 (-1)] 60)
  have HB0 := Lib.hid ((Below.refl W.heap.size W).alloc (Nat.le_refl _) (.cells #[.int .i64 (-1), .int .i64 (-1)] 60))
  rw [HWS.out] at HL0
  have g0 := HG.out.cell 0 _ rfl
  have hlg := HG.out.lt
  clear hW hWs hv hR hnl
  go_enter Tryz.func46, Tryz.ntmps46
  clear g0 hlg
  go_wp2_with (go_at_call 68; (with_reducible refine (nwithin_any _ (n : Nat) 1 12 n1 n12).mono ?_); rintro e w' ⟨v, rfl, rfl, rfl⟩)
  rw [HW.out]
  go_loopw [15] (fun i wr => ∃ k : Nat, k ≤ ns.length ∧ i = .int .i64 k ∧ Hid (Blk wr (w.heap.size + 1) [.int .i64 (lastN ns k).1, .int .i64 (lastN ns k).2] 60) ∧ Hid (Below W.heap.size W wr)) (fun i _ => ns.length - (intOf i).toNat)
  case atStart => exact ⟨0, Nat.zero_le _, rfl, HL0, HB0⟩
  case round =>
    clear HL0 HB0
    obtain ⟨k, hk, rfl, hL, hB⟩ := hrel
    by_cases hkn : k < ns.length
    · have hqw := HQ.out.trans (hB.out.mono HQ.out.size)
      have hkm : k < (ns.map n3).length := by rw [HNL.out]; exact hkn
      have HLS := Lib.hid (show lastN ns (k + 1) = ((ns[k].1 : Int), (ns[k].2.1 : Int)) by unfold lastN; rw [lastE_succ _ k hkm, List.getElem_map]; rfl)
      have hlt := lastN_lt HR.out k hkn
      have hrg := HR.out.rng _ (List.getElem_mem hkn)
      obtain ⟨⟨p, q, m⟩, hx⟩ : ∃ x, ns[k] = x := ⟨_, rfl⟩
      have hx3 : (ns.map n3)[k] = n3 (p, q, m) := by rw [List.getElem_map, hx]
      have a0 : wr.cell? ⟨b, o + k * 3, none⟩ = some (.int .i64 (p : Nat)) := hp.at hqw (Nat.le_refl _) k hkm 0 _ (by rw [hx3]; rfl)
      have a1 : wr.cell? ⟨b, o + k * 3 + 1, none⟩ = some (.int .i64 (q : Nat)) := hp.at hqw (Nat.le_refl _) k hkm 1 _ (by rw [hx3]; rfl)
      have a2 : wr.cell? ⟨b, o + k * 3 + 2, none⟩ = some (.int .i64 (m : Nat)) := hp.at hqw (Nat.le_refl _) k hkm 2 _ (by rw [hx3]; rfl)
      have hGr := HG.out.below hB.out (Nat.le_refl _)
      have g0 := hGr.cell 0 _ rfl
      have l0 := hL.out.cell 0 _ rfl
      have l1 := hL.out.cell 1 _ rfl
      have hlb := (hp.below hqw (Nat.le_refl _)).1 (by omega)
      have hlg := hGr.lt
      have hll := hL.out.lt
      rw [hx] at HLS hlt hrg
      obtain ⟨⟨x1, x2⟩, hl⟩ : ∃ l, lastN ns k = l := ⟨_, rfl⟩
      rw [hl] at l0 l1 hL hlt
      simp only at HLS l0 l1 hlt hrg
      obtain ⟨r1, r2, r3, r4⟩ := hrg
      have hL2 : Hid (Blk wr (w.heap.size + 1) [.int .i64 x1, .int .i64 x2] 60) := Lib.hid hL.out
      obtain ⟨z, hz⟩ : ∃ z, cmpP x1 x2 p q = z := ⟨_, rfl⟩
      have hzz := cmpP_nonneg x1 x2 p q
      rw [hz] at hzz
      have HZ := Lib.hid hz
      have hz0 : z < 0 := by
        rcases Int.lt_or_le z 0 with h | h
        · exact h
        · exact absurd hlt (hzz.1 h)
      have hz2 : ¬ (0 : Int) ≤ z := by omega
      have p0 : (0 : Int) ≤ (p : Int) := by omega
      have p1 : (p : Int) ≤ (n : Int) - 1 := by omega
      have q0 : (0 : Int) ≤ (q : Int) := by omega
      have q1 : (q : Int) ≤ (n : Int) - 1 := by omega
      have m0 : (1 : Int) ≤ (m : Int) := by omega
      have m1 : (m : Int) ≤ 50 := by omega
      clear hx hx3 hGr hl hL hqw hzz hz hlt
      go_wp2_with (first
        | (go_at_call 68; (first | with_reducible refine (nwithin_any _ (p : Nat) 0 ((n : Nat) - 1) p0 p1).mono ?_ | with_reducible refine (nwithin_any _ (q : Nat) 0 ((n : Nat) - 1) q0 q1).mono ?_ | with_reducible refine (nwithin_any _ (m : Nat) 1 50 m0 m1).mono ?_); rintro e w' ⟨v, rfl, rfl, rfl⟩)
        | (go_at_call 69; (with_reducible refine (arrCmp_any _ x1 x2 p q).mono ?_); rintro e w2 ⟨v, rfl, rfl, hb2⟩; rw [HZ.out]; have HL3 := Lib.hid (((hL2.out.alloc (.cells #[.int .i64 p, .int .i64 q, .int .i64 m] 83)).alloc (.cells #[.int .i64 p, .int .i64 q] 60)).below hb2 (Nat.le_refl _)); have HP3 := Lib.hid ((show Blk ((wr.alloc (.cells #[.int .i64 p, .int .i64 q, .int .i64 m] 83)).alloc (.cells #[.int .i64 p, .int .i64 q] 60)) (wr.heap.size + 1) [.int .i64 p, .int .i64 q] 60 by have := Blk.new (wr.alloc (.cells #[.int .i64 p, .int .i64 q, .int .i64 m] 83)) [.int .i64 p, .int .i64 q] 60; rwa [World.size_alloc] at this).below hb2 (Nat.le_refl _)); have y0 := HL3.out.cell 0 _ rfl; have y1 := HL3.out.cell 1 _ rfl; have f0 := HL3.out.free 0; have f1 := HL3.out.free 1; have z0 := HP3.out.cell 0 _ rfl; have z1 := HP3.out.cell 1 _ rfl))
      have hbw : Below W.heap.size W w2 := ((hB.out.alloc hB.out.size _).alloc (Nat.le_trans hB.out.size (by simp)) _).trans (hb2.mono (Nat.le_trans hB.out.size (by simp; omega)))
      have HBW := Lib.hid hbw
      clear hbw hb2 y0 y1 f0 f1 z0 z1
      go_roundw
      case rel => exact ⟨k + 1, by omega, by go_num, Lib.hid (by rw [HLS.out]; exact (HL3.out.set 0 (.int .i64 p)).set 1 (.int .i64 q)), Lib.hid ((HBW.out.setCell (p := ⟨w.heap.size + 1, 0, none⟩) (by rw [HWS.out]; exact Nat.le_refl _) (.int .i64 p)).setCell (p := ⟨w.heap.size + 1, 1, none⟩) (by rw [HWS.out]; exact Nat.le_refl _) (.int .i64 q))⟩
      case measure => simp [intOf]; omega
    · obtain rfl : k = ns.length := by omega
      have q := HQ.out.trans (hB.out.mono HQ.out.size)
      clear hL hB
      go_wp2
      go_ret
      exact ⟨_, rfl, rfl, q⟩
end Go.Proofs.YtlnhocgjgmhfgaaGreatDoor

namespace Go.Proofs.YtlnhocgjgmhfgaaGreatDoor
open Go.RowKit
set_option maxRecDepth 100000

def inR (v lo hi : Int) : Bool := decide (lo ≤ v ∧ v ≤ hi)
/-- The first error of arcs behind a pair. -/
def dstep (n : Int) : Int × Int → List (Int × Int × Int) → Int
  | _, [] => 0
  | p, x :: l => if eOk n x then (if lt2 p (x.1, x.2.1) = true then dstep n (x.1, x.2.1) l else 9) else 2
def chkDg (n : Int) (es : List (Int × Int × Int)) : Int := if n < 1 ∨ 12 < n then 2 else dstep n (-1, -1) es
theorem dstep_at (n : Int) (p : Int × Int) (es : List (Int × Int × Int)) (k : Nat) (h : k < es.length) :
    dstep n p (es.drop k) = if eOk n es[k] then (if lt2 p (es[k].1, es[k].2.1) = true then dstep n (es[k].1, es[k].2.1) (es.drop (k + 1)) else 9) else 2 := by
  rw [List.drop_eq_getElem_cons h]; rfl
theorem dstep_end (n : Int) (p : Int × Int) (es : List (Int × Int × Int)) : dstep n p (es.drop es.length) = 0 := by rw [List.drop_length]; rfl
theorem inR_vtx (n v : Int) : inR v 0 (n - 1) = vtx n v := by
  unfold inR vtx; rw [decide_eq_decide]; omega

theorem nwithin2_any (w : World) (v lo hi : Int) : Calls Tryz.prog 68 #[.int .i64 v, .int .i64 lo, .int .i64 hi] w (Rets fun r w' => r = .bool (inR v lo hi) ∧ w = w') := by
  by_cases h0 : lo ≤ v
  · by_cases h1 : v ≤ hi
    · have H : Hid (inR v lo hi = true) := Lib.hid (by simp [inR, h0, h1])
      go_enter Tryz.func68, Tryz.ntmps68
      go_wp2
      go_ret
      exact ⟨_, rfl, by rw [H.out]; rfl, rfl⟩
    · have H : Hid (inR v lo hi = false) := Lib.hid (by simp [inR]; omega)
      have h2 : decide (v ≤ hi) = false := by simp; omega
      go_enter Tryz.func68, Tryz.ntmps68
      go_wp2
      go_ret
      exact ⟨_, rfl, by rw [H.out]; rfl, rfl⟩
  · have H : Hid (inR v lo hi = false) := Lib.hid (by simp [inR]; omega)
    have h2 : decide (lo ≤ v) = false := by simp; omega
    go_enter Tryz.func68, Tryz.ntmps68
    go_wp2
    go_ret
    exact ⟨_, rfl, by rw [H.out]; rfl, rfl⟩

set_option maxHeartbeats 4000000 in
theorem NCheck_any (w : World) (n : Int) (v : Value) (es : List (Int × Int × Int)) (hv : SlK e3 3 w v es) :
    Calls Tryz.prog 46 #[.agg #[.int .i64 n, v]] w (Rets fun r w' => r = .int .i64 (chkDg n es) ∧ Below w.heap.size w w') := by
  obtain ⟨ad, b, o, c, rfl, hi, hp, hc, hm⟩ := hv.open elemArc
  unfold maxLen at hm
  clear hv
  have HQ := Lib.hid ((Below.refl w.heap.size w).alloc (Nat.le_refl _) (.cells #[.int .i64 n, .slice ad es.length c] 28))
  by_cases hn : n < 1 ∨ 12 < n
  · have H : Hid (chkDg n es = 2) := Lib.hid (by unfold chkDg; rw [if_pos hn])
    have V1 : Hid (inR n 1 12 = false) := Lib.hid (by simp [inR]; omega)
    have V2 := V1; have V3 := V1
    clear hn
    go_enter Tryz.func46, Tryz.ntmps46
    go_wp2_with (go_at_call 68; (with_reducible refine (nwithin2_any _ _ _ _).mono ?_); rintro e w' ⟨v, rfl, rfl, rfl⟩; (first | rw [V1.out] | rw [V2.out] | rw [V3.out]))
    go_ret
    exact ⟨_, rfl, by rw [H.out]; rfl, HQ.out⟩
  have n1 : 1 ≤ n := by omega
  have n12 : n ≤ 12 := by omega
  have H : Hid (chkDg n es = dstep n (lastE es 0) (es.drop 0)) := Lib.hid (by unfold chkDg; rw [if_neg hn]; simp [lastE])
  have V0 : Hid (inR n 1 12 = true) := Lib.hid (by simp [inR]; omega)
  have HG := Lib.hid (Blk.new w [.int .i64 n, .slice ad es.length c] 28)
  obtain ⟨W, hW⟩ : ∃ W, w.alloc (.cells #[.int .i64 n, .slice ad es.length c] 28) = W := ⟨_, rfl⟩
  have hWs : W.heap.size = w.heap.size + 1 := by rw [← hW]; simp
  rw [show [Value.int .i64 n, .slice ad es.length c].toArray = #[Value.int .i64 n, .slice ad es.length c] from rfl, hW] at HG
  rw [hW] at HQ
  have HW := Lib.hid hW; have HWS := Lib.hid hWs
  have HL0 := Lib.hid (Blk.new W [.int .i64 (-1), .int .i64 (-1)] 60)
  have HB0 := Lib.hid ((Below.refl W.heap.size W).alloc (Nat.le_refl _) (.cells #[.int .i64 (-1), .int .i64 (-1)] 60))
  rw [HWS.out] at HL0
  clear hW hWs hn
  go_enter Tryz.func46, Tryz.ntmps46
  go_wp2_with (go_at_call 68; (with_reducible refine (nwithin2_any _ _ _ _).mono ?_); rintro e w' ⟨v, rfl, rfl, rfl⟩; rw [V0.out])
  rw [HW.out]
  go_loopw [15] (fun i wr => ∃ k : Nat, k ≤ es.length ∧ i = .int .i64 k ∧ Hid (chkDg n es = dstep n (lastE es k) (es.drop k)) ∧ Hid (Blk wr (w.heap.size + 1) [.int .i64 (lastE es k).1, .int .i64 (lastE es k).2] 60) ∧ Hid (Below W.heap.size W wr)) (fun i _ => es.length - (intOf i).toNat)
  case atStart => exact ⟨0, Nat.zero_le _, rfl, H, HL0, HB0⟩
  case round =>
    clear HL0 HB0 H
    obtain ⟨k, hk, rfl, hH, hL, hB⟩ := hrel
    by_cases hkn : k < es.length
    · have hqw := HQ.out.trans (hB.out.mono HQ.out.size)
      have hAt := dstep_at n (lastE es k) es k hkn
      have HLS := Lib.hid (lastE_succ es k hkn)
      obtain ⟨⟨p, q, m⟩, hx⟩ : ∃ x, es[k] = x := ⟨_, rfl⟩
      have a0 : wr.cell? ⟨b, o + k * 3, none⟩ = some (.int .i64 p) := hp.at hqw (Nat.le_refl _) k hkn 0 _ (by rw [hx]; rfl)
      have a1 : wr.cell? ⟨b, o + k * 3 + 1, none⟩ = some (.int .i64 q) := hp.at hqw (Nat.le_refl _) k hkn 1 _ (by rw [hx]; rfl)
      have a2 : wr.cell? ⟨b, o + k * 3 + 2, none⟩ = some (.int .i64 m) := hp.at hqw (Nat.le_refl _) k hkn 2 _ (by rw [hx]; rfl)
      have hGr := HG.out.below hB.out (Nat.le_refl _)
      have g0 := hGr.cell 0 _ rfl
      have l0 := hL.out.cell 0 _ rfl
      have l1 := hL.out.cell 1 _ rfl
      have hlb := (hp.below hqw (Nat.le_refl _)).1 (by omega)
      have hlg := hGr.lt
      have hll := hL.out.lt
      rw [hx] at hAt HLS
      rw [← hH.out] at hAt
      obtain ⟨⟨x1, x2⟩, hl⟩ : ∃ l, lastE es k = l := ⟨_, rfl⟩
      rw [hl] at hAt l0 l1 hL
      simp only at hAt HLS l0 l1
      have hL2 : Hid (Blk wr (w.heap.size + 1) [.int .i64 x1, .int .i64 x2] 60) := Lib.hid hL.out
      have HQW := Lib.hid hqw
      clear hH hx hGr hl hL hqw
      by_cases hE : eOk n (p, q, m) = true
      · rw [if_pos hE] at hAt
        have hE2 : (vtx n p = true ∧ vtx n q = true) ∧ 1 ≤ m ∧ m ≤ 50 := by simpa [eOk] using hE
        obtain ⟨⟨hv1, hv2⟩, hm1, hm2⟩ := hE2
        have V1 := Lib.hid (show inR p 0 (n - 1) = true by rw [inR_vtx]; exact hv1); have V2 := Lib.hid (show inR q 0 (n - 1) = true by rw [inR_vtx]; exact hv2); have V3 := Lib.hid (show inR m 1 50 = true by simp [inR]; omega)
        clear hv1 hv2 hE hm1 hm2
        obtain ⟨z, hz⟩ : ∃ z, cmpP x1 x2 p q = z := ⟨_, rfl⟩
        have hzz := cmpP_nonneg x1 x2 p q
        rw [hz] at hzz
        have HZ := Lib.hid hz
        by_cases hlt : x1 < p ∨ (x1 = p ∧ x2 < q)
        · have hz0 : z < 0 := by
            rcases Int.lt_or_le z 0 with h | h
            · exact h
            · exact absurd hlt (hzz.1 h)
          have hz2 : ¬ (0 : Int) ≤ z := by omega
          rw [if_pos (by simp [lt2]; exact hlt)] at hAt
          have H := Lib.hid hAt
          clear hAt hzz hlt hz
          go_wp2_with (first
            | (go_at_call 68; (with_reducible refine (nwithin2_any _ _ _ _).mono ?_); rintro e w' ⟨v, rfl, rfl, rfl⟩; (first | rw [V1.out] | rw [V2.out] | rw [V3.out]))
            | (go_at_call 69; (with_reducible refine (arrCmp_any _ x1 x2 p q).mono ?_); rintro e w2 ⟨v, rfl, rfl, hb2⟩; rw [HZ.out]; have HL3 := Lib.hid (((hL2.out.alloc (.cells #[.int .i64 p, .int .i64 q, .int .i64 m] 83)).alloc (.cells #[.int .i64 p, .int .i64 q] 60)).below hb2 (Nat.le_refl _)); have HP3 := Lib.hid ((show Blk ((wr.alloc (.cells #[.int .i64 p, .int .i64 q, .int .i64 m] 83)).alloc (.cells #[.int .i64 p, .int .i64 q] 60)) (wr.heap.size + 1) [.int .i64 p, .int .i64 q] 60 by have := Blk.new (wr.alloc (.cells #[.int .i64 p, .int .i64 q, .int .i64 m] 83)) [.int .i64 p, .int .i64 q] 60; rwa [World.size_alloc] at this).below hb2 (Nat.le_refl _)); have y0 := HL3.out.cell 0 _ rfl; have y1 := HL3.out.cell 1 _ rfl; have f0 := HL3.out.free 0; have f1 := HL3.out.free 1; have z0 := HP3.out.cell 0 _ rfl; have z1 := HP3.out.cell 1 _ rfl))
          have hbw : Below W.heap.size W w2 := ((hB.out.alloc hB.out.size _).alloc (Nat.le_trans hB.out.size (by simp)) _).trans (hb2.mono (Nat.le_trans hB.out.size (by simp; omega)))
          have HBW := Lib.hid hbw
          clear hbw hb2 y0 y1 f0 f1 z0 z1
          go_roundw
          case rel => exact ⟨k + 1, by omega, by go_num, Lib.hid (by rw [HLS.out]; exact H.out), Lib.hid (by rw [HLS.out]; exact (HL3.out.set 0 (.int .i64 p)).set 1 (.int .i64 q)), Lib.hid ((HBW.out.setCell (p := ⟨w.heap.size + 1, 0, none⟩) (by rw [HWS.out]; exact Nat.le_refl _) (.int .i64 p)).setCell (p := ⟨w.heap.size + 1, 1, none⟩) (by rw [HWS.out]; exact Nat.le_refl _) (.int .i64 q))⟩
          case measure => simp [intOf]; omega
        · have hz0 : 0 ≤ z := hzz.2 hlt
          rw [if_neg (fun h => hlt (by simpa [lt2] using h))] at hAt
          have H := Lib.hid hAt
          clear hAt hzz hlt hz
          go_wp2_with (first
            | (go_at_call 68; (with_reducible refine (nwithin2_any _ _ _ _).mono ?_); rintro e w' ⟨v, rfl, rfl, rfl⟩; (first | rw [V1.out] | rw [V2.out] | rw [V3.out]))
            | (go_at_call 69; (with_reducible refine (arrCmp_any _ x1 x2 p q).mono ?_); rintro e w2 ⟨v, rfl, rfl, hb2⟩; rw [HZ.out]))
          go_ret
          exact ⟨_, rfl, by rw [H.out]; rfl, ((HQW.out.alloc HQW.out.size _).alloc (Nat.le_trans HQW.out.size (by simp)) _).trans (hb2.mono (Nat.le_trans HQW.out.size (by simp; omega)))⟩
      · rw [if_neg hE] at hAt
        have H := Lib.hid hAt
        have hc : inR p 0 (n - 1) = false ∨ (inR p 0 (n - 1) = true ∧ inR q 0 (n - 1) = false) ∨ (inR p 0 (n - 1) = true ∧ inR q 0 (n - 1) = true ∧ inR m 1 50 = false) := by
          rw [inR_vtx, inR_vtx]
          cases h1 : vtx n p
          · exact .inl rfl
          · cases h2 : vtx n q
            · exact .inr (.inl ⟨rfl, rfl⟩)
            · simp [eOk, h1, h2] at hE
              exact .inr (.inr ⟨rfl, rfl, by simp [inR]; omega⟩)
        clear hAt hE
        rcases hc with h1 | ⟨h1, h2⟩ | ⟨h1, h2, h3⟩
        · have V1 := Lib.hid h1; have V2 := Lib.hid h1; have V3 := Lib.hid h1
          clear h1
          go_wp2_with (go_at_call 68; (with_reducible refine (nwithin2_any _ _ _ _).mono ?_); rintro e w' ⟨v, rfl, rfl, rfl⟩; (first | rw [V1.out] | rw [V2.out] | rw [V3.out]))
          go_ret
          exact ⟨_, rfl, by rw [H.out]; rfl, HQW.out.alloc HQW.out.size _⟩
        · have V1 := Lib.hid h1; have V2 := Lib.hid h2; have V3 := Lib.hid h2
          clear h1 h2
          go_wp2_with (go_at_call 68; (with_reducible refine (nwithin2_any _ _ _ _).mono ?_); rintro e w' ⟨v, rfl, rfl, rfl⟩; (first | rw [V1.out] | rw [V2.out] | rw [V3.out]))
          go_ret
          exact ⟨_, rfl, by rw [H.out]; rfl, HQW.out.alloc HQW.out.size _⟩
        · have V1 := Lib.hid h1; have V2 := Lib.hid h2; have V3 := Lib.hid h3
          clear h1 h2 h3
          go_wp2_with (go_at_call 68; (with_reducible refine (nwithin2_any _ _ _ _).mono ?_); rintro e w' ⟨v, rfl, rfl, rfl⟩; (first | rw [V1.out] | rw [V2.out] | rw [V3.out]))
          go_ret
          exact ⟨_, rfl, by rw [H.out]; rfl, HQW.out.alloc HQW.out.size _⟩
    · obtain rfl : k = es.length := by omega
      have H : Hid (chkDg n es = 0) := Lib.hid (by rw [hH.out, dstep_end])
      have q := HQ.out.trans (hB.out.mono HQ.out.size)
      clear hH hL hB
      go_wp2
      go_ret
      exact ⟨_, rfl, by rw [H.out]; rfl, q⟩
end Go.Proofs.YtlnhocgjgmhfgaaGreatDoor
