/- The check of a graph: what it answers; the walks of the program's and of the reference's. -/
import Derived.Test.YtlnhocgjgmhfgaaGreatDoorPk2
namespace Go.Proofs.YtlnhocgjgmhfgaaGreatDoor
open Go.RowKit
set_option maxRecDepth 100000

def vtx (n v : Int) : Bool := decide (0 ≤ v ∧ v < n)
theorem vtx_iff (n v : Int) : vtx n v = true ↔ 0 ≤ v ∧ v < n := by simp [vtx]
/-- Is an edge in range? -/
def eOk (n : Int) (x : Int × Int × Int) : Bool := vtx n x.1 && vtx n x.2.1 && decide (1 ≤ x.2.2 ∧ x.2.2 ≤ 50)
def lt2 (p q : Int × Int) : Bool := decide (p.1 < q.1 ∨ (p.1 = q.1 ∧ p.2 < q.2))
/-- The first error of edges behind a pair. -/
def estep (n : Int) : Int × Int → List (Int × Int × Int) → Int
  | _, [] => 0
  | p, x :: l => if eOk n x then (if x.1 ≤ x.2.1 ∧ lt2 p (x.1, x.2.1) = true then estep n (x.1, x.2.1) l else 9) else 2
def chkG (n : Int) (es : List (Int × Int × Int)) : Int := if n < 1 ∨ 12 < n then 2 else estep n (-1, -1) es
def lastE (es : List (Int × Int × Int)) (k : Nat) : Int × Int := if k = 0 then (-1, -1) else ((es.getD (k - 1) (0, 0, 0)).1, (es.getD (k - 1) (0, 0, 0)).2.1)
theorem lastE_succ (es : List (Int × Int × Int)) (k : Nat) (h : k < es.length) : lastE es (k + 1) = (es[k].1, es[k].2.1) := by
  simp [lastE, List.getD_eq_getElem?_getD, h]
theorem estep_at (n : Int) (p : Int × Int) (es : List (Int × Int × Int)) (k : Nat) (h : k < es.length) :
    estep n p (es.drop k) = if eOk n es[k] then (if es[k].1 ≤ es[k].2.1 ∧ lt2 p (es[k].1, es[k].2.1) = true then estep n (es[k].1, es[k].2.1) (es.drop (k + 1)) else 9) else 2 := by
  rw [List.drop_eq_getElem_cons h]; rfl
theorem estep_end (n : Int) (p : Int × Int) (es : List (Int × Int × Int)) : estep n p (es.drop es.length) = 0 := by rw [List.drop_length]; rfl

theorem gvertex_any (w : World) (n v : Int) : Calls Tryz.prog 62 #[.int .i64 n, .int .i64 v] w (Rets fun r w' => r = .bool (vtx n v) ∧ w = w') := by
  by_cases h0 : 0 ≤ v
  · by_cases h1 : v < n
    · have H : Hid (vtx n v = true) := Lib.hid (by simp [vtx, h0, h1])
      go_enter Tryz.func62, Tryz.ntmps62
      go_wp2
      go_ret
      exact ⟨_, rfl, by rw [H.out]; rfl, rfl⟩
    · have H : Hid (vtx n v = false) := Lib.hid (by simp [vtx, h1])
      have h2 : decide (v < n) = false := by simp [h1]
      go_enter Tryz.func62, Tryz.ntmps62
      go_wp2
      go_ret
      exact ⟨_, rfl, by rw [H.out]; rfl, rfl⟩
  · have H : Hid (vtx n v = false) := Lib.hid (by simp [vtx, h0])
    have h2 : decide (0 ≤ v) = false := by simp [h0]
    go_enter Tryz.func62, Tryz.ntmps62
    go_wp2
    go_ret
    exact ⟨_, rfl, by rw [H.out]; rfl, rfl⟩

set_option maxHeartbeats 4000000 in
theorem GCheck_any (w : World) (n : Int) (v : Value) (es : List (Int × Int × Int)) (hv : SlK e3 3 w v es) :
    Calls Tryz.prog 37 #[.agg #[.int .i64 n, v]] w (Rets fun r w' => r = .int .i64 (chkG n es) ∧ Below w.heap.size w w') := by
  obtain ⟨ad, b, o, c, rfl, hi, hp, hc, hm⟩ := hv.open elemEdge
  unfold maxLen at hm
  clear hv
  by_cases h1 : n < 1
  · have H : Hid (chkG n es = 2) := Lib.hid (by simp [chkG, h1])
    go_enter Tryz.func37, Tryz.ntmps37
    go_wp2
    go_ret
    exact ⟨_, rfl, by rw [H.out]; rfl, (Below.refl _ _).alloc (Nat.le_refl _) _⟩
  by_cases h12 : 12 < n
  · have H : Hid (chkG n es = 2) := Lib.hid (by simp [chkG, h12])
    go_enter Tryz.func37, Tryz.ntmps37
    go_wp2
    go_ret
    exact ⟨_, rfl, by rw [H.out]; rfl, (Below.refl _ _).alloc (Nat.le_refl _) _⟩
  have H : Hid (chkG n es = estep n (lastE es 0) (es.drop 0)) := Lib.hid (by simp [chkG, h1, h12, lastE])
  have HG := Lib.hid (Blk.new w [.int .i64 n, .slice ad es.length c] 24)
  have HQ := Lib.hid ((Below.refl w.heap.size w).alloc (Nat.le_refl _) (.cells #[.int .i64 n, .slice ad es.length c] 24))
  obtain ⟨W, hW⟩ : ∃ W, w.alloc (.cells #[.int .i64 n, .slice ad es.length c] 24) = W := ⟨_, rfl⟩
  have hWs : W.heap.size = w.heap.size + 1 := by rw [← hW]; simp
  rw [show [Value.int .i64 n, .slice ad es.length c].toArray = #[Value.int .i64 n, .slice ad es.length c] from rfl, hW] at HG
  rw [hW] at HQ
  have HW := Lib.hid hW; have HWS := Lib.hid hWs
  clear hW hWs
  go_enter Tryz.func37, Tryz.ntmps37
  go_wp2
  rw [HW.out]
  have HL0 := Lib.hid (Blk.new W [.int .i64 (-1), .int .i64 (-1)] 110)
  have HB0 := Lib.hid ((Below.refl W.heap.size W).alloc (Nat.le_refl _) (.cells #[.int .i64 (-1), .int .i64 (-1)] 110))
  rw [HWS.out] at HL0
  go_loopw [19] (fun i wr => ∃ k : Nat, k ≤ es.length ∧ i = .int .i64 k ∧ Hid (chkG n es = estep n (lastE es k) (es.drop k)) ∧ Hid (Blk wr (w.heap.size + 1) [.int .i64 (lastE es k).1, .int .i64 (lastE es k).2] 110) ∧ Hid (Below W.heap.size W wr)) (fun i _ => es.length - (intOf i).toNat)
  case atStart => exact ⟨0, Nat.zero_le _, rfl, H, HL0, HB0⟩
  case round =>
    clear HL0 HB0 H
    obtain ⟨k, hk, rfl, hH, hL, hB⟩ := hrel
    by_cases hkn : k < es.length
    · have hqw := HQ.out.trans (hB.out.mono HQ.out.size)
      have hAt := estep_at n (lastE es k) es k hkn
      have HLS := Lib.hid (lastE_succ es k hkn)
      obtain ⟨⟨p, q, m⟩, hx⟩ : ∃ x, es[k] = x := ⟨_, rfl⟩
      have a0 : wr.cell? ⟨b, o + k * 3, none⟩ = some (.int .i64 p) := hp.at hqw (Nat.le_refl _) k hkn 0 _ (by rw [hx]; rfl)
      have a1 : wr.cell? ⟨b, o + k * 3 + 1, none⟩ = some (.int .i64 q) := hp.at hqw (Nat.le_refl _) k hkn 1 _ (by rw [hx]; rfl)
      have a2 : wr.cell? ⟨b, o + k * 3 + 2, none⟩ = some (.int .i64 m) := hp.at hqw (Nat.le_refl _) k hkn 2 _ (by rw [hx]; rfl)
      have hGr := HG.out.below hB.out (Nat.le_refl _)
      have g0 := hGr.cell 0 _ rfl
      have l0 := hL.out.cell 0 _ rfl
      have l1 := hL.out.cell 1 _ rfl
      have hlb := (hp.below hqw (Nat.le_refl _)).1 (by omega)
      have hlg := hGr.lt
      have hll := hL.out.lt
      rw [hx] at hAt HLS
      rw [← hH.out] at hAt
      obtain ⟨⟨x1, x2⟩, hl⟩ : ∃ l, lastE es k = l := ⟨_, rfl⟩
      rw [hl] at hAt l0 l1 hL
      simp only at hAt HLS l0 l1
      have hL2 : Hid (Blk wr (w.heap.size + 1) [.int .i64 x1, .int .i64 x2] 110) := Lib.hid hL.out
      have HQW := Lib.hid hqw
      clear hH hx hGr hl hL hqw
      by_cases hE : eOk n (p, q, m) = true
      · rw [if_pos hE] at hAt
        have hE2 : (vtx n p = true ∧ vtx n q = true) ∧ 1 ≤ m ∧ m ≤ 50 := by simpa [eOk] using hE
        obtain ⟨⟨hv1, hv2⟩, hm1, hm2⟩ := hE2
        have V1 := Lib.hid hv1; have V2 := Lib.hid hv2
        clear hv1 hv2 hE
        by_cases hpq : q < p
        · rw [if_neg (fun h => by omega)] at hAt
          have H := Lib.hid hAt
          clear hAt
          go_wp2_with (go_at_call 62; (with_reducible refine (gvertex_any _ _ _).mono ?_); rintro e w' ⟨v, rfl, rfl, rfl⟩; (first | rw [V1.out] | rw [V2.out]))
          go_ret
          exact ⟨_, rfl, by rw [H.out]; rfl, (HQW.out.alloc HQW.out.size _).alloc (Nat.le_trans HQW.out.size (by simp)) _⟩
        · obtain ⟨z, hz⟩ : ∃ z, cmpP x1 x2 p q = z := ⟨_, rfl⟩
          have hzz := cmpP_nonneg x1 x2 p q
          rw [hz] at hzz
          have HZ := Lib.hid hz
          by_cases hlt : x1 < p ∨ (x1 = p ∧ x2 < q)
          · have hz0 : z < 0 := by
              rcases Int.lt_or_le z 0 with h | h
              · exact h
              · exact absurd hlt (hzz.1 h)
            rw [if_pos ⟨by omega, by simp [lt2]; exact hlt⟩] at hAt
            have H := Lib.hid hAt
            clear hAt hzz hlt hz
            go_wp2_with (first
              | (go_at_call 62; (with_reducible refine (gvertex_any _ _ _).mono ?_); rintro e w' ⟨v, rfl, rfl, rfl⟩; (first | rw [V1.out] | rw [V2.out]))
              | (go_at_call 63; (with_reducible refine (pairCmp_any _ x1 x2 p q).mono ?_); rintro e w2 ⟨v, rfl, rfl, hb2⟩; rw [HZ.out]; have HL3 := Lib.hid (((hL2.out.alloc (.cells #[.int .i64 p, .int .i64 q, .int .i64 m] 81)).alloc (.cells #[.int .i64 p, .int .i64 q] 110)).below hb2 (Nat.le_refl _)); have HP3 := Lib.hid ((show Blk ((wr.alloc (.cells #[.int .i64 p, .int .i64 q, .int .i64 m] 81)).alloc (.cells #[.int .i64 p, .int .i64 q] 110)) (wr.heap.size + 1) [.int .i64 p, .int .i64 q] 110 by have := Blk.new (wr.alloc (.cells #[.int .i64 p, .int .i64 q, .int .i64 m] 81)) [.int .i64 p, .int .i64 q] 110; rwa [World.size_alloc] at this).below hb2 (Nat.le_refl _)); have y0 := HL3.out.cell 0 _ rfl; have y1 := HL3.out.cell 1 _ rfl; have f0 := HL3.out.free 0; have f1 := HL3.out.free 1; have z0 := HP3.out.cell 0 _ rfl; have z1 := HP3.out.cell 1 _ rfl))
            have hbw : Below W.heap.size W w2 := ((hB.out.alloc hB.out.size _).alloc (Nat.le_trans hB.out.size (by simp)) _).trans (hb2.mono (Nat.le_trans hB.out.size (by simp; omega)))
            have HBW := Lib.hid hbw
            clear hbw hb2 y0 y1 f0 f1 z0 z1
            go_roundw
            case rel => exact ⟨k + 1, by omega, by go_num, Lib.hid (by rw [HLS.out]; exact H.out), Lib.hid (by rw [HLS.out]; exact (HL3.out.set 0 (.int .i64 p)).set 1 (.int .i64 q)), Lib.hid ((HBW.out.setCell (p := ⟨w.heap.size + 1, 0, none⟩) (by rw [HWS.out]; exact Nat.le_refl _) (.int .i64 p)).setCell (p := ⟨w.heap.size + 1, 1, none⟩) (by rw [HWS.out]; exact Nat.le_refl _) (.int .i64 q))⟩
            case measure => simp [intOf]; omega
          · have hz0 : 0 ≤ z := hzz.2 hlt
            rw [if_neg (fun h => hlt (by simpa [lt2] using h.2))] at hAt
            have H := Lib.hid hAt
            clear hAt hzz hlt hz
            go_wp2_with (first
              | (go_at_call 62; (with_reducible refine (gvertex_any _ _ _).mono ?_); rintro e w' ⟨v, rfl, rfl, rfl⟩; (first | rw [V1.out] | rw [V2.out]))
              | (go_at_call 63; (with_reducible refine (pairCmp_any _ x1 x2 p q).mono ?_); rintro e w2 ⟨v, rfl, rfl, hb2⟩; rw [HZ.out]))
            go_ret
            exact ⟨_, rfl, by rw [H.out]; rfl, ((HQW.out.alloc HQW.out.size _).alloc (Nat.le_trans HQW.out.size (by simp)) _).trans (hb2.mono (Nat.le_trans HQW.out.size (by simp; omega)))⟩
      · rw [if_neg hE] at hAt
        have H := Lib.hid hAt
        have hc : vtx n p = false ∨ (vtx n p = true ∧ vtx n q = false) ∨ (vtx n p = true ∧ vtx n q = true ∧ m < 1) ∨ (vtx n p = true ∧ vtx n q = true ∧ ¬ m < 1 ∧ 50 < m) := by
          cases h1 : vtx n p
          · exact .inl rfl
          · cases h2 : vtx n q
            · exact .inr (.inl ⟨rfl, rfl⟩)
            · simp [eOk, h1, h2] at hE
              by_cases h3 : m < 1
              · exact .inr (.inr (.inl ⟨rfl, rfl, h3⟩))
              · exact .inr (.inr (.inr ⟨rfl, rfl, h3, hE (by omega)⟩))
        clear hAt hE
        rcases hc with h1 | ⟨h1, h2⟩ | ⟨h1, h2, h3⟩ | ⟨h1, h2, h3, h4⟩
        · have V1 := Lib.hid h1
          clear h1
          go_wp2_with (go_at_call 62; (with_reducible refine (gvertex_any _ _ _).mono ?_); rintro e w' ⟨v, rfl, rfl, rfl⟩; rw [V1.out])
          go_ret
          exact ⟨_, rfl, by rw [H.out]; rfl, (HQW.out.alloc HQW.out.size _).alloc (Nat.le_trans HQW.out.size (by simp)) _⟩
        · have V1 := Lib.hid h1; have V2 := Lib.hid h2
          clear h1 h2
          go_wp2_with (go_at_call 62; (with_reducible refine (gvertex_any _ _ _).mono ?_); rintro e w' ⟨v, rfl, rfl, rfl⟩; (first | rw [V1.out] | rw [V2.out]))
          go_ret
          exact ⟨_, rfl, by rw [H.out]; rfl, (HQW.out.alloc HQW.out.size _).alloc (Nat.le_trans HQW.out.size (by simp)) _⟩
        · have V1 := Lib.hid h1; have V2 := Lib.hid h2
          clear h1 h2
          go_wp2_with (go_at_call 62; (with_reducible refine (gvertex_any _ _ _).mono ?_); rintro e w' ⟨v, rfl, rfl, rfl⟩; (first | rw [V1.out] | rw [V2.out]))
          go_ret
          exact ⟨_, rfl, by rw [H.out]; rfl, (HQW.out.alloc HQW.out.size _).alloc (Nat.le_trans HQW.out.size (by simp)) _⟩
        · have V1 := Lib.hid h1; have V2 := Lib.hid h2
          clear h1 h2
          go_wp2_with (go_at_call 62; (with_reducible refine (gvertex_any _ _ _).mono ?_); rintro e w' ⟨v, rfl, rfl, rfl⟩; (first | rw [V1.out] | rw [V2.out]))
          go_ret
          exact ⟨_, rfl, by rw [H.out]; rfl, (HQW.out.alloc HQW.out.size _).alloc (Nat.le_trans HQW.out.size (by simp)) _⟩
    · obtain rfl : k = es.length := by omega
      have H : Hid (chkG n es = 0) := Lib.hid (by rw [hH.out, estep_end])
      have q := HQ.out.trans (hB.out.mono HQ.out.size)
      clear hH hL hB
      go_wp2
      go_ret
      exact ⟨_, rfl, by rw [H.out]; rfl, q⟩
end Go.Proofs.YtlnhocgjgmhfgaaGreatDoor
