/- The walk of matrix's column. -/
import Derived.Test.YtlnhocgjgmhfgaaGreatDoorPk29
import Derived.BigRegion
namespace Go.Proofs.YtlnhocgjgmhfgaaGreatDoor
open Go.RowKit
set_option maxRecDepth 100000

/-- How column ends. -/
def ColP (w0 : World) (g : Nat) (rv : Value) (m n : Nat) (s : Est) (e : Ending) (w' : World) : Prop := e = .returned (.tuple #[]) ∧ ∃ bs', Grid w0 w' g rv bs' m n s
set_option maxHeartbeats 8000000 in
theorem column_any {w0 w : World} {g : Nat} {rv : Value} {bs : List (Nat × Nat)} {m n : Nat} {s : Est} (k : Nat) (hG : Grid w0 w g rv bs m n s) (hk : k < n) (hr : s.rank ≤ m) (hm : m ≤ 16) (hn : n ≤ 16)
    (hM : ∀ i j, s.rank ≤ i → i < m → j < n → sml (s.M i j)) (hl : sml s.last) (h0 : s.last ≠ 0) (he : Env w0) :
    Calls Tryz.prog 116 #[.pointer (some ⟨g, 0, none⟩), .int .i64 k] w (ColP w0 g rv m n (s.col m k)) := by
  obtain ⟨ra, cap, rfl, hcap⟩ : ∃ ra cap, rv = .slice ra m cap ∧ m ≤ cap := by
    rcases hG.rows.2 with ⟨rfl, h⟩ | ⟨rb, cap, cur, e, -, -, h1, -⟩
    · exact ⟨none, 0, by rw [h], by omega⟩
    · exact ⟨_, _, e, h1⟩
  have HG := Lib.hid hG; have HM := Lib.hid hM; have HL := Lib.hid hl; have H0 := Lib.hid h0; have HE := Lib.hid he
  have k0 := hG.box.cell 0 _ rfl; have k3 := hG.box.cell 3 _ rfl
  obtain ⟨S, hS⟩ : ∃ S, s.col m k = S := ⟨_, rfl⟩
  have HS := Lib.hid hS
  rw [hS]
  obtain ⟨r, hrr⟩ : ∃ r, s.rank = r := ⟨_, rfl⟩
  rw [hrr] at k3 hr
  have HR := Lib.hid hrr
  clear hG hM hl h0 he hS hrr
  go_enter Tryz.func116, Tryz.ntmps116
  go_wp2
  go_loop [4] (fun t => ∃ j : Nat, r ≤ j ∧ j ≤ m ∧ t = .int .i64 j ∧ Hid (∀ i, s.rank ≤ i → i < j → s.M i k = 0)) (fun t => m - (intOf t).toNat)
  case atStart => exact ⟨r, Nat.le_refl _, hr, rfl, Lib.hid (fun i a b => by have := HR.out; omega)⟩
  case round =>
    obtain ⟨j, hrj, hjm, rfl, hz⟩ := hrel
    by_cases hlt : j < m
    · obtain ⟨rb, cap', e, -, hc2⟩ := HG.out.rb (by omega)
      cases e
      obtain ⟨bj, cj, hbj, c1, f1, c2⟩ := HG.out.cellsE j hlt
      obtain ⟨c2, -⟩ := c2 k hk
      have HBJ := Lib.hid hbj
      clear hbj
      by_cases h0 : s.M j k = 0
      · have hz0 := txt_z h0
        have HZ := Lib.hid (show ∀ i, s.rank ≤ i → i < j + 1 → s.M i k = 0 from fun i h1 h2 => by
          by_cases e : i = j
          · rw [e]; exact h0
          · exact hz.out i h1 (by omega))
        clear h0
        go_wp2
        go_round
        case rel => exact ⟨j + 1, by omega, by omega, by go_num, HZ⟩
        case measure => simp [intOf]; omega
      · have hz0 := txt_ne0 h0
        have hne : ((j : Int) == (m : Int)) = false := by simp; omega
        have HC := Lib.hid (show S = ⟨below s.rank k s.last (swr s.M j s.rank), swr s.M j s.rank s.rank k, if j = s.rank then s.neg else !s.neg, s.rank + 1⟩ by rw [← HS.out]; exact col_go (ftop_eq (j - s.rank) s.rank j (by have := HR.out; omega) hjm hz.out fun _ => h0) hlt)
        have HP0 := Lib.hid (show swr s.M j s.rank s.rank k ≠ 0 by
          unfold swr
          by_cases e : s.rank = j
          · rw [if_pos e, e]; exact h0
          · rw [if_neg e, if_pos rfl]; exact h0)
        clear h0
        go_upto_if 48 with (fail)
        go_cut [] (fun wx => ∃ bs', Hid (Grid w0 wx g (.slice (some ⟨rb, 0, none⟩) m cap) bs' m n ⟨swr s.M j s.rank, s.last, if j = s.rank then s.neg else !s.neg, s.rank⟩))
        case first =>
          by_cases hjr : j = r
          · have hne2 : ((j : Int) != (r : Int)) = false := by simp [hjr]
            have HF := Lib.hid (show Grid w0 w g (.slice (some ⟨rb, 0, none⟩) m cap) bs m n ⟨swr s.M j s.rank, s.last, if j = s.rank then s.neg else !s.neg, s.rank⟩ by
              rw [if_pos (hjr.trans HR.out.symm), hjr, ← HR.out, swr_self]; exact HG.out)
            clear hjr
            go_wp2
            go_meet
            exact ⟨bs, HF⟩
          · have hne2 : ((j : Int) != (r : Int)) = true := by simp; omega
            obtain ⟨br, cr, hbr, d1, e1, -⟩ := HG.out.cellsE r (by omega)
            have HBR := Lib.hid hbr
            have q0 : (0 : Int) ≤ (j : Int) := by omega
            have q1 : (0 : Int) ≤ (r : Int) := by omega
            have q2 : r < m := by omega
            have q3 : j ≠ r := hjr
            have k2 := HG.out.box.cell 2 _ rfl
            have l2 := HG.out.box.free 2
            have hgrb := HG.out.ne_rb
            have hbg : -1 ≤ sgB s.neg ∧ sgB s.neg ≤ 1 := by cases s.neg <;> simp [sgB]
            obtain ⟨z, hz⟩ : ∃ z, sgB s.neg = z := ⟨_, rfl⟩
            rw [hz] at k2 hbg
            have HF := Lib.hid (show ∀ w', w' = w.drew → ∃ bs', Grid w0 (((w'.setCell ⟨rb, j, none⟩ (.slice (some ⟨br, 0, none⟩) n cr)).setCell ⟨rb, r, none⟩ (.slice (some ⟨bj, 0, none⟩) n cj)).setCell ⟨g, 2, none⟩ (.int .i64 (-z))) g (.slice (some ⟨rb, 0, none⟩) m cap) bs' m n ⟨swr s.M j s.rank, s.last, if j = s.rank then s.neg else !s.neg, s.rank⟩ from fun w' e => by
              subst e
              have hr2 := HR.out
              have e2 : swr s.M j s.rank = swr s.M j r := by rw [hr2]
              rw [if_neg (by omega), ← hz, e2]
              have h2 := (HG.out.drew.swapE HBJ.out HBR.out q3).flip
              exact ⟨_, h2⟩)
            have hb1 := hbg.1; have hb2 := hbg.2
            clear c2 hz0 hjr hne hbr hz hbg
            go_wp2_with fail
            go_region
            all_goals
              go_wp2_with fail
              go_meet
              obtain ⟨bs', h⟩ := HF.out _ rfl
              exact ⟨bs', Lib.hid h⟩
        case rest =>
          obtain ⟨bs', hG'⟩ := hcut
          obtain ⟨M1, hM1⟩ : ∃ M1, swr s.M j s.rank = M1 := ⟨_, rfl⟩
          obtain ⟨ng, hng⟩ : ∃ ng, (if j = s.rank then s.neg else !s.neg) = ng := ⟨_, rfl⟩
          have HM1 := Lib.hid (show ∀ i y, r ≤ i → i < m → y < n → sml (M1 i y) by
            rw [← hM1, ← HR.out]; exact swr_sml (by have := HR.out; omega) hlt HM.out)
          rw [hM1, hng, HR.out] at hG'
          rw [hM1, hng, HR.out] at HC
          rw [hM1, HR.out] at HP0
          obtain ⟨d, hd⟩ : ∃ d, s.last = d := ⟨_, rfl⟩
          rw [hd] at hG' HC HL H0
          clear hM1 hng hd HM HG k0 k3 c1 c2 hz0 hz hne f1 HBJ
          have hrm : r < m := by omega
          obtain ⟨br, cr, hbr, d1, -, d2⟩ := hG'.out.cellsE r hrm
          have k0 := hG'.out.box.cell 0 _ rfl; have k3 := hG'.out.box.cell 3 _ rfl
          have HBR := Lib.hid hbr
          obtain ⟨dp, -⟩ := d2 k hk
          have HD2 := Lib.hid d2
          have q1 : (0 : Int) ≤ (r : Int) := by omega
          have q2 : (r : Int) < (m : Int) := by omega
          have q4 : (r : Int) + 1 ≤ (m : Int) := by omega
          have q5 : (m : Int) ≤ (cap : Int) := by omega
          clear hbr d2
          go_wp2_with fail
          go_quiet (fail)
          have HG1 := Lib.hid (hG'.out.drewN nq)
          clear hG' k0 k3 d1 dp HD2
          generalize wc.drewN nq = W1 at *
          obtain ⟨br', cr', hbr', d1, -, d2⟩ := HG1.out.cellsE r hrm
          have k0 := HG1.out.box.cell 0 _ rfl; have k3 := HG1.out.box.cell 3 _ rfl
          go_wp2_with fail
          go_quiet (fail)
          have HG2 := Lib.hid (HG1.out.drewN nq)
          clear HG1 k0 k3 d1 d2
          generalize W1.drewN nq = W2 at *
          obtain ⟨sv, hsv⟩ : ∃ sv, (if cap = r + 1 then some (⟨rb, 0, none⟩ : Addr) else some ⟨rb, r + 1, none⟩) = sv := ⟨_, rfl⟩
          rw [hsv]
          have HSV := Lib.hid (show r + 1 < m → sv = some ⟨rb, r + 1, none⟩ from fun h => by rw [← hsv, if_neg (by omega)])
          clear hsv
          have hMp : ∃ z, M1 r k = z := ⟨_, rfl⟩
          obtain ⟨z, hz⟩ := hMp
          have HMP := Lib.hid hz
          have HT := Lib.hid (show ∀ i y, r < i → below r k d M1 i y = Int.fdiv (M1 i y * z - M1 i k * M1 r y) d from fun i y h => by unfold below; rw [if_pos h, hz])
          have HG3 := Lib.hid (HG2.out.congr (M := part (below r k d M1) M1 (r + 1) 0) fun i y _ _ => (part_start r k d M1 i y).symm)
          have HZS := Lib.hid (show sml z by rw [← hz]; exact HM1.out r k (Nat.le_refl _) hrm hk)
          clear HG2 hz
          go_wp2_with fail
          go_loopw [110] (fun i wr => ∃ q : Nat, q ≤ m - (r + 1) ∧ i = .int .i64 q ∧ Hid (Grid w0 wr g (.slice (some ⟨rb, 0, none⟩) m cap) bs' m n ⟨part (below r k d M1) M1 (r + 1 + q) 0, d, ng, r⟩)) (fun i _ => (m - (r + 1)) - (intOf i).toNat)
          case atStart => exact ⟨0, Nat.zero_le _, rfl, HG3⟩
          case round =>
            clear HG3
            obtain ⟨q, hq, rfl, hI⟩ := hrel
            by_cases hqm : q < m - (r + 1)
            · have hsv := HSV.out (by omega)
              subst hsv
              have hir : r + 1 + q < m := by omega
              obtain ⟨bi, ci, hbi, c1, -, e2⟩ := hI.out.cellsE (r + 1 + q) hir
              obtain ⟨c2, -⟩ := e2 k hk
              have e3 : part (below r k d M1) M1 (r + 1 + q) 0 (r + 1 + q) k = M1 (r + 1 + q) k := part_old (Nat.le_refl _) (fun _ => Nat.zero_le _)
              rw [show (⟨part (below r k d M1) M1 (r + 1 + q) 0, d, ng, r⟩ : Est).M = part (below r k d M1) M1 (r + 1 + q) 0 from rfl, e3] at c2
              have HBI := Lib.hid hbi
              obtain ⟨i, hi⟩ : ∃ i, r + 1 + q = i := ⟨_, rfl⟩
              rw [hi] at hI HBI hir c1 c2
              have HII := Lib.hid hi
              have hri : r < i := by omega
              clear e2 e3 hbi
              obtain ⟨W3, rfl⟩ : ∃ W, W = wr := ⟨_, rfl⟩
              go_wp2
              clear hi
              go_loopw [120] (fun jv wr => ∃ y : Nat, y ≤ n ∧ jv = .int .i64 y ∧ Hid (Grid w0 wr g (.slice (some ⟨rb, 0, none⟩) m cap) bs' m n ⟨part (below r k d M1) M1 i y, d, ng, r⟩)) (fun jv _ => n - (intOf jv).toNat)
              case atStart => exact ⟨0, Nat.zero_le _, rfl, hI⟩
              case round =>
                clear hI c1 c2
                obtain ⟨y, hy, rfl, hJ⟩ := hrel
                by_cases hyn : y < n
                · obtain ⟨b5, c5, hb5, -, -, g2⟩ := hJ.out.cellsE i hir
                  obtain ⟨rfl, rfl⟩ : bi = b5 ∧ ci = c5 := by have := HBI.out.symm.trans hb5; simpa using this
                  obtain ⟨b6, c6, hb6, -, -, g3⟩ := hJ.out.cellsE r hrm
                  obtain ⟨rfl, rfl⟩ : br = b6 ∧ cr = c6 := by have := HBR.out.symm.trans hb6; simpa using this
                  obtain ⟨x1, -⟩ := g2 y hyn
                  obtain ⟨x3, -⟩ := g3 k hk
                  obtain ⟨x4, -⟩ := g3 y hyn
                  have e1 : part (below r k d M1) M1 i y i y = M1 i y := part_old (Nat.le_refl _) (fun _ => Nat.le_refl _)
                  have e3 : part (below r k d M1) M1 i y r k = z := (part_piv hri).trans HMP.out
                  have e4 : part (below r k d M1) M1 i y r y = M1 r y := part_piv hri
                  rw [show (⟨part (below r k d M1) M1 i y, d, ng, r⟩ : Est).M = part (below r k d M1) M1 i y from rfl] at x1 x3 x4
                  rw [e1] at x1
                  rw [e3] at x3
                  rw [e4] at x4
                  have HTY := Lib.hid (HT.out i y hri)
                  have HRO := Lib.hid (redOk (HM1.out i y (by omega) hir hyn) HZS.out (HM1.out i k (by omega) hir hk) (HM1.out r y (Nat.le_refl _) hrm hyn) HL.out H0.out)
                  clear e1 e3 e4 g2 g3 hb5 hb6
                  go_wp2_with fail
                  go_region_with (go_at_call 128; (with_reducible refine (reduced_any _ g _ _ _ (M1 i y) z (M1 i k) (M1 r y) d hJ.out.drew.box HRO.out (HE.out.below hJ.out.drew.bel (Nat.le_refl _))).mono ?_); rintro e w2 ⟨v, rfl, rfl, hb2⟩; rw [← HTY.out]; have HJ2 := Lib.hid (hJ.out.drew.keep hb2); obtain ⟨b7, c7, hb7, -, -, g4⟩ := HJ2.out.cellsE i hir; obtain ⟨rfl, rfl⟩ : bi = b7 ∧ ci = c7 := (by have := HBI.out.symm.trans hb7; simpa using this); obtain ⟨y1, y2⟩ := g4 y hyn; clear g4 hb7)
                  all_goals
                    go_wp2_with fail
                    go_roundw
                    case rel => exact ⟨y + 1, by omega, by go_num, Lib.hid ((HJ2.out.putE (by omega) y (below r k d M1 i y) HBI.out).congr (M := part (below r k d M1) M1 i (y + 1)) fun a b _ _ => part_upd _ _ _ _ a b)⟩
                    case measure => simp [intOf]; omega
                · obtain rfl : y = n := by omega
                  have HJ2 := Lib.hid (hJ.out.congr (M := part (below r k d M1) M1 (r + 1 + (q + 1)) 0) fun a b _ hb => by
                    rw [show r + 1 + (q + 1) = i + 1 by have := HII.out; omega]; exact part_row a b hb)
                  clear hJ
                  go_wp2_with fail
                  go_roundw
                  case rel => exact ⟨q + 1, by omega, by go_num, HJ2⟩
                  case measure => simp [intOf]; omega
            · obtain rfl : q = m - (r + 1) := by omega
              have HI := Lib.hid (show Grid w0 wr g (.slice (some ⟨rb, 0, none⟩) m cap) bs' m n ⟨below r k d M1, d, ng, r⟩ from
                hI.out.congr (M := below r k d M1) fun i y hi _ => by show part _ _ (r + 1 + (m - (r + 1))) 0 i y = _; rw [show r + 1 + (m - (r + 1)) = m by omega]; exact part_end i y hi)
              clear hI
              obtain ⟨b4, c4, hb4, -, -, e2⟩ := HI.out.cellsE r hrm
              obtain ⟨rfl, rfl⟩ : br = b4 ∧ cr = c4 := by have := HBR.out.symm.trans hb4; simpa using this
              obtain ⟨x1, -⟩ := e2 k hk
              have e3 : below r k d M1 r k = z := by unfold below; rw [if_neg (by omega), HMP.out]
              rw [show (⟨below r k d M1, d, ng, r⟩ : Est).M = below r k d M1 from rfl, e3] at x1
              have k1 := HI.out.box.cell 1 _ rfl; have f1 := HI.out.box.free 1
              have k3 := HI.out.box.cell 3 _ rfl; have f3 := HI.out.box.free 3
              have HB := Lib.hid (HI.out.bump z)
              have HC2 := Lib.hid (show S = ⟨below r k d M1, z, ng, r + 1⟩ by rw [HC.out, HMP.out])
              clear e2 e3 hb4
              go_wp2_with fail
              go_end0
              exact ⟨rfl, bs', by rw [HC2.out]; exact HB.out⟩
    · obtain rfl : j = m := by omega
      have HC := Lib.hid (show S = s by rw [← HS.out]; exact col_stop (ftop_eq (j - s.rank) s.rank j (by have := HR.out; omega) (Nat.le_refl _) hz.out fun h => by omega))
      go_wp2
      go_end0
      exact ⟨rfl, bs, by rw [HC.out]; exact HG.out⟩
end Go.Proofs.YtlnhocgjgmhfgaaGreatDoor
