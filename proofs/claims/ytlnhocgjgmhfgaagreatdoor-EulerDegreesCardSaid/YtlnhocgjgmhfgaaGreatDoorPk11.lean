/- The walk of laplacian's full. The walk of laplacian's full: the loop. The walks of laplacian's Full and minor. The walk of matrix's column. The walks of matrix's Add, Product and Apply. The walks of matrix's eliminate, Determinant and Rank. The walks of slices.Equal and of the reference's Same over texts. The walk of the matrix law's awake: the chapter's examples. The walk of the reference's Few of matrices. Matrices by their numbers: what Determinant, Rank, Product and Transpose answer. -/
import Derived.Test.YtlnhocgjgmhfgaaGreatDoorPk10
import Derived.Test.YtlnhocgjgmhfgaaGreatDoorPk1
import Derived.Test.YtlnhocgjgmhfgaaGreatDoorPk9
import Derived.BigRegion
import Derived.Test.YtlnhocgjgmhfgaaGreatDoorPk7
import Derived.BigQuiet
import Derived.WalkSpells
namespace Go.Proofs.YtlnhocgjgmhfgaaGreatDoor
open Go.RowKit Go.Shelf
set_option maxRecDepth 100000

attribute [local go_sem] Oper.semAt_some

theorem wideFn (f : Nat) : Fence.wide.fn f := trivial
theorem keepsB {W W' : World} (h : Below W.heap.size W W') : KeepsOthers W W' := ⟨h.size, fun k _ hk _ => (h.block k (Array.getElem?_eq_some_iff.1 hk).1).trans hk⟩
theorem own_nc {A B : World} {b e s n : Nat} {v : Value} {ys : List Value} {row : Option Nat} (h : A.ownsRow b e s v n ys) (hg : A.grownBy B row) (hr : ∀ r, row = some r → ∃ o : Obj, A.heap[r]? = some o ∧ o.isCells = false) : B.ownsRow b e s v n ys := by
  refine ⟨h.1, h.2.imp_right fun ⟨g, cap, cur, h1, h2, h3, r⟩ => ⟨g, cap, cur, h1, h2, ?_, r⟩⟩
  rw [hg.block g (Array.getElem?_eq_some_iff.1 h3).1 fun e => ?_]; · exact h3
  obtain ⟨o, ho, hc⟩ := hr g e.symm
  rw [h3] at ho; cases ho; cases hc
theorem own_apart {w : World} {b e s n g j : Nat} {u v : Value} {ys : List Value} (h : w.ownsRow b e s v n ys) (hne : v.ownBlock ≠ some g) : (w.setCell ⟨g, j, none⟩ u).ownsRow b e s v n ys := by
  refine ⟨h.1, h.2.imp_right fun ⟨g', cap, cur, h1, h2, h3, r⟩ => ⟨g', cap, cur, h1, h2, ?_, r⟩⟩
  have : g' ≠ g := fun e2 => hne (by rw [h1, e2]; rfl)
  exact (Below.heap_setCell _ _ _ _ this).trans h3

end Go.Proofs.YtlnhocgjgmhfgaaGreatDoor

namespace Go.Proofs.YtlnhocgjgmhfgaaGreatDoor
open Go.RowKit Go.Shelf
set_option maxRecDepth 100000

attribute [local go_sem] Oper.semAt_some

def Bd (B : Int) (A : Mat) : Prop := ∀ i k, -B ≤ A i k ∧ A i k ≤ B
theorem Bd.add {B D d : Int} {A : Mat} (h : Bd B A) (hd : -D ≤ d ∧ d ≤ D) (r c : Nat) : Bd (B + D) (addM A r c d) := fun i k => by
  have := h i k
  unfold addM
  split <;> omega
theorem Bd.lap : ∀ {ns : List (Nat × Nat × Nat)}, (∀ x ∈ ns, x.2.2 ≤ 50) → Bd (100 * (ns.length : Int)) (lap ns)
  | [], _ => fun i k => by simp [Go.Proofs.YtlnhocgjgmhfgaaGreatDoor.lap]
  | x :: l, h => fun i k => by
    have h1 := lap1_le x i k
    have h2 := Bd.lap (ns := l) (fun y hy => h y (by simp [hy])) i k
    have h3 := h x (by simp)
    have e : Go.Proofs.YtlnhocgjgmhfgaaGreatDoor.lap (x :: l) i k = lap1 x i k + Go.Proofs.YtlnhocgjgmhfgaaGreatDoor.lap l i k := by simp [Go.Proofs.YtlnhocgjgmhfgaaGreatDoor.lap]
    rw [e, List.length_cons]
    omega
theorem lap_snoc (ns : List (Nat × Nat × Nat)) {a b m : Nat} (hab : a ≠ b) :
    lap (ns ++ [(a, b, m)]) = addM (addM (addM (addM (lap ns) a a m) b b m) a b (-(m : Int))) b a (-(m : Int)) := by
  funext i k
  simp only [lap, List.map_append, List.sum_append, List.map_cons, List.map_nil, List.sum_cons, List.sum_nil, lap1, hab, if_false, addM]
  omega
theorem lap_filter : ∀ ns : List (Nat × Nat × Nat), lap (ns.filter nl) = lap ns
  | [] => rfl
  | x :: l => by
    have ih := lap_filter l
    funext i k
    have e : ∀ l' : List (Nat × Nat × Nat), lap (x :: l') i k = lap1 x i k + lap l' i k := fun l' => by simp [lap]
    rw [List.filter_cons]
    by_cases h : nl x = true
    · rw [if_pos h, e, e, ih]
    · rw [if_neg h, ih, e]
      have hx : x.1 = x.2.1 := by simpa [nl] using h
      simp [lap1, hx]
end Go.Proofs.YtlnhocgjgmhfgaaGreatDoor

namespace Go.Proofs.YtlnhocgjgmhfgaaGreatDoor
open Go.RowKit Go.Shelf
set_option maxRecDepth 100000

def nsOf (es : List (Int × Int × Int)) : List (Nat × Nat × Nat) := es.map fun x => (x.1.toNat, x.2.1.toNat, x.2.2.toNat)
theorem nsOf_n3 (ns : List (Nat × Nat × Nat)) : nsOf (ns.map n3) = ns := by
  unfold nsOf
  rw [List.map_map]
  conv => rhs; rw [← List.map_id ns]
  congr 1
theorem RG.nsOf {n : Int} {es : List (Int × Int × Int)} {ns : List (Nat × Nat × Nat)} (h : RG n es ns) : Go.Proofs.YtlnhocgjgmhfgaaGreatDoor.nsOf es = ns := by rw [h.eq, nsOf_n3]
/-- What Full answers. -/
def fullS (n : Int) (es : List (Int × Int × Int)) : MR := if chkG n es = 0 then ⟨n, n, cellsF n.toNat n.toNat (lap (nsOf es)), 0⟩ else .bad (chkG n es)
end Go.Proofs.YtlnhocgjgmhfgaaGreatDoor

namespace Go.Proofs.YtlnhocgjgmhfgaaGreatDoor
open Go.RowKit
set_option maxRecDepth 100000

/-- How column ends. -/
def ColP (w0 : World) (g : Nat) (rv : Value) (m n : Nat) (s : Est) (e : Ending) (w' : World) : Prop := e = .returned (.tuple #[]) ∧ ∃ bs', Grid w0 w' g rv bs' m n s
set_option maxHeartbeats 8000000 in
theorem column_any {w0 w : World} {g : Nat} {rv : Value} {bs : List (Nat × Nat)} {m n : Nat} {s : Est} (k : Nat) (hG : Grid w0 w g rv bs m n s) (hk : k < n) (hr : s.rank ≤ m) (hm : m ≤ 16) (hn : n ≤ 16)
    (hM : ∀ i j, s.rank ≤ i → i < m → j < n → sml (s.M i j)) (hl : sml s.last) (h0 : s.last ≠ 0) (he : Env w0) :
    Calls Tryz.prog 116 #[.pointer (some ⟨g, 0, none⟩), .int .i64 k] w (ColP w0 g rv m n (s.col m k)) := by
  obtain ⟨ra, cap, rfl, hcap⟩ : ∃ ra cap, rv = .slice ra m cap ∧ m ≤ cap := by
    rcases hG.rows.2 with ⟨rfl, h⟩ | ⟨rb, cap, cur, e, -, -, h1, -⟩
    · exact ⟨none, 0, by rw [h], by omega⟩
    · exact ⟨_, _, e, h1⟩
  have HG := Lib.hid hG; have HM := Lib.hid hM; have HL := Lib.hid hl; have H0 := Lib.hid h0; have HE := Lib.hid he
  have k0 := hG.box.cell 0 _ rfl; have k3 := hG.box.cell 3 _ rfl
  obtain ⟨S, hS⟩ : ∃ S, s.col m k = S := ⟨_, rfl⟩
  have HS := Lib.hid hS
  rw [hS]
  obtain ⟨r, hrr⟩ : ∃ r, s.rank = r := ⟨_, rfl⟩
  rw [hrr] at k3 hr
  have HR := Lib.hid hrr
  clear hG hM hl h0 he hS hrr
  go_enter Tryz.func116, Tryz.ntmps116
  go_wp2
  go_loop [4] (fun t => ∃ j : Nat, r ≤ j ∧ j ≤ m ∧ t = .int .i64 j ∧ Hid (∀ i, s.rank ≤ i → i < j → s.M i k = 0)) (fun t => m - (intOf t).toNat)
  case atStart => exact ⟨r, Nat.le_refl _, hr, rfl, Lib.hid (fun i a b => by have := HR.out; omega)⟩
  case round =>
    obtain ⟨j, hrj, hjm, rfl, hz⟩ := hrel
    by_cases hlt : j < m
    · obtain ⟨rb, cap', e, -, hc2⟩ := HG.out.rb (by omega)
      cases e
      obtain ⟨bj, cj, hbj, c1, f1, c2⟩ := HG.out.cellsE j hlt
      obtain ⟨c2, -⟩ := c2 k hk
      have HBJ := Lib.hid hbj
      clear hbj
      by_cases h0 : s.M j k = 0
      · have hz0 := txt_z h0
        have HZ := Lib.hid (show ∀ i, s.rank ≤ i → i < j + 1 → s.M i k = 0 from fun i h1 h2 => by
          by_cases e : i = j
          · rw [e]; exact h0
          · exact hz.out i h1 (by omega))
        clear h0
        go_wp2
        go_round
        case rel => exact ⟨j + 1, by omega, by omega, by go_num, HZ⟩
        case measure => simp [intOf]; omega
      · have hz0 := txt_ne0 h0
        have hne : ((j : Int) == (m : Int)) = false := by simp; omega
        have HC := Lib.hid (show S = ⟨below s.rank k s.last (swr s.M j s.rank), swr s.M j s.rank s.rank k, if j = s.rank then s.neg else !s.neg, s.rank + 1⟩ by rw [← HS.out]; exact col_go (ftop_eq (j - s.rank) s.rank j (by have := HR.out; omega) hjm hz.out fun _ => h0) hlt)
        have HP0 := Lib.hid (show swr s.M j s.rank s.rank k ≠ 0 by
          unfold swr
          by_cases e : s.rank = j
          · rw [if_pos e, e]; exact h0
          · rw [if_neg e, if_pos rfl]; exact h0)
        clear h0
        go_upto_if 48 with (fail)
        go_cut [] (fun wx => ∃ bs', Hid (Grid w0 wx g (.slice (some ⟨rb, 0, none⟩) m cap) bs' m n ⟨swr s.M j s.rank, s.last, if j = s.rank then s.neg else !s.neg, s.rank⟩))
        case first =>
          by_cases hjr : j = r
          · have hne2 : ((j : Int) != (r : Int)) = false := by simp [hjr]
            have HF := Lib.hid (show Grid w0 w g (.slice (some ⟨rb, 0, none⟩) m cap) bs m n ⟨swr s.M j s.rank, s.last, if j = s.rank then s.neg else !s.neg, s.rank⟩ by
              rw [if_pos (hjr.trans HR.out.symm), hjr, ← HR.out, swr_self]; exact HG.out)
            clear hjr
            go_wp2
            go_meet
            exact ⟨bs, HF⟩
          · have hne2 : ((j : Int) != (r : Int)) = true := by simp; omega
            obtain ⟨br, cr, hbr, d1, e1, -⟩ := HG.out.cellsE r (by omega)
            have HBR := Lib.hid hbr
            have q0 : (0 : Int) ≤ (j : Int) := by omega
            have q1 : (0 : Int) ≤ (r : Int) := by omega
            have q2 : r < m := by omega
            have q3 : j ≠ r := hjr
            have k2 := HG.out.box.cell 2 _ rfl
            have l2 := HG.out.box.free 2
            have hgrb := HG.out.ne_rb
            have hbg : -1 ≤ sgB s.neg ∧ sgB s.neg ≤ 1 := by cases s.neg <;> simp [sgB]
            obtain ⟨z, hz⟩ : ∃ z, sgB s.neg = z := ⟨_, rfl⟩
            rw [hz] at k2 hbg
            have HF := Lib.hid (show ∀ w', w' = w.drew → ∃ bs', Grid w0 (((w'.setCell ⟨rb, j, none⟩ (.slice (some ⟨br, 0, none⟩) n cr)).setCell ⟨rb, r, none⟩ (.slice (some ⟨bj, 0, none⟩) n cj)).setCell ⟨g, 2, none⟩ (.int .i64 (-z))) g (.slice (some ⟨rb, 0, none⟩) m cap) bs' m n ⟨swr s.M j s.rank, s.last, if j = s.rank then s.neg else !s.neg, s.rank⟩ from fun w' e => by
              subst e
              have hr2 := HR.out
              have e2 : swr s.M j s.rank = swr s.M j r := by rw [hr2]
              rw [if_neg (by omega), ← hz, e2]
              have h2 := (HG.out.drew.swapE HBJ.out HBR.out q3).flip
              exact ⟨_, h2⟩)
            have hb1 := hbg.1; have hb2 := hbg.2
            clear c2 hz0 hjr hne hbr hz hbg
            go_wp2_with fail
            go_region
            all_goals
              go_wp2_with fail
              go_meet
              obtain ⟨bs', h⟩ := HF.out _ rfl
              exact ⟨bs', Lib.hid h⟩
        case rest =>
          obtain ⟨bs', hG'⟩ := hcut
          obtain ⟨M1, hM1⟩ : ∃ M1, swr s.M j s.rank = M1 := ⟨_, rfl⟩
          obtain ⟨ng, hng⟩ : ∃ ng, (if j = s.rank then s.neg else !s.neg) = ng := ⟨_, rfl⟩
          have HM1 := Lib.hid (show ∀ i y, r ≤ i → i < m → y < n → sml (M1 i y) by
            rw [← hM1, ← HR.out]; exact swr_sml (by have := HR.out; omega) hlt HM.out)
          rw [hM1, hng, HR.out] at hG'
          rw [hM1, hng, HR.out] at HC
          rw [hM1, HR.out] at HP0
          obtain ⟨d, hd⟩ : ∃ d, s.last = d := ⟨_, rfl⟩
          rw [hd] at hG' HC HL H0
          clear hM1 hng hd HM HG k0 k3 c1 c2 hz0 hz hne f1 HBJ
          have hrm : r < m := by omega
          obtain ⟨br, cr, hbr, d1, -, d2⟩ := hG'.out.cellsE r hrm
          have k0 := hG'.out.box.cell 0 _ rfl; have k3 := hG'.out.box.cell 3 _ rfl
          have HBR := Lib.hid hbr
          obtain ⟨dp, -⟩ := d2 k hk
          have HD2 := Lib.hid d2
          have q1 : (0 : Int) ≤ (r : Int) := by omega
          have q2 : (r : Int) < (m : Int) := by omega
          have q4 : (r : Int) + 1 ≤ (m : Int) := by omega
          have q5 : (m : Int) ≤ (cap : Int) := by omega
          clear hbr d2
          go_wp2_with fail
          go_quiet (fail)
          have HG1 := Lib.hid (hG'.out.drewN nq)
          clear hG' k0 k3 d1 dp HD2
          generalize wc.drewN nq = W1 at *
          obtain ⟨br', cr', hbr', d1, -, d2⟩ := HG1.out.cellsE r hrm
          have k0 := HG1.out.box.cell 0 _ rfl; have k3 := HG1.out.box.cell 3 _ rfl
          go_wp2_with fail
          go_quiet (fail)
          have HG2 := Lib.hid (HG1.out.drewN nq)
          clear HG1 k0 k3 d1 d2
          generalize W1.drewN nq = W2 at *
          obtain ⟨sv, hsv⟩ : ∃ sv, (if cap = r + 1 then some (⟨rb, 0, none⟩ : Addr) else some ⟨rb, r + 1, none⟩) = sv := ⟨_, rfl⟩
          rw [hsv]
          have HSV := Lib.hid (show r + 1 < m → sv = some ⟨rb, r + 1, none⟩ from fun h => by rw [← hsv, if_neg (by omega)])
          clear hsv
          have hMp : ∃ z, M1 r k = z := ⟨_, rfl⟩
          obtain ⟨z, hz⟩ := hMp
          have HMP := Lib.hid hz
          have HT := Lib.hid (show ∀ i y, r < i → below r k d M1 i y = Int.fdiv (M1 i y * z - M1 i k * M1 r y) d from fun i y h => by unfold below; rw [if_pos h, hz])
          have HG3 := Lib.hid (HG2.out.congr (M := part (below r k d M1) M1 (r + 1) 0) fun i y _ _ => (part_start r k d M1 i y).symm)
          have HZS := Lib.hid (show sml z by rw [← hz]; exact HM1.out r k (Nat.le_refl _) hrm hk)
          clear HG2 hz
          go_wp2_with fail
          go_loopw [110] (fun i wr => ∃ q : Nat, q ≤ m - (r + 1) ∧ i = .int .i64 q ∧ Hid (Grid w0 wr g (.slice (some ⟨rb, 0, none⟩) m cap) bs' m n ⟨part (below r k d M1) M1 (r + 1 + q) 0, d, ng, r⟩)) (fun i _ => (m - (r + 1)) - (intOf i).toNat)
          case atStart => exact ⟨0, Nat.zero_le _, rfl, HG3⟩
          case round =>
            clear HG3
            obtain ⟨q, hq, rfl, hI⟩ := hrel
            by_cases hqm : q < m - (r + 1)
            · have hsv := HSV.out (by omega)
              subst hsv
              have hir : r + 1 + q < m := by omega
              obtain ⟨bi, ci, hbi, c1, -, e2⟩ := hI.out.cellsE (r + 1 + q) hir
              obtain ⟨c2, -⟩ := e2 k hk
              have e3 : part (below r k d M1) M1 (r + 1 + q) 0 (r + 1 + q) k = M1 (r + 1 + q) k := part_old (Nat.le_refl _) (fun _ => Nat.zero_le _)
              rw [show (⟨part (below r k d M1) M1 (r + 1 + q) 0, d, ng, r⟩ : Est).M = part (below r k d M1) M1 (r + 1 + q) 0 from rfl, e3] at c2
              have HBI := Lib.hid hbi
              obtain ⟨i, hi⟩ : ∃ i, r + 1 + q = i := ⟨_, rfl⟩
              rw [hi] at hI HBI hir c1 c2
              have HII := Lib.hid hi
              have hri : r < i := by omega
              clear e2 e3 hbi
              obtain ⟨W3, rfl⟩ : ∃ W, W = wr := ⟨_, rfl⟩
              go_wp2
              clear hi
              go_loopw [120] (fun jv wr => ∃ y : Nat, y ≤ n ∧ jv = .int .i64 y ∧ Hid (Grid w0 wr g (.slice (some ⟨rb, 0, none⟩) m cap) bs' m n ⟨part (below r k d M1) M1 i y, d, ng, r⟩)) (fun jv _ => n - (intOf jv).toNat)
              case atStart => exact ⟨0, Nat.zero_le _, rfl, hI⟩
              case round =>
                clear hI c1 c2
                obtain ⟨y, hy, rfl, hJ⟩ := hrel
                by_cases hyn : y < n
                · obtain ⟨b5, c5, hb5, -, -, g2⟩ := hJ.out.cellsE i hir
                  obtain ⟨rfl, rfl⟩ : bi = b5 ∧ ci = c5 := by have := HBI.out.symm.trans hb5; simpa using this
                  obtain ⟨b6, c6, hb6, -, -, g3⟩ := hJ.out.cellsE r hrm
                  obtain ⟨rfl, rfl⟩ : br = b6 ∧ cr = c6 := by have := HBR.out.symm.trans hb6; simpa using this
                  obtain ⟨x1, -⟩ := g2 y hyn
                  obtain ⟨x3, -⟩ := g3 k hk
                  obtain ⟨x4, -⟩ := g3 y hyn
                  have e1 : part (below r k d M1) M1 i y i y = M1 i y := part_old (Nat.le_refl _) (fun _ => Nat.le_refl _)
                  have e3 : part (below r k d M1) M1 i y r k = z := (part_piv hri).trans HMP.out
                  have e4 : part (below r k d M1) M1 i y r y = M1 r y := part_piv hri
                  rw [show (⟨part (below r k d M1) M1 i y, d, ng, r⟩ : Est).M = part (below r k d M1) M1 i y from rfl] at x1 x3 x4
                  rw [e1] at x1
                  rw [e3] at x3
                  rw [e4] at x4
                  have HTY := Lib.hid (HT.out i y hri)
                  have HRO := Lib.hid (redOk (HM1.out i y (by omega) hir hyn) HZS.out (HM1.out i k (by omega) hir hk) (HM1.out r y (Nat.le_refl _) hrm hyn) HL.out H0.out)
                  clear e1 e3 e4 g2 g3 hb5 hb6
                  go_wp2_with fail
                  go_region_with (go_at_call 128; (with_reducible refine (reduced_any _ g _ _ _ (M1 i y) z (M1 i k) (M1 r y) d hJ.out.drew.box HRO.out (HE.out.below hJ.out.drew.bel (Nat.le_refl _))).mono ?_); rintro e w2 ⟨v, rfl, rfl, hb2⟩; rw [← HTY.out]; have HJ2 := Lib.hid (hJ.out.drew.keep hb2); obtain ⟨b7, c7, hb7, -, -, g4⟩ := HJ2.out.cellsE i hir; obtain ⟨rfl, rfl⟩ : bi = b7 ∧ ci = c7 := (by have := HBI.out.symm.trans hb7; simpa using this); obtain ⟨y1, y2⟩ := g4 y hyn; clear g4 hb7)
                  all_goals
                    go_wp2_with fail
                    go_roundw
                    case rel => exact ⟨y + 1, by omega, by go_num, Lib.hid ((HJ2.out.putE (by omega) y (below r k d M1 i y) HBI.out).congr (M := part (below r k d M1) M1 i (y + 1)) fun a b _ _ => part_upd _ _ _ _ a b)⟩
                    case measure => simp [intOf]; omega
                · obtain rfl : y = n := by omega
                  have HJ2 := Lib.hid (hJ.out.congr (M := part (below r k d M1) M1 (r + 1 + (q + 1)) 0) fun a b _ hb => by
                    rw [show r + 1 + (q + 1) = i + 1 by have := HII.out; omega]; exact part_row a b hb)
                  clear hJ
                  go_wp2_with fail
                  go_roundw
                  case rel => exact ⟨q + 1, by omega, by go_num, HJ2⟩
                  case measure => simp [intOf]; omega
            · obtain rfl : q = m - (r + 1) := by omega
              have HI := Lib.hid (show Grid w0 wr g (.slice (some ⟨rb, 0, none⟩) m cap) bs' m n ⟨below r k d M1, d, ng, r⟩ from
                hI.out.congr (M := below r k d M1) fun i y hi _ => by show part _ _ (r + 1 + (m - (r + 1))) 0 i y = _; rw [show r + 1 + (m - (r + 1)) = m by omega]; exact part_end i y hi)
              clear hI
              obtain ⟨b4, c4, hb4, -, -, e2⟩ := HI.out.cellsE r hrm
              obtain ⟨rfl, rfl⟩ : br = b4 ∧ cr = c4 := by have := HBR.out.symm.trans hb4; simpa using this
              obtain ⟨x1, -⟩ := e2 k hk
              have e3 : below r k d M1 r k = z := by unfold below; rw [if_neg (by omega), HMP.out]
              rw [show (⟨below r k d M1, d, ng, r⟩ : Est).M = below r k d M1 from rfl, e3] at x1
              have k1 := HI.out.box.cell 1 _ rfl; have f1 := HI.out.box.free 1
              have k3 := HI.out.box.cell 3 _ rfl; have f3 := HI.out.box.free 3
              have HB := Lib.hid (HI.out.bump z)
              have HC2 := Lib.hid (show S = ⟨below r k d M1, z, ng, r + 1⟩ by rw [HC.out, HMP.out])
              clear e2 e3 hb4
              go_wp2_with fail
              go_end0
              exact ⟨rfl, bs', by rw [HC2.out]; exact HB.out⟩
    · obtain rfl : j = m := by omega
      have HC := Lib.hid (show S = s by rw [← HS.out]; exact col_stop (ftop_eq (j - s.rank) s.rank j (by have := HR.out; omega) (Nat.le_refl _) hz.out fun h => by omega))
      go_wp2
      go_end0
      exact ⟨rfl, bs, by rw [HC.out]; exact HG.out⟩
end Go.Proofs.YtlnhocgjgmhfgaaGreatDoor

namespace Go.Proofs.YtlnhocgjgmhfgaaGreatDoor
open Go.RowKit
set_option maxRecDepth 100000

theorem two_ok {R C R' C' : Int} {xs ys : List ByteArray} (h : twoM R C xs R' C' ys = 0) : mchkM R C xs = 0 ∧ mchkM R' C' ys = 0 := by
  unfold twoM at h; split at h
  · exact ⟨by assumption, h⟩
  · exact absurd h (by assumption)
/-- Entries with few digits. -/
def Fit (D : Nat) (xs : List ByteArray) : Prop := ∀ s ∈ xs, s.size ≤ D
theorem dn_size {s : ByteArray} {z : Int} (h : Good s z) : dn z ≤ s.size := by
  have h4 : (Lib.itoa z).length = s.size := by rw [← h.1, Lib.size_eq]
  have h2 := digs10_len z.natAbs
  have h3 : (Lib.decDigits z.natAbs).length ≤ (Lib.itoa z).length := by rw [itoa_cases]; split <;> simp
  unfold dn; omega
theorem RM.dn {R C : Int} {xs : List ByteArray} {r c i k D : Nat} (h : RM R C xs r c) (hf : Fit D xs) (hi : i < r) (hk : k < c) : dn (matF c xs i k) ≤ D := by
  exact Nat.le_trans (dn_size (h.good hi hk)) (hf _ (List.getElem_mem _))
theorem dn_mulM {D E n : Nat} {A B : Mat} {i k : Nat} (hA : ∀ j, j < n → dn (A i j) ≤ D) (hB : ∀ j, j < n → dn (B j k) ≤ E) : dn (mulM n A B i k) ≤ D + E + n :=
  dn_sm _ n fun j hj => by have := dn_mul (A i j) (B j k); have := hA j hj; have := hB j hj; omega

theorem side_of {R C : Int} {xs : List ByteArray} (h : mchkM R C xs = 0) : (0 ≤ R ∧ R ≤ 16) ∧ 0 ≤ C ∧ C ≤ 16 := by
  obtain ⟨r, c, hrm⟩ := rm_of h
  have := hrm.rows; have := hrm.cols; have := hrm.r16; have := hrm.c16
  omega

/-- What Add answers. -/
def addS3 (R C : Int) (xs : List ByteArray) (R' C' : Int) (ys : List ByteArray) : MR :=
  if twoM R C xs R' C' ys = 0 then (if R = R' ∧ C = C' then ⟨R, C, cellsF R.toNat C.toNat (fun i k => matF C.toNat xs i k + matF C.toNat ys i k), 0⟩ else .bad 8) else .bad (twoM R C xs R' C' ys)
/-- What Product answers. -/
def prodS (R C : Int) (xs : List ByteArray) (R' C' : Int) (ys : List ByteArray) : MR :=
  if twoM R C xs R' C' ys = 0 then (if C = R' then ⟨R, C', cellsF R.toNat C'.toNat (mulM C.toNat (matF C.toNat xs) (matF C'.toNat ys)), 0⟩ else .bad 8) else .bad (twoM R C xs R' C' ys)
end Go.Proofs.YtlnhocgjgmhfgaaGreatDoor

namespace Go.Proofs.YtlnhocgjgmhfgaaGreatDoor
open Go.RowKit
set_option maxRecDepth 100000

theorem kept_sml {m n k : Nat} {A : Mat} {s : Est} (h : Kept m n k A s) (hD : ∀ i j, i < m → j < n → dn (A i j) ≤ 60) (hm : m ≤ 6) :
    (∀ i j, s.rank ≤ i → i < m → j < n → sml (s.M i j)) ∧ sml s.last ∧ s.last ≠ 0 ∧ s.rank ≤ m := by
  obtain ⟨B, c, hI, -, σ, hσ, -⟩ := h.ex
  have hB : ∀ i j, i < m → j < n → dn (B i j) ≤ 60 := fun i j hi hj => by rw [(hσ i hi).2]; exact hD _ _ (hσ i hi).1 hj
  have hc : ∀ t, t < s.rank → c t < n := fun t ht => Nat.lt_of_lt_of_le (hI.ck t ht) hI.kn
  have hr := hI.rk
  have cap : ∀ p, p ≤ 6 → 1 + p * (60 + p) ≤ 400 := fun p hp => by
    have := Nat.mul_le_mul hp (show 60 + p ≤ 66 by omega); omega
  refine ⟨fun i j hi him hj => ?_, ?_, hI.d0, hr⟩
  · unfold sml
    rw [hI.minor hi him hj]
    refine Nat.le_trans (dn_det (D := 60) (s.rank + 1) _ fun x y hx hy => ?_) (cap _ (by omega))
    refine hB _ _ ?_ ?_
    · split <;> omega
    · split
      · exact hc _ (by assumption)
      · exact hj
  · unfold sml
    rw [hI.lead]
    exact Nat.le_trans (dn_det (D := 60) s.rank _ fun x y hx hy => hB _ _ (by omega) (hc _ hy)) (cap _ (by omega))
/-- What eliminate leaves. -/
def ElimP (w : World) (S : Est) : Ending → World → Prop := Rets fun x w' => ∃ g rv, x = .pointer (some ⟨g, 0, none⟩) ∧ w.heap.size ≤ g ∧ Blk w' g [rv, .string (txt S.last), .int .i64 (sgB S.neg), .int .i64 S.rank, .int .i64 0] 163 ∧ Below w.heap.size w w'
/-- The elimination's grid where it begins. -/
theorem Grid.start {w0 w : World} {g r c cap : Nat} {a : Option Addr} {A : Mat} {bs : List (Nat × Nat)} (hk : Blk w g [.slice a r cap, .string (txt 1), .int .i64 1, .int .i64 0, .int .i64 0] 163) (hr : w.ownsRow w0.heap.size 126 1 (.slice a r cap) r (bs.map (rowV c)))
    (hR : RowsAt w0.heap.size c A bs w) (hg : w0.heap.size ≤ g) (hb : Below w0.heap.size w0 w) : Grid w0 w g (.slice a r cap) bs r c (Est.start A) :=
  ⟨hk, hr, hR.row, hR.nod, hg, hb⟩
theorem RowsAt.low {base b c : Nat} {A : Mat} {bs : List (Nat × Nat)} {W : World} (h : RowsAt base c A bs W) (hb : b ≤ base) : RowsAt b c A bs W := ⟨fun i hi => own_low (h.row i hi) hb, h.nod, h.lt⟩
theorem RowsAt.below {base c : Nat} {A : Mat} {bs : List (Nat × Nat)} {W W' : World} (h : RowsAt base c A bs W) (hb : Below W.heap.size W W') : RowsAt base c A bs W' :=
  ⟨fun i hi => own_below (h.row i hi) hb (Nat.le_refl _), h.nod, fun b hm => Nat.lt_of_lt_of_le (h.lt b hm) hb.size⟩
set_option maxHeartbeats 4000000 in
theorem eliminate_ok (w : World) (v : Value) (xs : List ByteArray) (r c : Nat) (hv : Sl eS w v xs) (hrm : RM r (c + 1 : Nat) xs r (c + 1)) (hf : ∀ i j, i < r → j < c + 1 → dn (matF (c + 1) xs i j) ≤ 60) (hr : r ≤ 6) (he : Env w) :
    Calls Tryz.prog 99 #[.agg #[.int .i64 r, .int .i64 (c + 1 : Nat), v]] w (ElimP w ((Est.start (matF (c + 1) xs)).cols r (c + 1))) := by
  have HV := Lib.hid hv; have HE := Lib.hid he; have HX := Lib.hid hrm.cells; have HC16 := Lib.hid hrm.c16
  have HKP := Lib.hid (fun k (hk : k ≤ c + 1) => kept_sml (Kept.cols (m := r) (n := c + 1) (matF (c + 1) xs) k hk) hf hr)
  obtain ⟨A, hA⟩ : ∃ A, matF (c + 1) xs = A := ⟨_, rfl⟩
  rw [hA] at HX HKP ⊢
  have HCO := Lib.hid (fun (w1 : World) (B : Nat) (u : Value) (h1 : Blk w1 B [.int .i64 r, .int .i64 (c + 1 : Nat), u] 128) (h2 : Sl eS w1 u xs) => collect_any A h1 h2 HX.out (by omega) HC16.out)
  have HCOL := Lib.hid (fun (w1 : World) (g : Nat) (rv : Value) (bs : List (Nat × Nat)) (k : Nat) (hk : k < c + 1) (hG : Grid w w1 g rv bs r (c + 1) ((Est.start A).cols r k)) =>
    column_any k hG hk (HKP.out k (by omega)).2.2.2 (by omega) HC16.out (HKP.out k (by omega)).1 (HKP.out k (by omega)).2.1 (HKP.out k (by omega)).2.2.1 he)
  obtain ⟨n, hn⟩ : ∃ n, c + 1 = n := ⟨_, rfl⟩
  have HN := Lib.hid hn
  obtain ⟨ad, cap, rfl⟩ := sl_form hv
  clear hv hrm hf he hA HX HKP
  rw [hn] at HCO HCOL HC16 ⊢
  clear hn
  have hn16 := HC16.out
  have HB0 := Lib.hid ((Below.refl w.heap.size w).alloc (Nat.le_refl _) (.cells #[.int .i64 r, .int .i64 n, .slice ad xs.length cap] 128))
  have HK0 := Lib.hid (Blk.new w [.int .i64 r, .int .i64 n, .slice ad xs.length cap] 128)
  go_enter Tryz.func99, Tryz.ntmps99
  have HB1 := Lib.hid (HB0.out.alloc (by simp) (.cells #[.int .i64 r, .int .i64 n, .slice ad xs.length cap] 128))
  go_wp2_with (first
    | (go_at_call 115; (with_reducible refine (rows_any _ _ _ _ _ _).mono ?_); rintro e w1 ⟨rfl, rfl⟩)
    | (go_at_call 114; (with_reducible refine (HCO.out _ _ _ (Blk.at1 w _ _ _) ((HV.out.below HB0.out (Nat.le_refl _)).below ((Below.refl _ _).alloc (Nat.le_refl _) _) (Nat.le_refl _))).mono ?_); rintro e w2 ⟨x, rfl, bs, ⟨hl, h1⟩, h2, h3⟩; rw [hl] at h2; obtain ⟨xa, xc, rfl⟩ := own_form h2; have b2 := HB1.out.trans (h3.mono (by simp; omega)); have H1 := Lib.hid (h1.low (show w.heap.size ≤ _ by simp; omega)); have H2 := Lib.hid (own_low h2 (show w.heap.size ≤ _ by simp; omega)); have hK2 := ((HK0.out.alloc _).below h3 (Nat.le_refl _)); have HK2 := Lib.hid hK2; clear h1 h2 hK2)
    | (go_at_call 61; (with_reducible refine (Of_any _ 1 (by omega) (by omega) (HE.out.below b2 (Nat.le_refl _))).mono ?_); rintro e w4 ⟨v, rfl, rfl, hb4⟩; have b4 := b2.trans (hb4.mono b2.size); have b5 := b4.alloc b4.size (.cells #[.slice xa r xc, .string (txt 1), .int .i64 1, .int .i64 0, .int .i64 0] 163); have HK5 := Lib.hid ((HK2.out.below hb4 (Nat.le_refl _)).alloc (.cells #[.slice xa r xc, .string (txt 1), .int .i64 1, .int .i64 0, .int .i64 0] 163)); have c0 := HK5.out.cell 0 _ rfl; have c1 := HK5.out.cell 1 _ rfl; have hb5 := hb4.alloc hb4.size (.cells #[.slice xa r xc, .string (txt 1), .int .i64 1, .int .i64 0, .int .i64 0] 163); have HG := Lib.hid (Grid.start (w0 := w) (Blk.new w4 [.slice xa r xc, .string (txt 1), .int .i64 1, .int .i64 0, .int .i64 0] 163) (own_below H2.out hb5 (Nat.le_refl _)) (H1.out.below hb5) b4.size b5)))
  go_loopw [13] (fun i wr => ∃ k : Nat, k ≤ n ∧ i = .int .i64 k ∧ Hid (∃ bs', Grid w wr w4.heap.size (.slice xa r xc) bs' r n ((Est.start A).cols r k))) (fun i _ => n - (intOf i).toNat)
  case atStart => exact ⟨0, Nat.zero_le _, rfl, Lib.hid ⟨bs, HG.out⟩⟩
  case round =>
    clear c0 c1 HG
    obtain ⟨k, hk, rfl, hG⟩ := hrel
    by_cases hkn : k < n
    · obtain ⟨bs', hG'⟩ := hG.out
      have HC := Lib.hid (HCOL.out _ _ _ _ k hkn hG')
      clear hG'
      go_wp2_with (go_at_call 116; (with_reducible refine HC.out.mono ?_); rintro e w6 ⟨rfl, bs2, hG2⟩; have HG2 := Lib.hid hG2; clear hG2)
      go_roundw
      case rel => exact ⟨k + 1, by omega, by go_num, Lib.hid ⟨bs2, HG2.out⟩⟩
      case measure => simp [intOf]; omega
    · obtain rfl : k = n := by omega
      go_wp2
      go_ret
      obtain ⟨bs', hG'⟩ := hG.out
      exact ⟨_, rfl, _, _, rfl, hG'.gB, hG'.box, hG'.bel⟩
set_option maxHeartbeats 2000000 in
theorem eliminate0_ok (w : World) (v : Value) (r : Nat) (A : Mat) (hv : Sl eS w v []) (hr : r ≤ 16) (he : Env w) :
    Calls Tryz.prog 99 #[.agg #[.int .i64 r, .int .i64 0, v]] w (ElimP w (Est.start A)) := by
  have HV := Lib.hid hv; have HE := Lib.hid he
  have HCO := Lib.hid (fun (w1 : World) (B : Nat) (u : Value) (h1 : Blk w1 B [.int .i64 r, .int .i64 0, u] 128) (h2 : Sl eS w1 u []) => collect0_any h1 h2 hr)
  have HZ := Lib.hid (show sgB (Est.start A).neg = 1 ∧ (Est.start A).rank = 0 ∧ (Est.start A).last = 1 from ⟨rfl, rfl, rfl⟩)
  obtain ⟨ad, cap, rfl⟩ : ∃ a c, v = .slice a 0 c := by obtain ⟨a, c, h⟩ := sl_form hv; exact ⟨a, c, h⟩
  clear hv he hr
  have HB0 := Lib.hid ((Below.refl w.heap.size w).alloc (Nat.le_refl _) (.cells #[.int .i64 r, .int .i64 0, .slice ad 0 cap] 128))
  have HK0 := Lib.hid (Blk.new w [.int .i64 r, .int .i64 0, .slice ad 0 cap] 128)
  have HB1 := Lib.hid (HB0.out.alloc (by simp) (.cells #[.int .i64 r, .int .i64 0, .slice ad 0 cap] 128))
  go_enter Tryz.func99, Tryz.ntmps99
  go_wp2_with (first
    | (go_at_call 115; (with_reducible refine (rows_any _ _ _ _ _ _).mono ?_); rintro e w1 ⟨rfl, rfl⟩)
    | (go_at_call 114; (with_reducible refine (HCO.out _ _ _ (Blk.at1 w _ _ _) ((HV.out.below HB0.out (Nat.le_refl _)).below ((Below.refl _ _).alloc (Nat.le_refl _) _) (Nat.le_refl _))).mono ?_); rintro e w2 ⟨x, rfl, bs, hl, h2, h3⟩; rw [hl] at h2; obtain ⟨xa, xc, rfl⟩ := own_form h2; have b2 := HB1.out.trans (h3.mono (by simp; omega)); have HK2 := Lib.hid ((HK0.out.alloc _).below h3 (Nat.le_refl _)); clear h2)
    | (go_at_call 61; (with_reducible refine (Of_any _ 1 (by omega) (by omega) (HE.out.below b2 (Nat.le_refl _))).mono ?_); rintro e w4 ⟨v, rfl, rfl, hb4⟩; have b4 := b2.trans (hb4.mono b2.size); have b5 := b4.alloc b4.size (.cells #[.slice xa r xc, .string (txt 1), .int .i64 1, .int .i64 0, .int .i64 0] 163); have HK5 := Lib.hid ((HK2.out.below hb4 (Nat.le_refl _)).alloc (.cells #[.slice xa r xc, .string (txt 1), .int .i64 1, .int .i64 0, .int .i64 0] 163)); have c0 := HK5.out.cell 0 _ rfl; have c1 := HK5.out.cell 1 _ rfl; have HG := Lib.hid (Blk.new w4 [.slice xa r xc, .string (txt 1), .int .i64 1, .int .i64 0, .int .i64 0] 163)))
  go_loopw [13] (fun i wr => i = .int .i64 0 ∧ Hid (wr = w4.alloc (.cells #[.slice xa r xc, .string (txt 1), .int .i64 1, .int .i64 0, .int .i64 0] 163))) (fun i _ => 0)
  case atStart => exact ⟨rfl, Lib.hid rfl⟩
  case round =>
    obtain ⟨rfl, hW⟩ := hrel
    have hW := hW.out
    subst hW
    go_wp2
    go_ret
    exact ⟨_, rfl, _, _, rfl, b4.size, by rw [HZ.out.1, HZ.out.2.1, HZ.out.2.2]; exact HG.out, b5⟩
theorem elim_any (w : World) (v : Value) (xs : List ByteArray) (r c : Nat) (hv : Sl eS w v xs) (hrm : RM r c xs r c) (hf : ∀ i j, i < r → j < c → dn (matF c xs i j) ≤ 60) (hr : r ≤ 6) (he : Env w) :
    Calls Tryz.prog 99 #[.agg #[.int .i64 r, .int .i64 c, v]] w (ElimP w ((Est.start (matF c xs)).cols r c)) := by
  cases c with
  | zero =>
    have : xs = [] := List.length_eq_zero_iff.1 (by rw [hrm.len]; rfl)
    subst this
    exact eliminate0_ok w v r _ hv (by omega) he
  | succ c => exact eliminate_ok w v xs r c hv hrm hf hr he
/-- What Determinant answers. -/
def detS (R C : Int) (xs : List ByteArray) : ByteArray × Int := if mchkM R C xs = 0 then (if R = C then (txt (det R.toNat (matF C.toNat xs)), 0) else (⟨#[]⟩, 8)) else (⟨#[]⟩, mchkM R C xs)
/-- What Rank answers. -/
def rankS (R C : Int) (xs : List ByteArray) : Nat × Int := if mchkM R C xs = 0 then (((Est.start (matF C.toNat xs)).cols R.toNat C.toNat).rank, 0) else (0, mchkM R C xs)
theorem Fit.mono {D E : Nat} {xs : List ByteArray} (h : Fit D xs) (hde : D ≤ E) : Fit E xs := fun s hs => Nat.le_trans (h s hs) hde
set_option maxHeartbeats 4000000 in
theorem Determinant_any (w : World) (R C : Int) (v : Value) (xs : List ByteArray) (hv : Sl eS w v xs) (hf : Fit 60 xs) (h6 : mchkM R C xs = 0 → R ≤ 6 ∧ C ≤ 6) (he : Env w) :
    Calls Tryz.prog 76 #[.agg #[.int .i64 R, .int .i64 C, v]] w (Rets fun v w' => v = .tuple #[.string (detS R C xs).1, .int .i64 (detS R C xs).2] ∧ Below w.heap.size w w') := by
  have HSZ := Lib.hid (show xs.length ≤ 256 → ∀ s ∈ xs, s.size ≤ 1000000 from fun _ s hs => Nat.le_trans (hf s hs) (by omega))
  have HV := Lib.hid hv; have HE := Lib.hid he; have HF := Lib.hid hf
  obtain ⟨ad, cap, rfl⟩ := sl_form hv
  clear hv hf he
  by_cases h : mchkM R C xs = 0
  · have H := Lib.hid h
    obtain ⟨r, c, hrm⟩ := rm_of h
    obtain rfl := hrm.rows; obtain rfl := hrm.cols
    have HRM := Lib.hid hrm
    have hh6 := h6 h
    have HB := Lib.hid ((Below.refl w.heap.size w).alloc (Nat.le_refl _) (.cells #[.int .i64 r, .int .i64 c, .slice ad xs.length cap] 128))
    have HK := Lib.hid (Blk.new w [.int .i64 r, .int .i64 c, .slice ad xs.length cap] 128)
    by_cases hs : r = c
    · subst hs
      have hne : ((r : Int) != (r : Int)) = false := by simp
      have hE := elim_det (matF r xs) (Kept.cols (m := r) (n := r) (matF r xs) r (Nat.le_refl _))
      have hsm := kept_sml (Kept.cols (m := r) (n := r) (matF r xs) r (Nat.le_refl _)) (fun i j hi hj => hrm.dn HF.out hi hj) (by omega)
      have HEL := Lib.hid (fun (w1 : World) (u : Value) (h1 : Sl eS w1 u xs) (h2 : Env w1) => elim_any w1 u xs r r h1 hrm (fun i j hi hj => hrm.dn HF.out hi hj) (by omega) h2)
      obtain ⟨S, hS⟩ : ∃ S, (Est.start (matF r xs)).cols r r = S := ⟨_, rfl⟩
      rw [hS] at hE hsm HEL
      have HD := Lib.hid (show detS r r xs = (txt (if S.rank < r then 0 else sgB S.neg * S.last), 0) by unfold detS; rw [if_pos h, if_pos rfl, ← hE]; rfl)
      have HBG := Lib.hid (bigD (show dn S.last ≤ 1024 by have := hsm.2.1; unfold sml at this; omega))
      have HRS := Lib.hid (show resV (-S.last) = .tuple #[.string (txt (-S.last)), .int .i64 0] by unfold resV; rw [bigD (show dn (-S.last) ≤ 1024 by rw [dn_neg]; have := hsm.2.1; unfold sml at this; omega)]; rfl)
      clear h hrm h6 hS hE hsm hh6
      rcases Nat.lt_or_ge S.rank r with hq | hq
      · have HX := Lib.hid (show detS r r xs = (txt 0, 0) by rw [HD.out, if_pos hq])
        go_enter Tryz.func76, Tryz.ntmps76
        go_wp2_with (first
    | (go_at_call 99; (with_reducible refine (HEL.out _ _ (HV.out.below q1 (Nat.le_refl _)) (HE.out.below q1 (Nat.le_refl _))).mono ?_); rintro e w2 ⟨x, rfl, g, rv, rfl, hg, hk, h2⟩; have q2 := q1.trans (h2.mono q1.size); have HK2 := Lib.hid (HK1.out.below h2 (Nat.le_refl _)); have d0 := HK2.out.cell 0 _ rfl; have d1 := HK2.out.cell 1 _ rfl; have e1 := hk.cell 1 _ rfl; have e2 := hk.cell 2 _ rfl; have e3 := hk.cell 3 _ rfl; have e4 := hk.cell 4 _ rfl; clear hk)
    | (go_at_call 98; (with_reducible refine (MCheck_any _ _ _ _ xs (HV.out.below HB.out (Nat.le_refl _)) HSZ.out).mono ?_); rintro e w1 ⟨v, rfl, rfl, h1⟩; rw [H.out]; have q1 := HB.out.trans (h1.mono HB.out.size); have HK1 := Lib.hid (HK.out.below h1 (Nat.le_refl _)); have c0 := HK1.out.cell 0 _ rfl; have c1 := HK1.out.cell 1 _ rfl; have c2 := HK1.out.cell 2 _ rfl))
        go_region
        all_goals
          go_wp2_with (go_at_call 61; (with_reducible refine (Of_any _ 0 (by omega) (by omega) (HE.out.below q2.drew (Nat.le_refl _))).mono ?_); rintro e w4 ⟨v, rfl, rfl, hb4⟩; have q4 := q2.drew.trans (hb4.mono q2.size))
          go_ret2
          exact ⟨_, rfl, by rw [HX.out]; rfl, q4⟩
      · have hq' : ¬ S.rank < r := by omega
        cases hng : S.neg
        · have hsg : sgB S.neg = 1 := by rw [hng]; rfl
          have HX := Lib.hid (show detS r r xs = (txt S.last, 0) by rw [HD.out, if_neg hq', hsg, Int.one_mul])
          have HSG := Lib.hid hsg
          clear hng hsg
          go_enter Tryz.func76, Tryz.ntmps76
          go_wp2_with (first
    | (go_at_call 99; (with_reducible refine (HEL.out _ _ (HV.out.below q1 (Nat.le_refl _)) (HE.out.below q1 (Nat.le_refl _))).mono ?_); rintro e w2 ⟨x, rfl, g, rv, rfl, hg, hk, h2⟩; have q2 := q1.trans (h2.mono q1.size); have HK2 := Lib.hid (HK1.out.below h2 (Nat.le_refl _)); have d0 := HK2.out.cell 0 _ rfl; have d1 := HK2.out.cell 1 _ rfl; have e1 := hk.cell 1 _ rfl; have e2 := hk.cell 2 _ rfl; have e3 := hk.cell 3 _ rfl; have e4 := hk.cell 4 _ rfl; rw [HSG.out] at e2; clear hk)
    | (go_at_call 98; (with_reducible refine (MCheck_any _ _ _ _ xs (HV.out.below HB.out (Nat.le_refl _)) HSZ.out).mono ?_); rintro e w1 ⟨v, rfl, rfl, h1⟩; rw [H.out]; have q1 := HB.out.trans (h1.mono HB.out.size); have HK1 := Lib.hid (HK.out.below h1 (Nat.le_refl _)); have c0 := HK1.out.cell 0 _ rfl; have c1 := HK1.out.cell 1 _ rfl; have c2 := HK1.out.cell 2 _ rfl))
          go_region
          all_goals
            go_wp2_with fail
            go_ret2
            exact ⟨_, rfl, by rw [HX.out]; rfl, q2.drew⟩
        · have hsg : sgB S.neg = -1 := by rw [hng]; rfl
          have HX := Lib.hid (show detS r r xs = (txt (-S.last), 0) by rw [HD.out, if_neg hq', hsg]; congr 2; omega)
          have HSG := Lib.hid hsg
          clear hng hsg
          go_enter Tryz.func76, Tryz.ntmps76
          go_wp2_with (first
    | (go_at_call 99; (with_reducible refine (HEL.out _ _ (HV.out.below q1 (Nat.le_refl _)) (HE.out.below q1 (Nat.le_refl _))).mono ?_); rintro e w2 ⟨x, rfl, g, rv, rfl, hg, hk, h2⟩; have q2 := q1.trans (h2.mono q1.size); have HK2 := Lib.hid (HK1.out.below h2 (Nat.le_refl _)); have d0 := HK2.out.cell 0 _ rfl; have d1 := HK2.out.cell 1 _ rfl; have e1 := hk.cell 1 _ rfl; have e2 := hk.cell 2 _ rfl; have e3 := hk.cell 3 _ rfl; have e4 := hk.cell 4 _ rfl; rw [HSG.out] at e2; clear hk)
    | (go_at_call 98; (with_reducible refine (MCheck_any _ _ _ _ xs (HV.out.below HB.out (Nat.le_refl _)) HSZ.out).mono ?_); rintro e w1 ⟨v, rfl, rfl, h1⟩; rw [H.out]; have q1 := HB.out.trans (h1.mono HB.out.size); have HK1 := Lib.hid (HK.out.below h1 (Nat.le_refl _)); have c0 := HK1.out.cell 0 _ rfl; have c1 := HK1.out.cell 1 _ rfl; have c2 := HK1.out.cell 2 _ rfl))
          go_region
          all_goals
            go_wp2_with (go_at_call 100; (with_reducible refine (Neg_ok _ _ S.last (.of HBG.out) (HE.out.below q2.drew (Nat.le_refl _))).mono ?_); rintro e w4 ⟨v, rfl, rfl, hb4⟩; have q4 := q2.drew.trans (hb4.mono q2.size); rw [HRS.out])
            go_ret2
            exact ⟨_, rfl, by rw [HX.out]; rfl, q4⟩
    · have hne : ((r : Int) != (c : Int)) = true := by simp; omega
      have HX := Lib.hid (show detS r c xs = (⟨#[]⟩, 8) by unfold detS; rw [if_pos h, if_neg (by omega)])
      clear h hrm h6 hh6
      go_enter Tryz.func76, Tryz.ntmps76
      go_wp2_with (first
    | (go_at_call 98; (with_reducible refine (MCheck_any _ _ _ _ xs (HV.out.below HB.out (Nat.le_refl _)) HSZ.out).mono ?_); rintro e w1 ⟨v, rfl, rfl, h1⟩; rw [H.out]; have q1 := HB.out.trans (h1.mono HB.out.size); have HK1 := Lib.hid (HK.out.below h1 (Nat.le_refl _)); have c0 := HK1.out.cell 0 _ rfl; have c1 := HK1.out.cell 1 _ rfl; have c2 := HK1.out.cell 2 _ rfl))
      go_ret2
      exact ⟨_, rfl, by rw [HX.out]; rfl, q1⟩
  · have hne : (mchkM R C xs != 0) = true := by simp [h]
    have HX := Lib.hid (show detS R C xs = (⟨#[]⟩, mchkM R C xs) by unfold detS; rw [if_neg h])
    have HB := Lib.hid ((Below.refl w.heap.size w).alloc (Nat.le_refl _) (.cells #[.int .i64 R, .int .i64 C, .slice ad xs.length cap] 128))
    clear h h6
    go_enter Tryz.func76, Tryz.ntmps76
    go_wp2_with (go_at_call 98; (with_reducible refine (MCheck_any _ R C _ xs (HV.out.below HB.out (Nat.le_refl _)) HSZ.out).mono ?_); rintro e w1 ⟨v, rfl, rfl, h1⟩; have q1 := HB.out.trans (h1.mono HB.out.size))
    go_ret2
    exact ⟨_, rfl, by rw [HX.out]; rfl, q1⟩
end Go.Proofs.YtlnhocgjgmhfgaaGreatDoor

namespace Go.Proofs.YtlnhocgjgmhfgaaGreatDoor
open Go.RowKit
set_option maxRecDepth 100000

theorem bytesM_ne {s t : ByteArray} (h : s ≠ t) : (s.toList == t.toList) = false := by
  rw [beq_eq_false_iff_ne]
  intro e
  apply h
  rw [ByteArray.toList_eq, ByteArray.toList_eq] at e
  exact ByteArray.ext (Array.toList_inj.1 e)
end Go.Proofs.YtlnhocgjgmhfgaaGreatDoor

namespace Go.Proofs.YtlnhocgjgmhfgaaGreatDoor
open Go.RowKit
set_option maxRecDepth 100000

theorem Sl.lit {α : Type} (enc : α → Value) (w : World) (xs : List α) (e : TypeId) (h : xs.length ≤ 1000) : Sl enc (w.alloc (.cells (xs.map enc).toArray e)) (.slice (some ⟨w.heap.size, 0, none⟩) xs.length xs.length) xs :=
  Sl.ofOwns (n := xs.length) (base := 0) (e := e) ⟨by simp, .inr ⟨w.heap.size, xs.length, _, rfl, by omega, heap_alloc_new w _, by omega, by unfold maxLen; omega, by simp, by simp [List.take_of_length_le]⟩⟩
theorem MR.eq {m : MR} {R C : Int} {xs : List ByteArray} {k : Int} (h1 : m.R = R) (h2 : m.C = C) (h3 : m.xs = xs) (h4 : m.k = k) : m = ⟨R, C, xs, k⟩ := by cases m; subst h1 h2 h3 h4; rfl
theorem retM_of {P : Program} {f : FuncId} {a : Array Value} {w : World} {m : MR} {R C : Int} {xs : List ByteArray} {k : Int} (h : Calls P f a w (RetMR w m)) (e : m = ⟨R, C, xs, k⟩) : Calls P f a w (RetM w R C xs k) := by subst e; exact h
theorem retS_of {P : Program} {f : FuncId} {a : Array Value} {w : World} {p : ByteArray × Int} {t : ByteArray} {k : Int} (h : Calls P f a w (Rets fun v w' => v = .tuple #[.string p.1, .int .i64 p.2] ∧ Below w.heap.size w w')) (e : p = (t, k)) :
    Calls P f a w (Rets fun v w' => v = .tuple #[.string t, .int .i64 k] ∧ Below w.heap.size w w') := by subst e; exact h
theorem retN_of {P : Program} {f : FuncId} {a : Array Value} {w : World} {p : Nat × Int} {t : Nat} {k : Int} (h : Calls P f a w (Rets fun v w' => v = .tuple #[.int .i64 p.1, .int .i64 p.2] ∧ Below w.heap.size w w')) (e : p = (t, k)) :
    Calls P f a w (Rets fun v w' => v = .tuple #[.int .i64 t, .int .i64 k] ∧ Below w.heap.size w w') := by subst e; exact h
end Go.Proofs.YtlnhocgjgmhfgaaGreatDoor

namespace Go.Proofs.YtlnhocgjgmhfgaaGreatDoor
open Go.RowKit
set_option maxRecDepth 100000

def nine (xs : List ByteArray) : Bool := xs.all fun s => decide (s.size ≤ 9)
theorem nine_drop (xs : List ByteArray) (k : Nat) (h : k < xs.length) : nine (xs.drop k) = (decide (xs[k].size ≤ 9) && nine (xs.drop (k + 1))) := by
  rw [nine, List.drop_eq_getElem_cons h, List.all_cons]; rfl
theorem nine_iff (xs : List ByteArray) : nine xs = true ↔ ∀ s ∈ xs, s.size ≤ 9 := by simp [nine]
def lenOk (n : Nat) : Bool := !(decide (60 < n) && decide (n < 400)) && !decide (1000 < n)
def sideOk (most R C : Int) (n : Nat) : Bool := decide (R ≤ most) && decide (C ≤ most) || !sideB R || !sideB C || !decide ((n : Int) = R * C)
/-- What Few answers. -/
def few03 (most R C : Int) (xs : List ByteArray) : Bool := lenOk xs.length && nine xs && sideOk most R C xs.length
theorem few03_rm {most R C : Int} {xs : List ByteArray} (h : few03 most R C xs = true) : Fit 9 xs ∧ (mchkM R C xs = 0 → R ≤ most ∧ C ≤ most) := by
  unfold few03 at h
  simp only [Bool.and_eq_true] at h
  refine ⟨(nine_iff xs).1 h.1.2, fun hm => ?_⟩
  obtain ⟨r, c, hrm⟩ := rm_of hm
  have h1 : sideB R = true := (sideB_iff R).2 (by have := hrm.rows; have := hrm.r16; omega)
  have h2 : sideB C = true := (sideB_iff C).2 (by have := hrm.cols; have := hrm.c16; omega)
  have h3 : (xs.length : Int) = R * C := by rw [hrm.rows, hrm.cols, hrm.len]; exact Int.natCast_mul _ _
  have h4 := h.2
  unfold sideOk at h4
  rw [h1, h2, decide_eq_true h3] at h4
  simpa using h4
end Go.Proofs.YtlnhocgjgmhfgaaGreatDoor

namespace Go.Proofs.YtlnhocgjgmhfgaaGreatDoor
open Go.RowKit
set_option maxRecDepth 100000

theorem size_txt (z : Int) : (txt z).size ≤ dn z + 2 := by
  have h := itoa_len z
  simpa [txt, ByteArray.size] using h
theorem fit_cells {r c D : Nat} {A : Mat} (h : ∀ i k, i < r → k < c → dn (A i k) ≤ D) : Fit (D + 2) (cellsF r c A) := by
  intro s hs
  obtain ⟨t, ht, rfl⟩ := List.mem_map.1 hs
  have ht' : t < r * c := by simpa using ht
  have hc : 0 < c := by rcases Nat.eq_zero_or_pos c with e | e; · simp [e] at ht'
                        · exact e
  have := h (t / c) (t % c) (Nat.div_lt_of_lt_mul (by rw [Nat.mul_comm]; exact ht')) (Nat.mod_lt _ hc)
  have := size_txt (A (t / c) (t % c))
  omega
theorem matF_cells {r c i k : Nat} {A : Mat} (hi : i < r) (hk : k < c) (hb : big (A i k) = false) : matF c (cellsF r c A) i k = A i k := by
  unfold matF
  rw [List.getD_eq_getElem?_getD, cellsF_get? A hi hk]
  exact Good.num (.of hb)
theorem rm_cells {r c D : Nat} {A : Mat} (hr : r ≤ 16) (hc : c ≤ 16) (hD : D ≤ 1024) (h : ∀ i k, i < r → k < c → dn (A i k) ≤ D) : RM r c (cellsF r c A) r c :=
  rm_cellsF hr hc fun i k hi hk => bigD (Nat.le_trans (h i k hi hk) hD)
theorem rank_of {xs : List ByteArray} {r c : Nat} (h : RM r c xs r c) : ∃ k, rankS r c xs = (k, 0) ∧ Rk r c (matF c xs) k ∧ k ≤ r ∧ k ≤ c := by
  have hK := Kept.cols (m := r) (n := c) (matF c xs) c (Nat.le_refl _)
  exact ⟨_, by unfold rankS; rw [if_pos h.mchk]; rfl, hK.rk, hK.rank_le⟩
theorem rank_cells {r c D : Nat} {A : Mat} (hr : r ≤ 16) (hc : c ≤ 16) (hD : D ≤ 1024) (h : ∀ i k, i < r → k < c → dn (A i k) ≤ D) : ∃ k, rankS r c (cellsF r c A) = (k, 0) ∧ Rk r c A k ∧ k ≤ r ∧ k ≤ c := by
  obtain ⟨k, h1, h2, h3⟩ := rank_of (rm_cells hr hc hD h)
  exact ⟨k, h1, rk_congr h2 fun i j hi hj => matF_cells hi hj (bigD (Nat.le_trans (h i j hi hj) hD)), h3⟩
theorem det_of {xs : List ByteArray} {n : Nat} (h : RM n n xs n n) : detS n n xs = (txt (det n (matF n xs)), 0) := by
  unfold detS; rw [if_pos h.mchk, if_pos rfl]; rfl
theorem det_cells {n D : Nat} {A : Mat} (hn : n ≤ 16) (hD : D ≤ 1024) (h : ∀ i k, i < n → k < n → dn (A i k) ≤ D) : detS n n (cellsF n n A) = (txt (det n A), 0) := by
  rw [det_of (rm_cells hn hn hD h), det_congr fun i j hi hj => matF_cells hi hj (bigD (Nat.le_trans (h i j hi hj) hD))]
theorem prod_of {xs ys : List ByteArray} {r n p : Nat} (h : RM r n xs r n) (h' : RM n p ys n p) : prodS r n xs n p ys = ⟨r, p, cellsF r p (mulM n (matF n xs) (matF p ys)), 0⟩ := by
  unfold prodS twoM; rw [if_pos h.mchk, if_pos h'.mchk, if_pos rfl]; rfl
theorem tr_of {xs : List ByteArray} {r c : Nat} (h : RM r c xs r c) : trS r c xs = ⟨c, r, cellsF c r (tr (matF c xs)), 0⟩ := by
  unfold trS; rw [if_pos h.mchk]; rfl
theorem RM.self {R C : Int} {xs : List ByteArray} {r c : Nat} (h : RM R C xs r c) : RM r c xs r c := ⟨rfl, rfl, h.r16, h.c16, h.len, h.chk⟩
theorem Fit.big {D : Nat} {xs : List ByteArray} (h : Fit D xs) (hD : D ≤ 1000000) : ∀ s ∈ xs, s.size ≤ 1000000 := fun s hs => Nat.le_trans (h s hs) hD
/-- Functions of matrices, at right ones with few digits. -/
theorem det_call {w : World} {v : Value} {xs : List ByteArray} {n D : Nat} {A : Mat} (hv : Sl eS w v xs) (hx : xs = cellsF n n A) (hn : n ≤ 6) (hD : D ≤ 58) (h : ∀ i k, i < n → k < n → dn (A i k) ≤ D) (he : Env w) :
    Calls Tryz.prog 76 #[.agg #[.int .i64 n, .int .i64 n, v]] w (Rets fun v w' => v = .tuple #[.string (txt (det n A)), .int .i64 0] ∧ Below w.heap.size w w') := by
  subst hx
  exact retS_of (Determinant_any w n n v _ hv ((fit_cells h).mono (by omega)) (fun _ => by omega) he) (det_cells (by omega) (by omega) h)
end Go.Proofs.YtlnhocgjgmhfgaaGreatDoor
